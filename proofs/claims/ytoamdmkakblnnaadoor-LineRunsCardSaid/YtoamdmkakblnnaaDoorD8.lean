/- What the run over plain values says of the code: the parts. -/
import Derived.Test.YtoamdmkakblnnaaDoorD7
import Derived.Test.YtoamdmkakblnnaaDoorD1
set_option linter.unusedVariables false
set_option linter.unusedSimpArgs false
namespace Hd
open Go Hk
def lowOps (n : Nat) : List Oper → Bool
  | [] => true
  | o :: l => match o.dst with
    | some d => match Nat.blt d n with | true => lowOps n l | false => false
    | none => lowOps n l
def lowC (n : Nat) : Code → Bool
  | .region _ ops _ => lowOps n ops.toList
  | .seq a b => match lowC n a with | true => lowC n b | false => false
  | .cond _ a b => match lowC n a with | true => lowC n b | false => false
  | .block _ c => lowC n c
  | .loop c => lowC n c
  | .rangeFunc _ ps a b => match psLow n ps.toList with | true => (match lowC n a with | true => lowC n b | false => false) | false => false
  | _ => true
theorem lowOps_spec {n : Nat} : ∀ {l : List Oper}, lowOps n l = true → DstLow n l
  | [], _ => fun o h => by simp at h
  | a :: l, h => by
    unfold lowOps at h
    have key : (∀ d, a.dst = some d → d < n) ∧ lowOps n l = true := by
      cases hd : a.dst with
      | none => rw [hd] at h; exact ⟨fun d h => (by cases h), h⟩
      | some d =>
        rw [hd] at h
        simp only at h
        cases hb : Nat.blt d n with
        | false => rw [hb] at h; cases h
        | true => rw [hb] at h; rw [Nat.blt_eq] at hb; exact ⟨fun d' hd' => (by injection hd' with hd'; exact hd' ▸ hb), h⟩
    intro o ho
    rcases List.mem_cons.1 ho with rfl | ho
    · exact key.1
    · exact lowOps_spec key.2 o ho
section
variable {B : Tab}
def DVals (f : HP) (σ : Rz B) : (l : List VSh) → HL B.T (vshC l) → List Value → Prop
  | [], _, [] => True
  | v :: l, x, a :: as => DRel f σ (unV (fun e => e) v (HL.fst v.comps (vshC l) x)) a ∧ DVals f σ l (HL.snd v.comps (vshC l) x) as
  | _, _, _ => False
def It.Holds (it : It B) (P : Program) : Prop :=
  ∀ (G w : World) (L0 : List HProp) (f : HP) (σ : Rz B) (t : TplT B it.args) (xs : List (Tup B.T (vshC it.el))) (args : Array Value), it.fn t = some xs → args.size = slotsN it.args.items →
    SimF G L0 f σ (look (unM it.args t)) it.args.ents (fun i => i < it.args.nx + it.args.items.length) f σ (fun t => args.getD t undef) w →
    ∃ vss : List (List Value), IterOk P it.fid args f vss ∧ vss.length = xs.length ∧ ∀ (i : Nat) (x : Tup B.T (vshC it.el)) (vs : List Value), xs[i]? = some x → vss[i]? = some vs → DVals f (fun _ => none) it.el (toHL _ x) vs
def ItsOk (P : Program) (its : List (It B)) : Prop := ∀ it, it ∈ its → it.Holds P ∧ callOk P it.fid = true
structure Ctx (P : Program) (F : Fn B) (σ0 : Rz B) : Prop where
  tt : ttOk P F.tt = true
  specs : SpecsOk P F.specs
  its : ItsOk P F.its
  mixed : P.follows .mixedOrders = true
  frame : FrameB F.n0 F.E0 (look F.a0)
  base : ∀ i, F.n0 ≤ i → σ0 i = none
def Tells (F : Fn B) (G : World) (L0 : List HProp) (f0 : HP) (σ0 : Rz B) (fr : Mem B) (st : St B) (ρ : Env) (w : World) : Prop :=
  F.n0 ≤ st.nx ∧ ∃ f σ, SimF G L0 f0 σ0 (lkS F.a0 fr st.m) st.E (fun i => i < st.nx) f σ ρ w
def LoadIs (P : Program) (t : TypeId) (a : Value) (w : World) (v : Value) : Prop := ∃ ad, a = .pointer (some ad) ∧ (loadVar t ad).run P w = .ok v w
def RetEnv (P : Program) (rts : List Nat) (ρ ρ' : Env) (w : World) : Prop := (∀ t, t < bigT → ρ' t = ρ t) ∧ ∀ u, u ∈ rts → bigT ≤ u → LoadIs P (u / bigT) (ρ (u % bigT)) w (ρ' u)
def TellsR (P : Program) (F : Fn B) (G : World) (L0 : List HProp) (f0 : HP) (σ0 : Rz B) (x : TplT B F.res) (ρ : Env) (w : World) : Prop :=
  ∃ ρ', RetEnv P F.rts ρ ρ' w ∧ ∃ f σ, SimF G L0 f0 σ0 (ovl (unM F.res x) (sOff true (look F.a0))) F.res.ents (fun i => i < F.res.nx + F.res.items.length) f σ ρ' w
def CPost (P : Program) (F : Fn B) (G : World) (L0 : List HProp) (f0 : HP) (σ0 : Rz B) (fr : Mem B) {α : Type} (K : KK B (TplT B F.res) α) (r : α) : EPost
  | .normal, Ds, ρ, w => ∃ st, K.go st = some r ∧ Tells F G (Mks Ds :: L0) f0 σ0 fr st ρ w
  | .exit id, Ds, ρ, w => ∃ st, K.ex id st = some r ∧ Tells F G (Mks Ds :: L0) f0 σ0 fr st ρ w
  | .ret, Ds, ρ, w => ∃ x, K.rt x = some r ∧ Held Ds w ∧ TellsR P F G L0 f0 σ0 x ρ (shut Ds w) ∧
      (F.rts = [] → ∃ f σ, SimF G (Mks Ds :: L0) f0 σ0 (ovl (unM F.res x) (sOff true (look F.a0))) F.res.ents (fun i => i < F.res.nx + F.res.items.length) f σ ρ w)
  | _, _, _, _ => False
def Sound [Rd] (P : Program) (n : Nat) (F : Fn B) (G : World) (L0 : List HProp) (f0 : HP) (σ0 : Rz B) (c : Code) : Prop :=
  ∀ (h : Hint) (fr : Mem B) (α : Type) (st : St B) (K : KK B (TplT B F.res) α) (r : α) (Ds : List Nat) (ρ : Env) (w : World), D F c h fr st K = some r → Tells F G (Mks Ds :: L0) f0 σ0 fr st ρ w →
    EWp P n c (CPost P F G L0 f0 σ0 fr K r) Ds ρ w
variable {P : Program} {n : Nat} {F : Fn B} {G : World} {L0 : List HProp} {f0 : HP} {σ0 : Rz B} {α : Type} {fr : Mem B} {st : St B} {K : KK B (TplT B F.res) α} {r : α} {ρ : Env} {w : World}
theorem lkS_nil (a0 m fr : Mem B) : lkS a0 (m ++ fr) [] = lkS a0 fr m := by rw [lkS_ovl, lkS_ovl, ovl_nil, ovl_app]
theorem tells_cut (h : Tells F G L0 f0 σ0 fr st ρ w) : Tells F G L0 f0 σ0 (st.m ++ fr) ⟨[], st.E, st.nx⟩ ρ w := by
  obtain ⟨h1, f, σ, hs⟩ := h
  exact ⟨h1, f, σ, by rw [lkS_nil]; exact hs⟩
theorem frame_cut (h : Tells F G L0 f0 σ0 fr st ρ w) : FrameB st.nx st.E (lkS F.a0 (st.m ++ fr) []) := by
  obtain ⟨h1, f, σ, hs⟩ := h
  rw [lkS_nil]
  exact hs.frame
theorem pk_tells (hx : Ctx P F σ0) {fr' : Mem B} {n0 : Nat} {E0 : List (Nat × EH)} (hn : F.n0 ≤ n0) (hf : FrameB n0 E0 (lkS F.a0 fr' [])) {T : Tpl} {s : St B} {k : TplT B T → Option α} {r : α} (hs : Tells F G L0 f0 σ0 fr' s ρ w)
    (h : (match covered n0 false (itemKeys T.items) s.m with | true => pk F.a0 (s.m ++ fr') n0 E0 false T [] s.E s.nx k | false => none) = some r) :
    ∃ t, k t = some r ∧ Tells F G L0 f0 σ0 fr' (unSt T t) ρ w := by
  cases hc : covered n0 false (itemKeys T.items) s.m with
  | false => rw [hc] at h; cases h
  | true =>
    rw [hc] at h
    obtain ⟨h1, f, σ, hs⟩ := hs
    have hl : lkS F.a0 fr' s.m = ovl s.m (lkS F.a0 fr' []) := by rw [lkS_ovl, lkS_ovl, ovl_nil]
    rw [hl] at hs
    obtain ⟨t, f', σ', g1, g2, g3, g4⟩ := pk_sound (Mf := lkS F.a0 fr' []) (by rw [lkS_nil, hl]) hs (fun i hi => hx.base i (by omega)) hf hc h
    refine ⟨t, g1, by show F.n0 ≤ T.nx + T.items.length; omega, f', σ', ?_⟩
    rw [sOff_f] at g2
    have : lkS F.a0 fr' (unSt T t).m = ovl (unM T t) (lkS F.a0 fr' []) := by rw [lkS_ovl, lkS_ovl, ovl_nil]; rfl
    rw [this]
    exact g2
theorem tells_aft {T : Tpl} {t : TplT B T} {m : Mem B} (h : Tells F G L0 f0 σ0 (m ++ fr) (unSt T t) ρ w) : Tells F G L0 f0 σ0 fr (aft T t m) ρ w := by
  obtain ⟨h1, f, σ, hs⟩ := h
  refine ⟨h1, f, σ, ?_⟩
  have : lkS F.a0 fr (aft T t m).m = lkS F.a0 (m ++ fr) (unSt T t).m := by
    show lkS F.a0 fr (unM T t ++ m) = lkS F.a0 (m ++ fr) (unM T t)
    rw [lkS_ovl, lkS_ovl, ovl_app, ovl_app]
  rw [this]
  exact hs
theorem inX_spec {l : List (Nat × Tpl)} {id : Nat} {f : (T : Tpl) → (TplT B T → Option α) → Option α} {k : OutX B l → Option α} {r : α} : inX l id f k = some r →
    ∃ T, ∃ inj : TplT B T → OutX B l, f T (fun t => k (inj t)) = some r ∧ ∀ (t : TplT B T) {β : Type} (e : (i : Nat) → (T : Tpl) → TplT B T → Option β), onX l (inj t) e = e id T t := by
  induction l with
  | nil => intro h; cases h
  | cons x l ih =>
    obtain ⟨i, T⟩ := x
    intro h
    cases l with
    | nil =>
      unfold inX at h
      cases hb : Nat.beq i id with
      | false => rw [hb] at h; cases h
      | true =>
        rw [hb] at h
        have := Nat.eq_of_beq_eq_true hb
        subst this
        exact ⟨T, fun t => t, h, fun t β e => rfl⟩
    | cons y l =>
      unfold inX at h
      cases hb : Nat.beq i id with
      | true =>
        rw [hb] at h
        have := Nat.eq_of_beq_eq_true hb
        subst this
        exact ⟨T, fun t => .inl t, h, fun t β e => rfl⟩
      | false =>
        rw [hb] at h
        obtain ⟨T', inj, g1, g2⟩ := ih h
        exact ⟨T', fun t => .inr (inj t), g1, fun t β e => g2 t e⟩
theorem inE_spec {R : Type} {ret : Bool} {l : List (Nat × Tpl)} {id : Nat} {f : (T : Tpl) → (TplT B T → Option α) → Option α} {k : OutT B R ret l → Option α} {r : α} (h : inE ret l id f k = some r) :
    ∃ T, ∃ inj : TplT B T → OutT B R ret l, f T (fun t => k (inj t)) = some r ∧ ∀ (t : TplT B T) {β : Type} (g : R → Option β) (e : (i : Nat) → (T : Tpl) → TplT B T → Option β), onO ret l (inj t) g e = e id T t := by
  cases ret with
  | false =>
    obtain ⟨T, inj, g1, g2⟩ := inX_spec h
    exact ⟨T, inj, g1, fun t β g e => g2 t e⟩
  | true =>
    cases l with
    | nil => cases h
    | cons x l =>
      obtain ⟨T, inj, g1, g2⟩ := inX_spec (l := x :: l) h
      exact ⟨T, fun t => .inr (inj t), g1, fun t β g e => g2 t e⟩
theorem inR_spec {R : Type} {ret : Bool} {l : List (Nat × Tpl)} {x : R} {k : OutT B R ret l → Option α} {r : α} (h : inR ret l x k = some r) :
    ∃ o, k o = some r ∧ ∀ {β : Type} (g : R → Option β) (e : (i : Nat) → (T : Tpl) → TplT B T → Option β), onO ret l o g e = g x := by
  cases ret with
  | false => cases h
  | true =>
    cases l with
    | nil => exact ⟨x, h, fun g e => rfl⟩
    | cons y l => exact ⟨.inl x, h, fun g e => rfl⟩
theorem simF_shut {Ds : List Nat} {M : Loc → Option (Con B)} {E : List (Nat × EH)} {N : Nat → Prop} {f : HP} {σ : Rz B} (hs : SimF G (Mks Ds :: L0) f0 σ0 M E N f σ ρ w) : Held Ds w ∧ SimF G L0 f0 σ0 M E N f σ ρ (shut Ds w) := by
  obtain ⟨E1, L1, k1, k2, k3, k4⟩ := hs.ents
  have h4 : Wd G w f (Mks Ds :: (L1 ++ L0)) := by
    have := SepL.front L1.length (A := Mks Ds) (by simp) k4.sep
    refine ⟨k4.os, k4.tape, k4.output, k4.fro, ?_⟩
    rwa [List.eraseIdx_append_of_length_le (Nat.le_refl _), Nat.sub_self, List.eraseIdx_zero, List.tail_cons] at this
  obtain ⟨g1, g2⟩ := wd_shut h4
  exact ⟨g1, { hs with ents := ⟨E1, L1, k1, k2, k3, g2⟩ }⟩
theorem sound_skip [Rd] : Sound P n F G L0 f0 σ0 .skip := fun h fr α st K r Ds ρ w hD hs => ewp_skip ⟨st, hD, hs⟩
theorem sound_exit [Rd] {id : Nat} : Sound P n F G L0 f0 σ0 (.exit id) := fun h fr α st K r Ds ρ w hD hs => ewp_exit ⟨st, hD, hs⟩
theorem run_loadVar1 {t : TypeId} {ad : Addr} {v : Value} (ht : tyAgg P t = some false) (hc : w.cell? ad = some v) : (loadVar t ad).run P w = .ok v w := by
  obtain ⟨d, hu, hd⟩ := tyAgg_spec ht
  cases d <;> simp [descAgg] at hd <;> simp [loadVar, isAgg, underlying, hu, hc, go_sem]
theorem run_loadVarN {t : TypeId} {ad : Addr} {n : Nat} {cs : List Value} (ht : tyAgg P t = some true) (hs : tySize P t = some n) (hl : cs.length = n) (hc : ∀ j v, cs[j]? = some v → w.cell? (ad.add j) = some v) :
    (loadVar t ad).run P w = .ok (.agg cs.toArray) w := by
  obtain ⟨d, hu, hd⟩ := tyAgg_spec ht
  obtain ⟨i, hi, rfl⟩ := tySize_spec hs
  have hr := run_loadCells_list (P := P) (w := w) ad cs hc
  rw [hl] at hr
  have hr' : (loadCellsFrom ad 0 i.size #[]).run P w = .ok cs.toArray w := hr
  cases d <;> simp [descAgg] at hd <;> simp [loadVar, isAgg, underlying, hu, Go.sizeOf, typeInfo, hi, hr, hr', go_sem]
theorem retR_ran {tt : List (TI B)} (htt : ttOk P tt = true) {M : Loc → Option (Con B)} {E : List (Nat × EH)} {N : Nat → Prop} {f : HP} {σ : Rz B} {ρr : Type} {o : ρr} : ∀ {l : List Nat} {k : Mem B → RM B ρr} {rs : List Loc}, SimF G L0 f0 σ0 M E N f σ ρ w → (retR tt l k).Ran M o rs →
    ∃ m ρ' rs', (k m).Ran M o rs' ∧ RetEnv P l ρ ρ' w ∧ SimF G L0 f0 σ0 (ovl m M) E N f σ ρ' w
  | [], k, rs, hs, h => ⟨[], ρ, rs, h, ⟨fun _ _ => rfl, fun u hu => by simp at hu⟩, by rw [ovl_nil]; exact hs⟩
  | u :: l, k, rs, hs, h => by
    unfold retR at h
    cases hb : Nat.blt u bigT with
    | true =>
      rw [hb] at h
      obtain ⟨m, ρ', rs', h1, ⟨h2, h3⟩, h4⟩ := retR_ran htt hs h
      rw [Nat.blt_eq] at hb
      refine ⟨m, ρ', rs', h1, ⟨h2, fun u' hu' hbig => ?_⟩, h4⟩
      rcases List.mem_cons.1 hu' with rfl | hu'
      · omega
      · exact h3 u' hu' hbig
    | false =>
      rw [hb] at h
      have hbu : bigT ≤ u := by
        have : ¬ u < bigT := fun hlt => by rw [← Nat.blt_eq] at hlt; rw [hlt] at hb; cases hb
        omega
      obtain ⟨rs1, h1⟩ := read_ran h
      clear h
      have hsl := hs.slots (u % bigT)
      cases hM : M (.s (u % bigT)) with
      | none => rw [hM] at h1; exact h1.elim
      | some q =>
      rw [hM] at h1 hsl
      cases q <;> try exact h1.elim
      rename_i d0
      cases d0 <;> try exact h1.elim
      rename_i c0
      cases c0 <;> try exact h1.elim
      rename_i i off
      cases hti : tfind tt (u / bigT) with
      | none => rw [hti] at h1; exact h1.elim
      | some ti =>
      rw [hti] at h1
      obtain ⟨k1, hid⟩ := tfind_ok htt hti
      obtain ⟨rs2, h2⟩ := read_ran h1
      clear h1
      cases hM2 : M (.b i) with
      | none => rw [hM2] at h2; exact h2.elim
      | some q =>
      rw [hM2] at h2
      cases q <;> try exact h2.elim
      rename_i bt n
      obtain ⟨hle, h3⟩ := chk_ran h2
      clear h2
      have hle := Nat.le_of_ble_eq_true hle
      obtain ⟨E2, L2, b, vals, q1, q2, q3, q4, q5, q6, q7⟩ := take_blk hs hM2
      obtain ⟨cs, rs3, hc, h4⟩ := readC_ran hs (fun j v hv => (q6 j v hv).2) (by omega) h3
      have hsl : CRel f σ (.ptr i off : Cel B) (ρ (u % bigT)) := hsl
      obtain ⟨b', r1, hv⟩ := hsl
      rw [q4] at r1
      injection r1 with r1
      injection r1 with r1
      subst r1
      have hcell : ∀ j v, ((vals.drop off).take ti.size)[j]? = some v → w.cell? ((⟨b, off, none⟩ : Addr).add j) = some v := wd_cells 0 q7 rfl (by simp)
      have ft := tiOk_facts k1
      have fin : ∀ (d : DV B) (v : Value) (rs : List Loc), DRel f σ d v → (loadVar (u / bigT) ⟨b, off, none⟩).run P w = .ok v w → (retR tt l fun m => k ((.s u, .v d) :: m)).Ran M o rs →
          ∃ m ρ' rs', (k m).Ran M o rs' ∧ RetEnv P (u :: l) ρ ρ' w ∧ SimF G L0 f0 σ0 (ovl m M) E N f σ ρ' w := by
        intro d v rs hd hl h
        obtain ⟨m, ρ', rs', g1, ⟨g2, g3⟩, g4⟩ := retR_ran htt hs h
        refine ⟨_, Hk.upd ρ' u v, rs', g1, ⟨fun t ht => ?_, fun u' hu' hbig => ?_⟩, ?_⟩
        · have : Nat.beq t u = false := by
            cases hbq : Nat.beq t u with
            | false => rfl
            | true => have := Nat.eq_of_beq_eq_true hbq; omega
          simp only [Hk.upd, this, cond_false]
          exact g2 t ht
        · cases hbq : Nat.beq u' u with
          | true =>
            have := Nat.eq_of_beq_eq_true hbq
            subst this
            simp only [Hk.upd, hbq, cond_true]
            exact ⟨_, hv, hl⟩
          | false =>
            simp only [Hk.upd, hbq, cond_false]
            refine g3 u' ?_ hbig
            rcases List.mem_cons.1 hu' with rfl | hu'
            · simp at hbq
            · exact hu'
        · have := g4.put (d := u) hd
          rw [show ovl ((.s u, .v d) :: m) M = ovl [(.s u, .v d)] (ovl m M) from by rw [← ovl_app]; rfl]
          exact this
      cases hag : ti.agg with
      | true =>
        rw [hag] at h4
        refine fin (.agg cs) _ _ ⟨_, rfl, hc⟩ (run_loadVarN (n := ti.size) ?_ ?_ (by simp; omega) hcell) h4
        · rw [← hid, ← hag]; exact ft.agg
        · rw [← hid]; exact ft.size
      | false =>
        rw [hag] at h4
        match cs, hc, h4 with
        | [], hc, h4 => exact h4.elim
        | _ :: _ :: _, hc, h4 => exact h4.elim
        | [c], hc, h4 =>
          cases hvs : (vals.drop off).take ti.size with
          | nil => rw [hvs] at hc; exact hc.elim
          | cons v vs =>
            rw [hvs] at hc hcell
            cases vs with
            | cons _ _ => exact hc.2.elim
            | nil =>
              refine fin (.one c) v _ hc.1 (run_loadVar1 ?_ ?_) h4
              · rw [← hid, ← hag]; exact ft.agg
              · have := hcell 0 v rfl
                simpa [Addr.add] using this
theorem sound_ret [Rd] (hx : Ctx P F σ0) : Sound P n F G L0 f0 σ0 .ret := fun h fr α st K r Ds ρ w hD hs => by
  refine ewp_ret ?_
  have hD : (retR F.tt F.rts fun m => .ret m : RM B (Mem B)).go (lkS F.a0 fr st.m) [] (fun m _ => match covered F.n0 true (itemKeys F.res.items) (m ++ (st.m ++ fr)) with | true => pk F.a0 (m ++ (st.m ++ fr)) F.n0 F.E0 true F.res [] st.E st.nx K.rt | false => none) = some r := hD
  obtain ⟨h1, f, σ, hs⟩ := hs
  cases hrts : F.rts with
  | nil =>
    obtain ⟨m, rs, hr, hD⟩ := RM.go_ran hD
    rw [hrts] at hr
    obtain ⟨rfl, _⟩ : [] = m ∧ rs = [] := hr
    cases hc : covered F.n0 true (itemKeys F.res.items) ([] ++ (st.m ++ fr)) with
    | false => rw [hc] at hD; cases hD
    | true =>
      rw [hc] at hD
      have hl : lkS F.a0 fr st.m = ovl ([] ++ (st.m ++ fr)) (look F.a0) := by rw [lkS_ovl, List.nil_append, ovl_app]
      rw [hl] at hs
      obtain ⟨t, f', σ', g1, g2, g3, g4⟩ := pk_sound (Mf := look F.a0) (by rw [lkS_ovl, ovl_nil]) hs hx.base hx.frame hc hD
      obtain ⟨hh, g5⟩ := simF_shut g2
      exact ⟨t, g1, hh, ⟨ρ, ⟨fun _ _ => rfl, fun u hu => by rw [hrts] at hu; simp at hu⟩, f', σ', g5⟩, fun _ => ⟨f', σ', g2⟩⟩
  | cons u0 us =>
  obtain ⟨m, rs, hr, hD⟩ := RM.go_ran hD
  obtain ⟨hh, hs⟩ := simF_shut hs
  obtain ⟨m', ρ', rs', e1, e2, hs⟩ := retR_ran hx.tt hs hr
  obtain ⟨rfl, _⟩ : m' = m ∧ rs' = [] := e1
  cases hc : covered F.n0 true (itemKeys F.res.items) (m' ++ (st.m ++ fr)) with
  | false => rw [hc] at hD; cases hD
  | true =>
    rw [hc] at hD
    have hl : ovl m' (lkS F.a0 fr st.m) = ovl (m' ++ (st.m ++ fr)) (look F.a0) := by rw [lkS_ovl, ovl_app, ovl_app]
    rw [hl] at hs
    obtain ⟨t, f', σ', g1, g2, g3, g4⟩ := pk_sound (Mf := look F.a0) (by rw [lkS_ovl, ovl_nil]) hs hx.base hx.frame hc hD
    exact ⟨t, g1, hh, ⟨ρ', e2, f', σ', g2⟩, fun h => by rw [hrts] at h; cases h⟩
theorem sound_cond [Rd] {c : Operand} {x y : Code} (hx : Sound P n F G L0 f0 σ0 x) (hy : Sound P n F G L0 f0 σ0 y) : Sound P n F G L0 f0 σ0 (.cond c x y) := fun h fr α st K r Ds ρ w hD hs => by
  cases c with
  | tmp t =>
    have hD : (match lkS F.a0 fr st.m (.s t) with
      | some (.v (.one (.bool b))) => Bool.rec (D F y (hintR h) fr st K) (D F x (hintL h) fr st K) b
      | _ => none) = some r := hD
    split at hD <;> try contradiction
    rename_i b hb
    have hc : ev ρ (.tmp t) = .bool b := by
      obtain ⟨h1, f, σ, hs⟩ := hs
      have := hs.slots t
      rw [hb] at this
      exact this
    refine ewp_cond b hc (fun e => ?_) (fun e => ?_)
    · subst e; exact hx _ _ _ _ _ _ _ _ _ hD hs
    · subst e; exact hy _ _ _ _ _ _ _ _ _ hD hs
  | const v =>
    cases v <;> try (cases hD; done)
    rename_i b
    refine ewp_cond b rfl (fun e => ?_) (fun e => ?_)
    · subst e; exact hx _ _ _ _ _ _ _ _ _ hD hs
    · subst e; exact hy _ _ _ _ _ _ _ _ _ hD hs
  | global g => cases hD
  | func g => cases hD
theorem sound_region [Rd] (hx : Ctx P F σ0) {id : Nat} {ops : Array Oper} {draw : Bool} (hl : lowOps n ops.toList = true) : Sound P n F G L0 f0 σ0 (.region id ops draw) := fun h fr α st K r Ds ρ w hD hs => by
  obtain ⟨h1, f, σ, hs⟩ := hs
  have hD : Dops F.tt F.specs (hintC h) F.a0 fr ops.toList draw st.nx ops.toList 0 st.m st.E [] (fun m E rows =>
      match (match draw with | true => apartRows (befAll ops.toList 0 []) rows | false => true) with
      | true => K.go ⟨m, E, st.nx + stepW * ops.size⟩
      | false => none) = some r := hD
  obtain ⟨tr, m', rows', g1, g2, g3, g4⟩ := dops_ran hD
  have hops : ops.toList.toArray = ops := by simp
  have hlen : ops.toList.length = ops.size := by simp
  have fin : ∀ f σ ρ w, K.go ⟨m', entSeq tr st.E, st.nx + stepW * ops.size⟩ = some r → SimF G (Mks Ds :: L0) f0 σ0 (memSeq tr (lkS F.a0 fr st.m)) (entSeq tr st.E) (fun j => j < st.nx + stepW * ops.toList.length) f σ ρ w →
      CPost P F G L0 f0 σ0 fr K r .normal Ds ρ w := fun f σ ρ w hK hh => by
    refine ⟨_, hK, by show F.n0 ≤ st.nx + stepW * ops.size; omega, f, σ, ?_⟩
    show SimF G (Mks Ds :: L0) f0 σ0 (lkS F.a0 fr m') (entSeq tr st.E) (fun j => j < st.nx + stepW * ops.size) f σ ρ w
    rw [g3, ← hlen]
    exact hh
  cases draw with
  | false =>
    rw [← hops]
    exact region_list hx.tt hx.specs g1 (lowOps_spec hl) hs fun f σ ρ w hh => fin f σ ρ w g2 hh
  | true =>
    obtain ⟨g5, g6⟩ := g4 rfl
    subst g5
    simp only at g2
    split at g2 <;> try contradiction
    rename_i hap
    rw [← hops]
    exact region_draw hx.tt hx.specs hx.mixed g1 hap (fun j o hj => by have := g6 j o hj; rwa [Nat.zero_add] at this) (lowOps_spec hl) hs fun f σ ρ w hh => fin f σ ρ w g2 hh
theorem sound_block [Rd] {Ds : List Nat} {id : Nat} {c : Code} (hc : Sound P n F G L0 f0 σ0 c) {h : Hint} (hs : Tells F G (Mks Ds :: L0) f0 σ0 fr st ρ w)
    (hD : D F c (hintL h) fr st ⟨K.go, fun i s => match Nat.beq i id with | true => K.go s | false => K.ex i s, K.rt⟩ = some r) : EWp P n (.block id c) (CPost P F G L0 f0 σ0 fr K r) Ds ρ w := by
  refine ewp_block ((hc _ _ _ _ _ _ _ _ _ hD hs).mono fun e Ds ρ w hq => ?_)
  cases e with
  | normal => exact hq
  | ret => exact hq
  | exit i =>
    obtain ⟨s, h1, h2⟩ := hq
    show (cond (Nat.beq i id) _ _ : Prop)
    simp only at h1
    cases hb : Nat.beq i id with
    | true => rw [hb] at h1; exact ⟨s, h1, h2⟩
    | false => rw [hb] at h1; exact ⟨s, h1, h2⟩
  | goto l => exact hq.elim
  | panic c => exact hq.elim
  | outgrown => exact hq.elim
theorem sound_seq0 [Rd] {Ds : List Nat} {a b : Code} (ha : Sound P n F G L0 f0 σ0 a) (hb : Sound P n F G L0 f0 σ0 b) {h : Hint} (hs : Tells F G (Mks Ds :: L0) f0 σ0 fr st ρ w)
    (hD : D F a (hintL h) fr st ⟨fun s => D F b (hintR h) fr s K, K.ex, K.rt⟩ = some r) : EWp P n (.seq a b) (CPost P F G L0 f0 σ0 fr K r) Ds ρ w := by
  refine ewp_seq ((ha _ _ _ _ _ _ _ _ _ hD hs).mono fun e Ds ρ w hq => ?_)
  cases e with
  | normal =>
    obtain ⟨s, h1, h2⟩ := hq
    exact hb _ _ _ _ _ _ _ _ _ h1 h2
  | ret => exact hq
  | exit i => exact hq
  | goto l => exact hq.elim
  | panic c => exact hq.elim
  | outgrown => exact hq.elim
theorem sound_cut0 [Rd] {Ds : List Nat} (hx : Ctx P F σ0) {a b : Code} (ha : Sound P n F G L0 f0 σ0 a) (hb : Sound P n F G L0 f0 σ0 b) {h1 h2 : Hint} {T : Tpl} (hs : Tells F G (Mks Ds :: L0) f0 σ0 fr st ρ w)
    (hD : (D F a h1 (st.m ++ fr) (α := TplT B T) ⟨[], st.E, st.nx⟩
        ⟨fun s => match covered st.nx false (itemKeys T.items) s.m with | true => pk F.a0 (s.m ++ (st.m ++ fr)) st.nx st.E false T [] s.E s.nx some | false => none, fun _ _ => none, fun _ => none⟩).bind (fun t =>
        D F b h2 fr (aft T t st.m) K) = some r) : EWp P n (.seq a b) (CPost P F G L0 f0 σ0 fr K r) Ds ρ w := by
  obtain ⟨t, hD1, hD2⟩ := bind_some hD
  have hn := hs.1
  have hf := frame_cut hs
  refine ewp_seq ((ha _ _ _ _ _ _ _ _ _ hD1 (tells_cut hs)).mono fun e Ds ρ w hq => ?_)
  cases e with
  | normal =>
    obtain ⟨s, g1, g2⟩ := hq
    obtain ⟨t', g3, g4⟩ := pk_tells hx hn hf g2 g1
    injection g3 with g3
    subst g3
    exact hb _ _ _ _ _ _ _ _ _ hD2 (tells_aft g4)
  | ret => obtain ⟨x, g1, _⟩ := hq; cases g1
  | exit i => obtain ⟨x, g1, _⟩ := hq; cases g1
  | goto l => exact hq.elim
  | panic c => exact hq.elim
  | outgrown => exact hq.elim
theorem sound_cut [Rd] {Ds : List Nat} (hx : Ctx P F σ0) {a b : Code} (ha : Sound P n F G L0 f0 σ0 a) (hb : Sound P n F G L0 f0 σ0 b) {h1 h2 : Hint} {T : Tpl} {ret : Bool} {outs : List (Nat × Tpl)} (hs : Tells F G (Mks Ds :: L0) f0 σ0 fr st ρ w)
    {f : {β : Type} → (T' : Tpl) → (s : St B) → (k : TplT B T' → Option β) → Option β}
    (hfd : ∀ {β : Type} (T' : Tpl) (s : St B) (k : TplT B T' → Option β), f T' s k = match covered st.nx false (itemKeys T'.items) s.m with | true => pk F.a0 (s.m ++ (st.m ++ fr)) st.nx st.E false T' [] s.E s.nx k | false => none)
    (hD : (D F a h1 (st.m ++ fr) (α := Ctl (TplT B T) (OutT B (TplT B F.res) ret outs)) ⟨[], st.E, st.nx⟩
        ⟨fun s => f T s fun t => some (.go t), fun i s => inE ret outs i (fun T' k => f T' s k) fun o => some (.out o), fun r => inR ret outs r fun o => some (.out o)⟩).bind (fun x =>
        Ctl.on x (fun t => D F b h2 fr (aft T t st.m) K) (fun o => onO ret outs o K.rt fun i T' t => K.ex i (aft T' t st.m))) = some r) : EWp P n (.seq a b) (CPost P F G L0 f0 σ0 fr K r) Ds ρ w := by
  obtain ⟨x, hD1, hD2⟩ := bind_some hD
  have hn := hs.1
  have hf := frame_cut hs
  refine ewp_seq ((ha _ _ _ _ _ _ _ _ _ hD1 (tells_cut hs)).mono fun e Ds ρ w hq => ?_)
  cases e with
  | normal =>
    obtain ⟨s, g1, g2⟩ := hq
    have g1 : f T s (fun t => some (Ctl.go t)) = some x := g1
    rw [hfd] at g1
    obtain ⟨t', g3, g4⟩ := pk_tells hx hn hf g2 g1
    injection g3 with g3
    subst g3
    exact hb _ _ _ _ _ _ _ _ _ hD2 (tells_aft g4)
  | ret =>
    obtain ⟨y, g1, g2⟩ := hq
    obtain ⟨o, g3, g4⟩ := inR_spec g1
    injection g3 with g3
    subst g3
    simp only [Ctl.on] at hD2
    rw [g4] at hD2
    exact ⟨y, hD2, g2⟩
  | exit i =>
    obtain ⟨s, g1, g2⟩ := hq
    obtain ⟨T', inj, g3, g4⟩ := inE_spec g1
    rw [hfd] at g3
    obtain ⟨t', g5, g6⟩ := pk_tells hx hn hf g2 g3
    injection g5 with g5
    subst g5
    simp only [Ctl.on] at hD2
    rw [g4] at hD2
    exact ⟨_, hD2, tells_aft g6⟩
  | goto l => exact hq.elim
  | panic c => exact hq.elim
  | outgrown => exact hq.elim
theorem sound_seq [Rd] (hx : Ctx P F σ0) {a b : Code} (ha : Sound P n F G L0 f0 σ0 a) (hb : Sound P n F G L0 f0 σ0 b) : Sound P n F G L0 f0 σ0 (.seq a b) := fun h fr α st K r Ds ρ w hD hs => by
  unfold D at hD
  cases h with
  | cut T ret outs h1 h2 =>
    cases ret with
    | false =>
      cases outs with
      | nil => exact sound_cut0 hx ha hb hs hD
      | cons x l => exact sound_cut hx ha hb hs (f := fun T' s k => match covered st.nx false (itemKeys T'.items) s.m with | true => pk F.a0 (s.m ++ (st.m ++ fr)) st.nx st.E false T' [] s.E s.nx k | false => none) (fun T' s k => rfl) hD
    | true => exact sound_cut hx ha hb hs (f := fun T' s k => match covered st.nx false (itemKeys T'.items) s.m with | true => pk F.a0 (s.m ++ (st.m ++ fr)) st.nx st.E false T' [] s.E s.nx k | false => none) (fun T' s k => rfl) hD
  | _ => exact sound_seq0 ha hb hs hD
end
end Hd
set_option linter.unusedVariables false
set_option linter.unusedSimpArgs false
namespace Hd
open Go Hk
section
variable {B : Tab} {P : Program} {n : Nat} {F : Fn B} {G : World} {L0 : List HProp} {f0 : HP} {σ0 : Rz B} {α : Type} {fr : Mem B} {st : St B} {K : KK B (TplT B F.res) α} {r : α} {ρ : Env} {w : World}
variable {M M' : Loc → Option (Con B)} {f f' : HP} {σ σ' : Rz B} {E E0 : List (Nat × EH)} {N N' : Nat → Prop}
theorem pk_tells0 (hx : Ctx P F σ0) {fr' : Mem B} {n0 : Nat} {E0 : List (Nat × EH)} (hn : F.n0 ≤ n0) (hf : FrameB n0 E0 (lkS F.a0 fr' [])) {T : Tpl} {E : List (Nat × EH)} {nx : Nat} {k : TplT B T → Option α} {r : α}
    (hs : Tells F G L0 f0 σ0 fr' ⟨[], E, nx⟩ ρ w) (h : pk F.a0 fr' n0 E0 false T [] E nx k = some r) : ∃ t, k t = some r ∧ Tells F G L0 f0 σ0 fr' (unSt T t) ρ w :=
  pk_tells (s := ⟨[], E, nx⟩) hx hn hf hs h
theorem sound_un [Rd] {Ds : List Nat} {id : Nat} {c : Code} (hc : Sound P n F G L0 f0 σ0 c) {k : Nat} {h : Hint} (hs : Tells F G (Mks Ds :: L0) f0 σ0 fr st ρ w)
    (hD : Nat.rec (motive := fun _ => Hint → St B → Option α) (fun _ _ => none) (fun _ ih h s => D F c (hintL h) fr s ⟨ih (hintR h), fun i s => match Nat.beq i id with | true => K.go s | false => K.ex i s, K.rt⟩) k h st = some r) : EWp P n (.block id (.loop c)) (CPost P F G L0 f0 σ0 fr K r) Ds ρ w := by
  refine ewp_block (ewp_loop (fun k Ds ρ w => ∃ h s, Nat.rec (motive := fun _ => Hint → St B → Option α) (fun _ _ => none) (fun _ ih h s => D F c (hintL h) fr s ⟨ih (hintR h), fun i s => match Nat.beq i id with | true => K.go s | false => K.ex i s, K.rt⟩) k h s = some r ∧ Tells F G (Mks Ds :: L0) f0 σ0 fr s ρ w) k ⟨h, st, hD, hs⟩ ?_)
  rintro k Ds ρ w ⟨h, s, h1, h2⟩
  cases k with
  | zero => cases h1
  | succ k =>
    refine (hc _ _ _ _ _ _ _ _ _ h1 h2).mono fun e Ds ρ w hq => ?_
    cases e with
    | normal => obtain ⟨s', g1, g2⟩ := hq; exact ⟨k, Nat.lt_succ_self _, _, s', g1, g2⟩
    | ret => exact hq
    | exit i =>
      obtain ⟨s', g1, g2⟩ := hq
      show (cond (Nat.beq i id) _ _ : Prop)
      simp only at g1
      cases hb : Nat.beq i id with
      | true => rw [hb] at g1; exact ⟨s', g1, g2⟩
      | false => rw [hb] at g1; exact ⟨s', g1, g2⟩
    | goto l => exact hq.elim
    | panic c => exact hq.elim
    | outgrown => exact hq.elim
theorem sound_lp [Rd] {Ds : List Nat} (hx : Ctx P F σ0) {id : Nat} {c : Code} (hc : Sound P n F G L0 f0 σ0 c) {h : Hint} {T TX : Tpl} {ret : Bool} {outs : List (Nat × Tpl)} (hs : Tells F G (Mks Ds :: L0) f0 σ0 fr st ρ w)
    {f : {β : Type} → (T' : Tpl) → (s : St B) → (k : TplT B T' → Option β) → Option β}
    (hfd : ∀ {β : Type} (T' : Tpl) (s : St B) (k : TplT B T' → Option β), f T' s k = match covered st.nx false (itemKeys T'.items) s.m with | true => pk F.a0 (s.m ++ (st.m ++ fr)) st.nx st.E false T' [] s.E s.nx k | false => none)
    (hD : pk F.a0 (st.m ++ fr) st.nx st.E false T [] st.E st.nx (fun t0 =>
        (iter (σ := TplT B T) (X := Ctl (TplT B TX) (OutT B (TplT B F.res) ret outs)) (fun t => D F c h (st.m ++ fr) (unSt T t)
          ⟨fun s => f T s fun t => some (.go t),
            fun i s => match Nat.beq i id with | true => f TX s fun t => some (.out (.go t)) | false => inE ret outs i (fun T' k => f T' s k) fun o => some (.out (.out o)),
            fun r => inR ret outs r fun o => some (.out (.out o))⟩) t0).bind fun x =>
          Ctl.on x (fun t => K.go (aft TX t st.m)) (fun o => onO ret outs o K.rt fun i T' t => K.ex i (aft T' t st.m))) = some r) : EWp P n (.block id (.loop c)) (CPost P F G L0 f0 σ0 fr K r) Ds ρ w := by
  have hn := hs.1
  have hf := frame_cut hs
  obtain ⟨t0, hD1, ht0⟩ := pk_tells0 hx hn hf (tells_cut hs) hD
  obtain ⟨x, hD2, hD3⟩ := bind_some hD1
  obtain ⟨k, hk⟩ := N_of_iter hD2
  refine ewp_block (ewp_loop (fun k Ds ρ w => ∃ t, iterN _ k t = some x ∧ Tells F G (Mks Ds :: L0) f0 σ0 (st.m ++ fr) (unSt T t) ρ w) k ⟨t0, hk, ht0⟩ ?_)
  rintro k Ds ρ w ⟨t, hit, ht⟩
  cases k with
  | zero => cases hit
  | succ k =>
    obtain ⟨ct, hct, hit⟩ := bind_some (show (_ : Option _).bind _ = some x from hit)
    refine (hc _ _ _ _ _ _ _ _ _ hct ht).mono fun e Ds ρ w hq => ?_
    cases e with
    | normal =>
      obtain ⟨s, g1, g2⟩ := hq
      have g1 : f T s (fun t => some (Ctl.go t)) = some ct := g1
      rw [hfd] at g1
      obtain ⟨t', g3, g4⟩ := pk_tells hx hn hf g2 g1
      injection g3 with g3
      subst g3
      exact ⟨k, Nat.lt_succ_self _, t', hit, g4⟩
    | ret =>
      obtain ⟨y, g1, g2⟩ := hq
      obtain ⟨o, g3, g4⟩ := inR_spec g1
      injection g3 with g3
      subst g3
      injection hit with hit
      subst hit
      simp only [Ctl.on] at hD3
      rw [g4] at hD3
      exact ⟨y, hD3, g2⟩
    | exit i =>
      obtain ⟨s, g1, g2⟩ := hq
      show (cond (Nat.beq i id) _ _ : Prop)
      simp only at g1
      cases hb : Nat.beq i id with
      | true =>
        rw [hb] at g1
        have g1 : f TX s (fun t => some (Ctl.out (Ctl.go t))) = some ct := g1
        rw [hfd] at g1
        obtain ⟨t', g3, g4⟩ := pk_tells hx hn hf g2 g1
        injection g3 with g3
        subst g3
        injection hit with hit
        subst hit
        exact ⟨_, hD3, tells_aft g4⟩
      | false =>
        rw [hb] at g1
        obtain ⟨T', inj, g3, g4⟩ := inE_spec g1
        rw [hfd] at g3
        obtain ⟨t', g5, g6⟩ := pk_tells hx hn hf g2 g3
        injection g5 with g5
        subst g5
        injection hit with hit
        subst hit
        simp only [Ctl.on] at hD3
        rw [g4] at hD3
        exact ⟨_, hD3, tells_aft g6⟩
    | goto l => exact hq.elim
    | panic c => exact hq.elim
    | outgrown => exact hq.elim
theorem SimF.weak (hs : SimF G L0 f0 σ0 M E N f σ ρ w) (h : ∀ l, M' l = M l ∨ ∃ t, l = .s t ∧ M' l = some (.v (.one .und))) : SimF G L0 f0 σ0 M' E N f σ ρ w :=
  hs.reslot (fun l hl => (h l).elim id fun ⟨t, e, _⟩ => absurd e (hl t)) fun t => by
    rcases h (.s t) with h1 | ⟨_, _, h1⟩
    · rw [h1]; exact hs.slots t
    · rw [h1]; trivial
theorem FrameB.slot {n0 : Nat} (h : FrameB n0 E0 M) {t : Nat} {d : DV B} (hd : BndD n0 d) : FrameB n0 E0 (ovl [(.s t, .v d)] M) := by
  have hne : ∀ l, (∀ t, l ≠ .s t) → ovl [(.s t, .v d)] M l = M l := fun l hl => ovl_none (look_cons_ne (fun e => hl t e.symm) _ _)
  refine ⟨fun t' d' h1 => ?_, fun c j x h1 => h.clos c j x ?_, fun i e xs nn h1 => h.fzs i e xs nn ?_, fun i e x h1 => h.fzbs i e x ?_, fun i e xs s nn h1 => h.arrs i e xs s nn ?_, fun i e rows s k hole nn h1 => h.grds i e rows s k hole nn ?_, fun i k v m h1 => h.mps i k v m ?_, fun i k e m key pd h1 => h.mphs i k e m key pd ?_, fun i ty m h1 => h.blks i ty m ?_, fun i k h1 => ?_⟩
  · by_cases e : t = t'
    · subst e
      rw [ovl_some (look_cons_self _ _ _)] at h1
      injection h1 with h1
      injection h1 with h1
      subst h1
      exact hd
    · rw [ovl_none (look_cons_ne (by simpa using e) _ _)] at h1
      exact h.slots t' d' h1
  · rw [hne (.k c j) (by simp)] at h1; exact h1
  · rw [hne (.a i) (by simp)] at h1; exact h1
  · rw [hne (.b i) (by simp)] at h1; exact h1
  · rw [hne (.a i) (by simp)] at h1; exact h1
  · rw [hne (.a i) (by simp)] at h1; exact h1
  · rw [hne (.a i) (by simp)] at h1; exact h1
  · rw [hne (.a i) (by simp)] at h1; exact h1
  · rw [hne (.b i) (by simp)] at h1; exact h1
  · have := h.ents i k h1
    cases k with
    | arr e => obtain ⟨g1, xs, s, nn, g2⟩ := this; exact ⟨g1, xs, s, nn, by rw [hne (.a i) (by simp)]; exact g2⟩
    | grid e => obtain ⟨g1, rows, s, k, hole, nn, g2⟩ := this; exact ⟨g1, rows, s, k, hole, nn, by rw [hne (.a i) (by simp)]; exact g2⟩
    | mp kt vt => exact this
    | blk ty m =>
      obtain ⟨g1, g2, g3⟩ := this
      refine ⟨g1, by rw [hne (.b i) (by simp)]; exact g2, fun j hj => ?_⟩
      obtain ⟨c, g4, g5⟩ := g3 j hj
      exact ⟨c, by rw [hne (.c i j) (by simp)]; exact g4, g5⟩
theorem nbeq_false {a b : Nat} (h : Nat.beq a b = false) : a ≠ b := fun e => by subst e; simp at h
theorem rgParts_spec {id : Nat} {l1 l2 : List Oper} {cd : Code} {g : RgP} (h : rgParts id l1 cd l2 = some g) :
    ∃ a1 a2 a3 a4 a5 b1 b2 b3 b4 b5 c1 c2 c3, l1 = [⟨some g.tc, .binOp .lss a1 (.tmp g.ti) (.tmp g.tn) a2, a3, a4, a5, none⟩] ∧ cd = .cond (.tmp g.tc) .skip (.exit id) ∧
      l2 = [⟨some g.tp, .binOp .add b1 (.tmp g.ti) (.const (.int .i64 1)) b2, b3, b4, b5, none⟩, ⟨some g.ti, .move (.tmp g.tp), c1, c2, c3, none⟩] ∧ g.ti ≠ g.tn ∧ g.tc ≠ g.ti ∧ g.tc ≠ g.tn ∧ g.tp ≠ g.ti ∧ g.tp ≠ g.tn := by
  unfold rgParts at h
  split at h <;> try contradiction
  split at h <;> try contradiction
  rename_i hq
  injection h with h
  subst h
  simp only [Bool.and_eq_true, Bool.not_eq_true'] at hq
  obtain ⟨⟨⟨⟨⟨⟨⟨⟨⟨q1, q2⟩, q3⟩, q4⟩, q5⟩, q6⟩, q7⟩, q8⟩, q9⟩, q10⟩ := hq
  have := Nat.eq_of_beq_eq_true q1; subst this
  have := Nat.eq_of_beq_eq_true q2; subst this
  have := Nat.eq_of_beq_eq_true q3; subst this
  have := Nat.eq_of_beq_eq_true q4; subst this
  have := Nat.eq_of_beq_eq_true q5; subst this
  exact ⟨_, _, _, _, _, _, _, _, _, _, _, _, _, rfl, rfl, rfl, nbeq_false q6, nbeq_false q7, nbeq_false q8, nbeq_false q9, nbeq_false q10⟩
def rgSl (B : Tab) (g : RgP) (c i : Cel B) : Mem B := [(.s g.tc, .v (.one c)), (.s g.ti, .v (.one i)), (.s g.tp, .v (.one .und))]
theorem rgSl_free {g : RgP} {T : Tpl} (h : rgFree g (itemKeys T.items) = true) (t : TplT B T) : look (unM T t) (.s g.ti) = none ∧ look (unM T t) (.s g.tn) = none ∧ look (unM T t) (.s g.tc) = none ∧ look (unM T t) (.s g.tp) = none := by
  unfold rgFree at h
  simp only [Bool.and_eq_true, Bool.not_eq_true'] at h
  have key : ∀ l, memL (itemKeys T.items) l = false → look (unM T t) l = none := fun l hl => by
    cases hq : look (unM T t) l with
    | none => rfl
    | some c => rw [memL_iff.2 (unItems_fit (look_mem hq)).1] at hl; cases hl
  exact ⟨key _ h.1.1.1, key _ h.1.1.2, key _ h.1.2, key _ h.2⟩
theorem rgSl_other {g : RgP} {c i : Cel B} {l : Loc} (h1 : l ≠ .s g.tc) (h2 : l ≠ .s g.ti) (h3 : l ≠ .s g.tp) : ovl (rgSl B g c i) M l = M l := by
  refine ovl_none ?_
  unfold rgSl
  rw [look_cons_ne (Ne.symm h1), look_cons_ne (Ne.symm h2), look_cons_ne (Ne.symm h3)]
  rfl
theorem rgSl_tc {g : RgP} {c i : Cel B} : ovl (rgSl B g c i) M (.s g.tc) = some (.v (.one c)) := ovl_some (look_cons_self _ _ _)
theorem rgSl_ti {g : RgP} {c i : Cel B} (h : g.tc ≠ g.ti) : ovl (rgSl B g c i) M (.s g.ti) = some (.v (.one i)) := by
  refine ovl_some ?_
  unfold rgSl
  rw [look_cons_ne (by simpa using h), look_cons_self]
theorem ev_one {a1 a2 a3 a4 a5} {tc ti tn : Nat} {i v : Int} (hi : ρ ti = .int .i64 i) (hv : ρ tn = .int .i64 v) :
    (execOp (ev ρ) ⟨some tc, .binOp .lss a1 (.tmp ti) (.tmp tn) a2, a3, a4, a5, none⟩).run P w = .ok (.value (.bool (decide (i < v)))) w := by
  refine run_pev ?_
  simp only [pev, ev, hi, hv, if_true, ibin]
theorem ev_two {b1 b2 b3 b4 b5} {tp ti : Nat} {i : Int} (hi : ρ ti = .int .i64 i) :
    (execOp (ev ρ) ⟨some tp, .binOp .add b1 (.tmp ti) (.const (.int .i64 1)) b2, b3, b4, b5, none⟩).run P w = .ok (.value (.int .i64 (IntKind.i64.wrap (i + 1)))) w := by
  refine run_pev ?_
  simp only [pev, ev, hi, if_true, ibin]
theorem ev_mv {c1 c2 c3} {ti tp : Nat} : (execOp (ev ρ) ⟨some ti, .move (.tmp tp), c1, c2, c3, none⟩).run P w = .ok (.value (ρ tp)) w := run_pev rfl
def RgI (F : Fn B) (G : World) (L0 : List HProp) (f0 : HP) (σ0 : Rz B) (g : RgP) (T : Tpl) (Mb : Loc → Option (Con B)) (c : Cel B) (i : Nat) (t : TplT B T) (ρ : Env) (w : World) : Prop :=
  F.n0 ≤ T.nx + T.items.length ∧ ∃ f σ, SimF G L0 f0 σ0 (ovl (unM T t) (ovl (rgSl B g c (.int .i64 (i : Int))) Mb)) T.ents (fun j => j < T.nx + T.items.length) f σ ρ w
theorem sound_rg [Rd] {Ds : List Nat} (hx : Ctx P F σ0) {id i1 i2 : Nat} {r1 r2 : Array Oper} {cd body : Code} (hb : Sound P n F G L0 f0 σ0 body) (hl1 : lowOps n r1.toList = true) (hl2 : lowOps n r2.toList = true) {h : Hint} {T : Tpl} {ret : Bool} {g : RgP}
    (hg : rgParts id r1.toList cd r2.toList = some g) (hfree : rgFree g (itemKeys T.items) = true) {m : Nat} {c : Cel B} {v : Int} (hti : lkS F.a0 fr st.m (.s g.ti) = some (.v (.one (.int .i64 0)))) (htn : lkS F.a0 fr st.m (.s g.tn) = some (.v (.one c)))
    (hcv : ∀ (f : HP) (σ : Rz B) (u : Value), CRel f σ c u → u = .int .i64 v) (hv : ∀ i : Nat, (i : Int) < v ↔ i < m) (hm : m ≤ 9223372036854775807) (hs : Tells F G (Mks Ds :: L0) f0 σ0 fr st ρ w)
    {rfr : Nat → Mem B} (hrfr : ∀ i, rfr i = (.s g.tc, .v (.one (.bool true))) :: (.s g.ti, .v (.one (.int .i64 (i : Int)))) :: (.s g.tp, .v (.one .und)) :: (st.m ++ fr))
    {f : {β : Type} → (i : Nat) → (s : St B) → (k : TplT B T → Option β) → Option β}
    (hfd : ∀ {β : Type} (i : Nat) (s : St B) (k : TplT B T → Option β), f i s k = match covered st.nx false (itemKeys T.items) s.m with | true => pk F.a0 (s.m ++ rfr i) st.nx st.E false T [] s.E s.nx k | false => none)
    (hD : pk F.a0 ((.s g.tc, .v (.one .und)) :: (.s g.ti, .v (.one .und)) :: (.s g.tp, .v (.one .und)) :: (st.m ++ fr)) st.nx st.E false T [] st.E st.nx (fun t0 =>
          (forC (α := Nat) (σ := TplT B T) (X := OutT B (TplT B F.res) ret []) (fun i _ t => D F body h (rfr i) (unSt T t)
            ⟨fun s => f i s fun t => some (.go t), fun j s => match Nat.beq j id with | true => f i s fun t => some (.out (.go t)) | false => none,
              fun r => inR ret [] r fun o => some (.out (.out o))⟩) (List.range m) t0).bind fun x =>
            Ctl.on x (fun t => K.go (aft T t ((.s g.tc, .v (.one .und)) :: (.s g.ti, .v (.one .und)) :: (.s g.tp, .v (.one .und)) :: st.m))) (fun o => onO ret [] o K.rt fun _ _ _ => none)) = some r) :
    EWp P n (.block id (.loop (.seq (.region i1 r1 false) (.seq cd (.seq body (.region i2 r2 false)))))) (CPost P F G L0 f0 σ0 fr K r) Ds ρ w := by
  obtain ⟨a1, a2, a3, a4, a5, b1, b2, b3, b4, b5, c1, c2, c3, e1, e2, e3, n1, n2, n3, n4, n5⟩ := rgParts_spec hg
  have hr1 : r1 = r1.toList.toArray := by simp
  have hr2 : r2 = r2.toList.toArray := by simp
  rw [e1] at hr1 hl1
  rw [e3] at hr2 hl2
  subst hr1 hr2 e2
  have d1 := lowOps_spec hl1
  have d2 := lowOps_spec hl2
  have ltc : g.tc < n := d1 _ (List.mem_cons_self ..) _ rfl
  have ltp : g.tp < n := d2 _ (List.mem_cons_self ..) _ rfl
  have lti : g.ti < n := d2 _ (List.mem_cons_of_mem _ (List.mem_cons_self ..)) _ rfl
  clear hg hl1 hl2 d1 d2 e1 e3
  have hn := hs.1
  have hf0 := frame_cut hs
  generalize hMb : lkS F.a0 (st.m ++ fr) [] = Mb at hf0
  have hMb' : lkS F.a0 fr st.m = Mb := by rw [← hMb, lkS_nil]
  rw [hMb'] at hti htn
  have lk3 : ∀ (c i : Cel B) (m' : Mem B), lkS F.a0 ((.s g.tc, .v (.one c)) :: (.s g.ti, .v (.one i)) :: (.s g.tp, .v (.one .und)) :: (st.m ++ fr)) m' = ovl m' (ovl (rgSl B g c i) Mb) := fun c i m' => by
    rw [lkS_ovl, ← hMb, lkS_ovl, ovl_nil, show ((Loc.s g.tc, Con.v (DV.one c)) :: (Loc.s g.ti, Con.v (DV.one i)) :: (Loc.s g.tp, Con.v (DV.one .und)) :: (st.m ++ fr)) = rgSl B g c i ++ (st.m ++ fr) from rfl, ovl_app (rgSl B g c i)]
  have hfr : ∀ (c i : Cel B), BndC st.nx c → BndC st.nx i → FrameB st.nx st.E (ovl (rgSl B g c i) Mb) := fun c i hc hi => by
    have : ovl (rgSl B g c i) Mb = ovl [(.s g.tc, .v (.one c))] (ovl [(.s g.ti, .v (.one i))] (ovl [(.s g.tp, .v (.one .und))] Mb)) := by
      rw [← ovl_app, ← ovl_app]; rfl
    rw [this]
    exact FrameB.slot (d := .one c) (FrameB.slot (d := .one i) (FrameB.slot (d := .one .und) hf0 trivial) hi) hc
  have rti : ρ g.ti = .int .i64 0 := by
    obtain ⟨_, f, σ, hs⟩ := hs
    have := hs.slots g.ti
    rw [hMb', hti] at this
    exact this
  have hs0 : Tells F G (Mks Ds :: L0) f0 σ0 ((.s g.tc, .v (.one .und)) :: (.s g.ti, .v (.one .und)) :: (.s g.tp, .v (.one .und)) :: (st.m ++ fr)) ⟨[], st.E, st.nx⟩ ρ w := by
    obtain ⟨h1, f, σ, hs⟩ := hs
    refine ⟨h1, f, σ, ?_⟩
    show SimF G (Mks Ds :: L0) f0 σ0 (lkS F.a0 _ []) st.E _ f σ ρ w
    rw [lk3, ovl_nil]
    rw [hMb'] at hs
    refine hs.weak fun l => ?_
    by_cases q1 : l = .s g.tc
    · subst q1; exact .inr ⟨_, rfl, rgSl_tc⟩
    · by_cases q2 : l = .s g.ti
      · subst q2; exact .inr ⟨_, rfl, rgSl_ti n2⟩
      · by_cases q3 : l = .s g.tp
        · subst q3
          refine .inr ⟨_, rfl, ovl_some ?_⟩
          unfold rgSl
          rw [look_cons_ne (Ne.symm q1), look_cons_ne (Ne.symm q2), look_cons_self]
        · exact .inl (rgSl_other q1 q2 q3)
  obtain ⟨t0, hD1, ht0⟩ := pk_tells0 hx hn (by rw [lk3, ovl_nil]; exact hfr .und .und trivial trivial) hs0 hD
  obtain ⟨x, hD2, hD3⟩ := bind_some hD1
  unfold forC at hD2
  rw [Option.map_eq_some_iff] at hD2
  obtain ⟨fin, hfin, hflat⟩ := hD2
  have hI0 : RgI F G (Mks Ds :: L0) f0 σ0 g T Mb .und 0 t0 ρ w := by
    obtain ⟨h1, f, σ, hs⟩ := ht0
    refine ⟨h1, f, σ, ?_⟩
    have hs : SimF G (Mks Ds :: L0) f0 σ0 (lkS F.a0 _ (unM T t0)) T.ents (fun i => i < T.nx + T.items.length) f σ ρ w := hs
    rw [lk3] at hs
    have h2 := hs.put (d := g.ti) (x := .one (.int .i64 ((0 : Nat) : Int))) (v := .int .i64 0) rfl
    rw [upd_self rti] at h2
    obtain ⟨u1, u2, u3, u4⟩ := rgSl_free hfree t0
    refine h2.weak fun l => .inl ?_
    by_cases q2 : l = .s g.ti
    · subst q2
      rw [ovl_none u1, rgSl_ti n2, ovl_some (look_cons_self _ _ _)]
    · rw [ovl_none (m := [(Loc.s g.ti, _)]) (look_cons_ne (Ne.symm q2) _ _)]
      unfold ovl
      cases look (unM T t0) l with
      | some c => rfl
      | none =>
        simp only
        by_cases q1 : l = .s g.tc
        · subst q1; rw [show look (rgSl B g .und (.int .i64 ((0:Nat):Int))) (.s g.tc) = some (.v (.one .und)) from look_cons_self _ _ _, show look (rgSl B g .und .und) (.s g.tc) = some (.v (.one .und)) from look_cons_self _ _ _]
        · unfold rgSl
          rw [look_cons_ne (Ne.symm q1), look_cons_ne (Ne.symm q2), look_cons_ne (Ne.symm q1), look_cons_ne (Ne.symm q2)]
  have vals : ∀ {L0 : List HProp} {i : Nat} {t : TplT B T} {ρ : Env} {w : World} {c' : Cel B}, RgI F G L0 f0 σ0 g T Mb c' i t ρ w → ρ g.ti = .int .i64 (i : Int) ∧ ρ g.tn = .int .i64 v := by
    intro _ i t ρ w c' hI
    obtain ⟨_, f, σ, hs⟩ := hI
    obtain ⟨u1, u2, u3, u4⟩ := rgSl_free hfree t
    have h1 := hs.slots g.ti
    have h2 := hs.slots g.tn
    rw [ovl_none u1, rgSl_ti n2] at h1
    rw [ovl_none u2, rgSl_other (by simpa using Ne.symm n3) (by simpa using Ne.symm n1) (by simpa using Ne.symm n5), htn] at h2
    exact ⟨h1, hcv _ _ _ h2⟩
  have setc : ∀ {L0 : List HProp} {i : Nat} {t : TplT B T} {ρ : Env} {w : World} {c' c'' : Cel B} {u : Value}, RgI F G L0 f0 σ0 g T Mb c' i t ρ w → (∀ f σ, CRel f σ c'' u) → RgI F G L0 f0 σ0 g T Mb c'' i t (upd ρ g.tc u) w := by
    intro _ i t ρ w c' c'' u hI hu
    obtain ⟨h1, f, σ, hs⟩ := hI
    refine ⟨h1, f, σ, ?_⟩
    have h2 := hs.put (d := g.tc) (x := .one c'') (v := u) (hu f σ)
    obtain ⟨u1, u2, u3, u4⟩ := rgSl_free hfree t
    refine h2.weak fun l => .inl ?_
    by_cases q1 : l = .s g.tc
    · subst q1
      rw [ovl_none u3, rgSl_tc, ovl_some (look_cons_self _ _ _)]
    · rw [ovl_none (m := [(Loc.s g.tc, _)]) (look_cons_ne (Ne.symm q1) _ _)]
      unfold ovl
      cases look (unM T t) l with
      | some c => rfl
      | none =>
        simp only
        unfold rgSl
        rw [look_cons_ne (Ne.symm q1), look_cons_ne (Ne.symm q1)]
  have next : ∀ {L0 : List HProp} {i : Nat} {t : TplT B T} {ρ : Env} {w : World} {c' : Cel B} {u : Value}, RgI F G L0 f0 σ0 g T Mb c' i t ρ w → RgI F G L0 f0 σ0 g T Mb .und (i + 1) t (upd (upd ρ g.tp u) g.ti (.int .i64 ((i + 1 : Nat) : Int))) w := by
    intro _ i t ρ w c' u hI
    obtain ⟨h1, f, σ, hs⟩ := hI
    refine ⟨h1, f, σ, ?_⟩
    have h2 := (hs.put (d := g.tp) (x := .one .und) (v := u) trivial).put (d := g.ti) (x := .one (.int .i64 ((i + 1 : Nat) : Int))) (v := .int .i64 ((i + 1 : Nat) : Int)) rfl
    obtain ⟨u1, u2, u3, u4⟩ := rgSl_free hfree t
    refine h2.weak fun l => ?_
    by_cases q1 : l = .s g.tc
    · subst q1
      exact .inr ⟨_, rfl, by rw [ovl_none u3, rgSl_tc]⟩
    · left
      by_cases q2 : l = .s g.ti
      · subst q2
        rw [ovl_none u1, rgSl_ti n2, ovl_some (look_cons_self _ _ _)]
      · rw [ovl_none (m := [(Loc.s g.ti, _)]) (look_cons_ne (Ne.symm q2) _ _)]
        by_cases q3 : l = .s g.tp
        · subst q3
          rw [ovl_none u4, ovl_some (look_cons_self _ _ _)]
          refine ovl_some ?_
          unfold rgSl
          rw [look_cons_ne (Ne.symm q1), look_cons_ne (Ne.symm q2), look_cons_self]
        · rw [ovl_none (m := [(Loc.s g.tp, _)]) (look_cons_ne (Ne.symm q3) _ _)]
          unfold ovl
          cases look (unM T t) l with
          | some c => rfl
          | none =>
            simp only
            unfold rgSl
            rw [look_cons_ne (Ne.symm q1), look_cons_ne (Ne.symm q2), look_cons_ne (Ne.symm q3), look_cons_ne (Ne.symm q1), look_cons_ne (Ne.symm q2), look_cons_ne (Ne.symm q3)]
  have after : ∀ {L0 : List HProp} {c' i' : Cel B} {t : TplT B T} {ρ : Env} {w : World} {f : HP} {σ : Rz B}, F.n0 ≤ T.nx + T.items.length → SimF G L0 f0 σ0 (ovl (unM T t) (ovl (rgSl B g c' i') Mb)) T.ents (fun j => j < T.nx + T.items.length) f σ ρ w →
      Tells F G L0 f0 σ0 fr (aft T t ((.s g.tc, .v (.one .und)) :: (.s g.ti, .v (.one .und)) :: (.s g.tp, .v (.one .und)) :: st.m)) ρ w := by
    intro L0' c' i' t ρ w f σ h1 hs
    refine ⟨h1, f, σ, ?_⟩
    show SimF G L0' f0 σ0 (lkS F.a0 fr (unM T t ++ (rgSl B g .und .und ++ st.m))) T.ents _ f σ ρ w
    rw [lkS_up, lkS_up, hMb']
    obtain ⟨u1, u2, u3, u4⟩ := rgSl_free hfree t
    refine hs.weak fun l => ?_
    by_cases q1 : l = .s g.tc
    · subst q1; exact .inr ⟨_, rfl, by rw [ovl_none u3, rgSl_tc]⟩
    · by_cases q2 : l = .s g.ti
      · subst q2; exact .inr ⟨_, rfl, by rw [ovl_none u1, rgSl_ti n2]⟩
      · left
        unfold ovl
        cases look (unM T t) l with
        | some c => rfl
        | none =>
          simp only
          unfold rgSl
          rw [look_cons_ne (Ne.symm q1), look_cons_ne (Ne.symm q2), look_cons_ne (Ne.symm q1), look_cons_ne (Ne.symm q2)]
  have head : ∀ {Q : EPost} {rest : Code} {i : Nat} {t : TplT B T} {Ds : List Nat} {ρ : Env} {w : World}, RgI F G (Mks Ds :: L0) f0 σ0 g T Mb .und i t ρ w →
      (∀ ρ w, i < m → RgI F G (Mks Ds :: L0) f0 σ0 g T Mb (.bool true) i t ρ w → EWp P n rest Q Ds ρ w) → (∀ ρ w, ¬ i < m → RgI F G (Mks Ds :: L0) f0 σ0 g T Mb (.bool false) i t ρ w → Q (.exit id) Ds ρ w) →
      EWp P n (.seq (.region i1 [⟨some g.tc, .binOp .lss a1 (.tmp g.ti) (.tmp g.tn) a2, a3, a4, a5, none⟩].toArray false) (.seq (.cond (.tmp g.tc) .skip (.exit id)) rest)) Q Ds ρ w := by
    intro Q rest i t Ds ρ w hI h1 h2
    obtain ⟨v1, v2⟩ := vals hI
    refine ewp_seq (ewp_region (el_val rfl rfl (by rw [Nat.blt_eq]; exact ltc) (ev_one v1 v2) (el_nil ?_)))
    have hI' := setc (c'' := .bool (decide ((i : Int) < v))) hI (fun f σ => rfl)
    show EWp P n _ Q _ _ w
    refine ewp_seq (ewp_cond (decide ((i : Int) < v)) (by show upd ρ g.tc _ g.tc = _; simp [upd]) (fun ht => ?_) (fun hf => ?_))
    · have : i < m := (hv i).1 (of_decide_eq_true ht)
      rw [ht] at hI'
      refine ewp_skip ?_
      rw [ht]
      exact h1 _ _ this hI'
    · have : ¬ i < m := fun hlt => of_decide_eq_false hf ((hv i).2 hlt)
      rw [hf] at hI'
      refine ewp_exit ?_
      rw [hf]
      exact h2 _ _ this hI'
  refine ewp_block (ewp_forO (fun i t Ds ρ w => RgI F G (Mks Ds :: L0) f0 σ0 g T Mb .und i t ρ w) hfin hI0 ?_ ?_)
  · intro i j t ct Ds ρ w hij hct hI
    have hi : i < m := by
      have := (List.getElem?_eq_some_iff.1 hij).1
      simpa using this
    refine head hI (fun ρ w _ hI => ?_) (fun ρ w hni _ => absurd hi hni)
    have hT : Tells F G (Mks Ds :: L0) f0 σ0 (rfr i) (unSt T t) ρ w := by
      obtain ⟨h1, f, σ, hs⟩ := hI
      refine ⟨h1, f, σ, ?_⟩
      show SimF G (Mks Ds :: L0) f0 σ0 (lkS F.a0 (rfr i) (unM T t)) T.ents _ f σ ρ w
      rw [hrfr, lk3]
      exact hs
    have hfi : FrameB st.nx st.E (lkS F.a0 (rfr i) []) := by rw [hrfr, lk3, ovl_nil]; exact hfr _ _ trivial trivial
    refine ewp_seq ((hb _ _ _ _ _ _ _ _ _ hct hT).mono fun e Ds ρ w hq => ?_)
    cases e with
    | normal =>
      obtain ⟨s, g1, g2⟩ := hq
      have g1 : f i s (fun t => some (Ctl.go t)) = some ct := g1
      rw [hfd] at g1
      obtain ⟨t', g3, g4⟩ := pk_tells hx hn hfi g2 g1
      injection g3 with g3
      subst g3
      have hJ : RgI F G (Mks Ds :: L0) f0 σ0 g T Mb (.bool true) i t' ρ w := by
        obtain ⟨h1, f, σ, hs⟩ := g4
        refine ⟨h1, f, σ, ?_⟩
        have hs : SimF G (Mks Ds :: L0) f0 σ0 (lkS F.a0 (rfr i) (unM T t')) T.ents (fun j => j < T.nx + T.items.length) f σ ρ w := hs
        rw [hrfr, lk3] at hs
        exact hs
      obtain ⟨v1, v2⟩ := vals hJ
      have hw : IntKind.i64.wrap ((i : Int) + 1) = ((i + 1 : Nat) : Int) := by
        have := w64_eq (x := (i : Int) + 1) (by omega) (by omega)
        unfold w64 at this
        rw [this]
        omega
      have e2 := ev_two (P := P) (w := w) (b1 := b1) (b2 := b2) (b3 := b3) (b4 := b4) (b5 := b5) (tp := g.tp) v1
      rw [hw] at e2
      refine ewp_region (el_val rfl rfl (by rw [Nat.blt_eq]; exact ltp) e2 (el_val rfl rfl (by rw [Nat.blt_eq]; exact lti) ev_mv (el_nil ?_)))
      have hup : upd ρ g.tp (.int .i64 ((i + 1 : Nat) : Int)) g.tp = .int .i64 ((i + 1 : Nat) : Int) := by simp [upd]
      rw [hup]
      exact ⟨t', rfl, next hJ⟩
    | ret =>
      obtain ⟨y, g1, g2⟩ := hq
      obtain ⟨o, g3, g4⟩ := inR_spec g1
      injection g3 with g3
      subst g3
      refine ⟨_, rfl, fun hfo => ?_⟩
      subst hfo
      simp only [Ctl.flat] at hflat
      subst hflat
      simp only [Ctl.on] at hD3
      rw [g4] at hD3
      exact ⟨y, hD3, g2⟩
    | exit j =>
      obtain ⟨s, g1, g2⟩ := hq
      simp only at g1
      cases hbj : Nat.beq j id with
      | false => rw [hbj] at g1; cases g1
      | true =>
        rw [hbj] at g1
        have g1 : f i s (fun t => some (Ctl.out (Ctl.go t))) = some ct := g1
        rw [hfd] at g1
        obtain ⟨t', g3, g4⟩ := pk_tells hx hn hfi g2 g1
        injection g3 with g3
        subst g3
        refine ⟨_, rfl, fun hfo => ?_⟩
        subst hfo
        simp only [Ctl.flat] at hflat
        subst hflat
        show (cond (Nat.beq j id) _ _ : Prop)
        rw [hbj]
        obtain ⟨h1, f, σ, hs⟩ := g4
        have hs : SimF G (Mks Ds :: L0) f0 σ0 (lkS F.a0 (rfr i) (unM T t')) T.ents (fun j => j < T.nx + T.items.length) f σ ρ w := hs
        rw [hrfr, lk3] at hs
        exact ⟨_, hD3, after h1 hs⟩
    | goto l => exact hq.elim
    | panic c => exact hq.elim
    | outgrown => exact hq.elim
  · intro t Ds ρ w hfo hI
    rw [List.length_range] at hI
    subst hfo
    simp only [Ctl.flat] at hflat
    subst hflat
    refine head hI (fun ρ w hlt _ => absurd hlt (Nat.lt_irrefl _)) (fun ρ w _ hI => ?_)
    show (cond (Nat.beq id id) _ _ : Prop)
    rw [show Nat.beq id id = true by simp]
    obtain ⟨h1, f, σ, hs⟩ := hI
    exact ⟨_, hD3, after h1 hs⟩
end
end Hd
set_option linter.unusedVariables false
set_option linter.unusedSimpArgs false
namespace Hd
open Go Hk
section
variable {B : Tab} {P : Program} {n : Nat} {F : Fn B} {G : World} {L0 : List HProp} {f0 : HP} {σ0 : Rz B} {α : Type} {fr : Mem B} {st : St B} {K : KK B (TplT B F.res) α} {r : α} {ρ ρ' : Env} {w : World}
variable {M M' : Loc → Option (Con B)} {f f' : HP} {σ σ' : Rz B} {E E0 : List (Nat × EH)} {N N' : Nat → Prop}
def Stands (f0 : HP) (σ0 : Rz B) (M : Loc → Option (Con B)) (E : List (Nat × EH)) (N : Nat → Prop) (f : HP) (σ : Rz B) (ρ : Env) (L1 : List HProp) : Prop :=
  ∀ (G w : World) (L0 : List HProp) (f' : HP), HP.le f f' → Wd G w f' (L1 ++ L0) → SimF G L0 f0 σ0 M E N f' σ ρ w
theorem SimF.moveE (hs : SimF G L0 f0 σ0 M E N f σ ρ w) {E1 : List (Nat × EH)} {L1 : List HProp} (k1 : Once E1) (k2 : ∀ x, x ∈ E1 ↔ x ∈ E) (k3 : Ents f σ M E1 L1) : Stands f0 σ0 M E N f σ ρ L1 := by
  intro G' w' L0' f' hl hw
  exact {
    gl := B.gmono _ _ hl hs.gl
    le := HP.le_trans hs.le hl
    sub := hs.sub
    fresh := hs.fresh
    slots := fun t => (hs.slots t).mono hl (Rz.le_refl _)
    fzs := fun i e xs nn h => by obtain ⟨A, n, c, h1, h2, h3⟩ := hs.fzs i e xs nn h; exact ⟨A, n, c, h1, h2.mono hl, h3⟩
    fzbs := fun i e x h => by obtain ⟨b, ds, ty, fr, h1, h2, h3⟩ := hs.fzbs i e x h; exact ⟨b, ds, ty, fr, h1, hl _ _ h2, (relB B e).mono hl h3⟩
    clos := fun c j x h => by obtain ⟨vals, v, h1, h2, h3⟩ := hs.clos c j x h; exact ⟨vals, v, h1, h2, h3.mono hl (Rz.le_refl _)⟩
    arrs := hs.arrs
    grds := hs.grds
    mps := hs.mps
    mphs := hs.mphs
    blks := hs.blks
    ents := ⟨E1, L1, k1, k2, by
      have := Ents.mono (up := []) hl (Rz.le_refl _) (fun i h _ => by cases h <;> simp [untouched, look]) k3
      rwa [ovl_nil] at this, hw⟩ }
theorem SimF.move (hs : SimF G L0 f0 σ0 M E N f σ ρ w) : ∃ L1, Wd G w f (L1 ++ L0) ∧ Stands f0 σ0 M E N f σ ρ L1 := by
  obtain ⟨E1, L1, k1, k2, k3, k4⟩ := hs.ents
  exact ⟨L1, k4, hs.moveE k1 k2 k3⟩
theorem SimF.reslotE (hs : SimF G L0 f0 σ0 M E N f σ ρ w) (hne : ∀ l, (∀ t, l ≠ .s t) → M' l = M l) (hsl : ∀ t, SRel f σ (M' (.s t)) (ρ' t)) : SimF G L0 f0 σ0 M' E N f σ ρ' w := by
  have h1 : SimF G L0 f0 σ0 (sOff true M) E N f σ ρ w := hs.reslot (fun l hl => by cases l <;> first | rfl | exact absurd rfl (hl _)) fun t => trivial
  have h2 : SimF G L0 f0 σ0 (sOff true M) E N f σ ρ' w := { h1 with slots := fun t => trivial }
  exact h2.reslot (fun l hl => (hne l hl).trans (by cases l <;> first | rfl | exact absurd rfl (hl _))) hsl
theorem Stands.lower {f1 : HP} {σ1 : Rz B} (h : Stands f' σ' M E N f σ ρ L0) (hl : HP.le f1 f') (hσ : Rz.le σ1 σ') : Stands f1 σ1 M E N f σ ρ L0 :=
  fun G w L f' h1 h2 => { h G w L f' h1 h2 with le := HP.le_trans hl (h G w L f' h1 h2).le, sub := Rz.le_trans hσ (h G w L f' h1 h2).sub }
theorem noSl_key : ∀ {l : List Item}, noSl l = true → ∀ t, Loc.s t ∉ itemKeys l
  | [], _, t, h => by simp [itemKeys] at h
  | i :: l, hn, t, h => by
    rcases List.mem_append.1 (show Loc.s t ∈ itemKey i ++ itemKeys l from h) with h | h
    · cases i <;> simp [itemKey] at h <;> simp [noSl] at hn
    · exact noSl_key (l := l) (by cases i <;> simp [noSl] at hn <;> exact hn) t h
theorem noSl_look {T : Tpl} (t : TplT B T) (hn : noSl T.items = true) (s : Nat) : look (unM T t) (.s s) = none := by
  cases hq : look (unM T t) (.s s) with
  | none => rfl
  | some c =>
    have hm : (Loc.s s, c) ∈ unM T t := look_mem hq
    exact absurd (unItems_fit hm).1 (noSl_key hn s)
theorem SimF.back {T : Tpl} {t : TplT B T} {Mf : Loc → Option (Con B)} (hs : SimF G L0 f0 σ0 (ovl (unM T t) (sOff true Mf)) E N f σ ρ' w) (hn : noSl T.items = true) (h0 : ∀ t, SRel f0 σ0 (Mf (.s t)) (ρ t)) :
    SimF G L0 f0 σ0 (ovl (unM T t) Mf) E N f σ ρ w := by
  have h1 : SimF G L0 f0 σ0 (ovl (unM T t) (sOff true Mf)) E N f σ ρ w := { hs with
    slots := fun s => by rw [ovl_none (noSl_look t hn s)]; trivial }
  refine h1.reslot (fun l hl => ?_) fun s => ?_
  · unfold ovl
    cases look (unM T t) l with
    | some c => rfl
    | none => cases l <;> first | rfl | exact absurd rfl (hl _)
  · rw [ovl_none (noSl_look t hn s)]
    exact (h0 s).mono hs.le hs.sub
theorem sim_bind : ∀ {ps : List Nat} {l : List VSh} {x : HL B.T (vshC l)} {vs : List Value} {acc : Mem B} {ρ : Env}, SimF G L0 f0 σ0 (ovl acc M) E N f σ ρ w → DVals f σ l x vs →
    SimF G L0 f0 σ0 (ovl (elM ps l x acc) M) E N f σ (bindE ps vs ρ) w
  | [], l, x, vs, acc, ρ, hs, h => by
    cases l <;> cases vs <;> exact hs
  | p :: ps, [], x, [], acc, ρ, hs, h => hs
  | p :: ps, v :: l, x, a :: as, acc, ρ, hs, ⟨h1, h2⟩ => by
    have := hs.put (d := p) h1
    rw [← ovl_app] at this
    exact sim_bind (ps := ps) this h2
  | p :: ps, [], x, _ :: _, acc, ρ, hs, h => h.elim
  | p :: ps, _ :: _, x, [], acc, ρ, hs, h => h.elim
theorem DVals.mono (hl : HP.le f f') (hσ : Rz.le σ σ') : ∀ {l : List VSh} {x : HL B.T (vshC l)} {vs : List Value}, DVals f σ l x vs → DVals f' σ' l x vs
  | [], _, [], _ => trivial
  | v :: l, x, a :: as, ⟨h1, h2⟩ => ⟨DRel.mono hl hσ h1, DVals.mono hl hσ h2⟩
  | [], _, _ :: _, h => h.elim
  | _ :: _, _, [], h => h.elim
theorem DVals.len : ∀ {l : List VSh} {x : HL B.T (vshC l)} {vs : List Value}, DVals f σ l x vs → vs.length = l.length
  | [], _, [], _ => rfl
  | v :: l, x, a :: as, ⟨_, h2⟩ => by simp [DVals.len h2]
  | [], _, _ :: _, h => h.elim
  | _ :: _, _, [], h => h.elim
theorem itFind_mem : ∀ {l : List (It B)} {i : Nat} {it : It B}, itFind l i = some it → it ∈ l ∧ it.fid = i
  | [], _, _, h => by cases h
  | a :: l, i, it, h => by
    unfold itFind at h
    cases hb : Nat.beq a.fid i with
    | true => rw [hb] at h; injection h with h; subst h; exact ⟨by simp, Nat.eq_of_beq_eq_true hb⟩
    | false => rw [hb] at h; obtain ⟨h1, h2⟩ := itFind_mem h; exact ⟨by simp [h1], h2⟩
theorem itProg_ran {its : List (It B)} {base : Nat} (hI : ItsOk P its) (hs : SimF G L0 f0 σ0 M E N f σ ρ w) (hb : ∀ j, base ≤ j → j < base + stepV → ¬ N j) {g : Operand} {x : ItR B} {rs : List Loc}
    (h : (itProg its base g fun x => .ret x : RM B (ItR B)).Ran M x rs) :
    ∃ f1 σ1 lb vss, HP.le f f1 ∧ Rz.le σ σ1 ∧ SimF G L0 f0 σ0 (ovl x.ov.up M) (delsE (x.ov.add ++ E) x.ov.del) (fun i => N i ∨ (base ≤ i ∧ i < base + stepV)) f1 σ1 ρ w ∧ ev ρ g = .func (.func x.it.fid) #[] lb ∧
      callOk P x.it.fid = true ∧ IterOk P x.it.fid lb f1 vss ∧ vss.length = x.xs.length ∧ ∀ (i : Nat) v vs, x.xs[i]? = some v → vss[i]? = some vs → DVals f1 (fun _ => none) x.it.el (toHL _ v) vs := by
  unfold itProg at h
  obtain ⟨cc, rs1, hc, h1⟩ := opd1_ran hs h
  cases cc <;> try exact h1.elim
  case fn fid cid n =>
    obtain ⟨vals, a1, a2, a3⟩ := hc
    obtain ⟨cs, rs3, hcs, h3⟩ := caps_ran hs a1 (by omega) h1
    rw [List.drop_zero, List.take_of_length_le (by omega)] at hcs
    obtain ⟨it, hit, h4⟩ := opt_ran h3
    obtain ⟨hmem, hfid⟩ := itFind_mem hit
    obtain ⟨hH, hok⟩ := hI it hmem
    have st : Stage G L0 f0 σ0 M E N base f σ ρ w ⟨[], [], [], base, []⟩ := ⟨simO_nil (hs.same fun i h => .inl h), fun e e' j h => (by cases h), Nat.le_refl _, fun i h => (by simp at h), fun e j h => (by cases h)⟩
    obtain ⟨p, ov, f1, σ1, rs1, s1, x1, h1, hi⟩ := mItems_stage (sv := fun t => vals.toArray.getD t undef) hb st (fun t k rs hk => by
      cases hd : nthL cs t with
      | none => rw [hd] at hk; exact hk.elim
      | some d => rw [hd] at hk; exact ⟨d, rs, DRels.nth hcs t d hd, hk⟩) h4
    clear h
    obtain ⟨hq, h2⟩ := chk_ran h1
    simp only [Bool.and_eq_true] at hq
    obtain ⟨⟨⟨q1, q2⟩, q3⟩, q4⟩ := hq
    unfold It.ok at q1
    simp only [Bool.and_eq_true] at q1
    have he := noEnts_nil q1.1
    obtain ⟨xs, hxs, h5⟩ := bind_ran h2
    obtain rfl : x = ItR.mk it xs ov := ret_ran h5
    obtain ⟨cE, σc, Er, Lr, g2, g3, g4, g5, g6⟩ := handed s1 hi q1.2 (rolesLow_spec q2) (by rw [he]; rfl)
    have hu : unM it.args (ofHL _ p) = unItems (fun e => e) it.args.nx it.args.items p := by unfold unM; rw [toHL_ofHL]
    rw [← hu] at g3
    obtain ⟨vss, v1, v2, v3⟩ := hH G w (Lr ++ L0) f1 σc (ofHL _ p) xs vals.toArray hxs (by rw [← lenIs_spec q4, hcs.len]; simp) g3
    refine ⟨f1, σ1, vals.toArray, vss, x1.le, x1.sub, ?_, by subst hfid; exact a3, hok, v1, v2, v3⟩
    exact s1.sim.same fun i hi => hi.imp id fun ⟨a, b⟩ => ⟨a, Nat.lt_of_lt_of_le b (Nat.le_of_ble_eq_true q3)⟩
theorem look_ap (a b : Mem B) : look (a ++ b) = ovl a (look b) := by
  funext l
  simp only [ovl, look_app]
theorem run_callFunc {f : FuncId} (hok : callOk P f = true) (args : Array Value) (w : World) : (callFunc f args).run P w = .ok (.enter f args) w := by
  unfold callOk at hok
  cases hf : P.funcs[f]? with
  | none => simp [hf] at hok
  | some fn =>
    simp [hf] at hok
    obtain ⟨hn, hb⟩ := hok
    obtain ⟨bd, hbd⟩ := Option.isSome_iff_exists.1 hb
    simp [callFunc, hf, hn, hbd, go_sem]
theorem perm_rd {α : Type} (a b : α) (L' La M : List α) : (a :: b :: (L' ++ (La ++ M))).Perm (La ++ (a :: b :: (L' ++ M))) :=
  (List.perm_middle.trans (List.Perm.cons a (List.perm_middle.trans (List.Perm.cons b (List.perm_append_comm_assoc La L' M))))).symm
theorem perm_rd2 {α : Type} (a m : α) (Lb R : List α) : (Lb ++ (m :: a :: R)).Perm (a :: (Lb ++ (m :: R))) :=
  (List.Perm.append_left Lb (List.Perm.swap a m R)).trans List.perm_middle
theorem wd_markIn {L1 : List HProp} {D : Nat} {Ds : List Nat} (h : Wd G w f (Blk D (.deferred (some [])) :: (L1 ++ (Mks Ds :: L0)))) : Wd G w f (L1 ++ (Mks (D :: Ds) :: L0)) :=
  wd_perm List.perm_middle.symm (wd_mks (wd_perm (List.Perm.cons _ List.perm_middle) h))
theorem forO_drop {σ' X : Type} {α' : Type} {body : Nat → α' → σ' → Option (Ctl σ' X)} {xs : List α'} {i : Nat} {x : α'} {t : σ'} {fin : Ctl σ' X} (hx : xs[i]? = some x) (h : forO body i (xs.drop i) t = some fin) :
    ∃ ct, body i x t = some ct ∧ (∀ t', ct = .go t' → forO body (i + 1) (xs.drop (i + 1)) t' = some fin) ∧ ∀ y, ct = .out y → fin = .out y := by
  obtain ⟨hlt, hx⟩ := List.getElem?_eq_some_iff.1 hx
  rw [List.drop_eq_getElem_cons hlt, hx] at h
  simp only [forO] at h
  obtain ⟨ct, hb, h⟩ := bind_some h
  refine ⟨ct, hb, fun t' e => ?_, fun y e => ?_⟩
  · subst e; exact h
  · subst e; exact (Option.some.inj h).symm
theorem sound_rf (hx : Ctx P F σ0) {g : Operand} {ps : Array Tmp} {assign body : Code} (hps : psLow n ps.toList = true)
    (ha : ∀ (l : Nat) (F' : Fn B) (G : World) (L' : List HProp) (f' : HP) (σ' : Rz B), Ctx P F' σ' → noRf assign = true → @Sound B ⟨some l⟩ P n F' G L' f' σ' assign)
    (hb : ∀ (l : Nat) (F' : Fn B) (G : World) (L' : List HProp) (f' : HP) (σ' : Rz B), Ctx P F' σ' → noRf body = true → @Sound B ⟨some l⟩ P n F' G L' f' σ' body)
    {T TR : Tpl} {ret : Bool} {outs : List (Nat × Tpl)} {h1 h2 : Hint} {Ds : List Nat} (hs : Tells F G (Mks Ds :: L0) f0 σ0 fr st ρ w)
    (hD : D F (.rangeFunc g ps assign body) (.rf T TR ret outs h1 h2) fr st K = some r) : @EWp ⟨none⟩ P n (.rangeFunc g ps assign body) (CPost P F G L0 f0 σ0 fr K r) Ds ρ w := by
  unfold D at hD
  split at hD <;> try contradiction
  rename_i hck
  simp only [Bool.and_eq_true] at hck
  obtain ⟨⟨⟨⟨c1, c2⟩, c3⟩, c4⟩, c5⟩ := hck
  have c5 := Nat.le_of_ble_eq_true c5
  obtain ⟨x, rs, hr, hD⟩ := RM.go_ran hD
  obtain ⟨hn, f, σ, hs⟩ := hs
  obtain ⟨f1, σ1, lb, vss, i1, i2, i3, i4, i5, i6, i7, i8⟩ := itProg_ran hx.its hs (fun j h1 h2 => by omega) hr
  simp only at hD
  obtain ⟨m1, hm1⟩ : ∃ m1, m1 = x.ov.up ++ st.m := ⟨_, rfl⟩
  obtain ⟨E1, hE1⟩ : ∃ E1, E1 = delsE (x.ov.add ++ st.E) x.ov.del := ⟨_, rfl⟩
  obtain ⟨a1, ha1⟩ : ∃ a1, a1 = m1 ++ (fr ++ F.a0) := ⟨_, rfl⟩
  rw [← hm1, ← ha1, ← hE1] at hD
  rw [← hE1] at i3
  have hla1 : ovl x.ov.up (lkS F.a0 fr st.m) = look a1 := by
    rw [lkS_ovl, ha1, hm1, look_ap, look_ap, ovl_app]
  rw [hla1] at i3
  obtain ⟨n0, hn0⟩ : ∃ n0, n0 = st.nx + stepV := ⟨_, rfl⟩
  rw [← hn0] at hD c5
  have hs1 : SimF G (Mks Ds :: L0) f0 σ0 (look a1) E1 (fun i => i < n0) f1 σ1 ρ w := i3.same fun i hi => by
    rcases hi with hi | hi
    · show i < n0; omega
    · show i < n0; omega
  have hfr : FrameB n0 E1 (look a1) := hs1.frame
  have hσn : ∀ i, n0 ≤ i → σ1 i = none := fun i hi => hs1.fresh i (by omega)
  have hs1' : SimF G (Mks Ds :: L0) f1 σ1 (look a1) E1 (fun i => i < n0) f1 σ1 ρ w := { hs1 with le := HP.le_refl _, sub := Rz.le_refl _ }
  have hxF : Ctx P (⟨F.tt, F.specs, a1, TR, n0, E1, [], F.its⟩ : Fn B) σ1 := ⟨hx.tt, hx.specs, hx.its, hx.mixed, hfr, hσn⟩
  split at hD <;> try contradiction
  rename_i hlen
  have hlen := lenIs_spec hlen
  obtain ⟨t0, f2, σ2, hD, hs2, hl2, hnT⟩ := pk_sound (ret := true) (m := []) (Mf := look a1) rfl hs1' hσn hfr rfl hD
  obtain ⟨y, hD, hfin⟩ := bind_some hD
  unfold forC at hD
  rw [Option.map_eq_some_iff] at hD
  obtain ⟨fin, hD, rfl⟩ := hD
  have hsl : ∀ t, SRel f1 σ1 (look a1 (.s t)) (ρ t) := hs1.slots
  obtain ⟨L1, hw1, hst1⟩ := (hs2.back c3 hsl).move
  have hlks : ∀ (T' : Tpl) (t' : TplT B T'), lkS F.a0 fr (aft T' t' m1).m = ovl (unM T' t') (look a1) := fun T' t' => by
    show lkS F.a0 fr (unM T' t' ++ m1) = _
    rw [lkS_ovl, ha1, ovl_app, look_ap, look_ap]
  have after : ∀ {T' : Tpl} {t' : TplT B T'} {f3 f4 : HP} {σ3 : Rz B} {L3 : List HProp} {D : Nat} {w' : World}, n0 ≤ T'.nx → Stands f1 σ1 (ovl (unM T' t') (look a1)) T'.ents (fun i => i < T'.nx + T'.items.length) f3 σ3 ρ L3 → HP.le f3 f4 →
      Wd G w' f4 (Blk D (.deferred (some [])) :: (L3 ++ (Mks Ds :: L0))) → Tells F G (Mks (D :: Ds) :: L0) f0 σ0 fr (aft T' t' m1) ρ w' := by
    intro T' t' f3 f4 σ3 L3 D w' hn' hst hle hw
    have h3 := (hst.lower hs1.le hs1.sub) G w' _ f4 hle (wd_markIn hw)
    refine ⟨by show F.n0 ≤ T'.nx + T'.items.length; omega, f4, σ3, ?_⟩
    rw [hlks]
    exact h3
  refine ewp_rangeFunc (f0 := f1) (f := f2) i4 (run_callFunc i5) (fun v hv => ?_) hps i6 hl2 hw1
    (fun i f3 L => ∃ t σ3 L3, L = L3 ++ (Mks Ds :: L0) ∧ forO _ i (x.xs.drop i) t = some fin ∧ Stands f1 σ1 (ovl (unM T t) (look a1)) T.ents (fun i => i < T.nx + T.items.length) f3 σ3 ρ L3)
    (fun c f3 L => ∃ (T' : Tpl) (t' : TplT B T') (σ3 : Rz B) (L3 : List HProp), L = L3 ++ (Mks Ds :: L0) ∧ n0 ≤ T'.nx ∧ Stands f1 σ1 (ovl (unM T' t') (look a1)) T'.ents (fun i => i < T'.nx + T'.items.length) f3 σ3 ρ L3 ∧
      ((c = .ret ∧ Dret F fr (aft T' t' m1) K = some r) ∨ ∃ id, c = .exit id ∧ K.ex id (aft T' t' m1) = some r))
    ⟨t0, σ2, L1, rfl, by rw [List.drop_zero]; exact hD, hst1⟩ ?_ ?_ ?_
  · obtain ⟨i, hi⟩ := List.mem_iff_getElem?.1 hv
    have hlt : i < x.xs.length := by rw [← i7]; exact (List.getElem?_eq_some_iff.1 hi).1
    have := (i8 i _ v (List.getElem?_eq_getElem hlt) hi).len
    rw [this, ← hlen]
    simp
  · intro l D rec rec' i v w3 f3 f4 L3 L' hv hf3 hJ hle hw
    obtain ⟨t, σ3, La, rfl, hrest, hst⟩ := hJ
    have hlt : i < x.xs.length := by rw [← i7]; exact (List.getElem?_eq_some_iff.1 hv).1
    have hxi := List.getElem?_eq_getElem hlt
    have hdv := i8 i _ v hxi hv
    obtain ⟨ct, hct, hgo, hout⟩ := forO_drop hxi hrest
    have hwA : Wd G w3 f4 (La ++ (Mks [] :: (Blk l rec :: Blk D (.deferred (some [])) :: (L' ++ (Mks Ds :: L0))))) := by
      refine wd_mkIn (wd_perm ?_ hw)
      exact perm_rd _ _ _ _ _
    have h4 := hst G w3 _ f4 hle hwA
    have h5 : SimF G (Mks [] :: (Blk l rec :: Blk D (.deferred (some [])) :: (L' ++ (Mks Ds :: L0)))) f4 σ1 (ovl (elM ps.toList x.it.el (toHL _ x.xs[i]) [] ++ unM T t) (look a1)) T.ents (fun i => i < T.nx + T.items.length) f4 σ3 (bindE ps.toList v ρ) w3 := by
      rw [ovl_app]
      exact sim_bind (acc := []) { h4 with le := HP.le_refl _ } (hdv.mono h4.le fun i r h => by cases h)
    have hT : Tells (⟨F.tt, F.specs, a1, TR, n0, E1, [], F.its⟩ : Fn B) G (Mks [] :: (Blk l rec :: Blk D (.deferred (some [])) :: (L' ++ (Mks Ds :: L0)))) f4 σ1 [] ⟨elM ps.toList x.it.el (toHL _ x.xs[i]) [] ++ unM T t, T.ents, T.nx + T.items.length⟩ (bindE ps.toList v ρ) w3 := by
      refine ⟨by show n0 ≤ T.nx + T.items.length; omega, f4, σ3, ?_⟩
      show SimF _ _ _ _ (lkS a1 [] _) _ _ _ _ _ _
      rw [lkS_ovl, ovl_nil]
      exact h5
    have endR : ∀ {T' : Tpl} {t' : TplT B T'} {Ds6 : List Nat} {f8 : HP} {σ8 : Rz B} {ρ6 : Env} {w7 : World}, noSl T'.items = true →
        SimF G (Mks Ds6 :: (Blk l rec' :: Blk D (.deferred (some [])) :: (L' ++ (Mks Ds :: L0)))) f4 σ1 (ovl (unM T' t') (sOff true (look a1))) T'.ents (fun i => i < T'.nx + T'.items.length) f8 σ8 ρ6 w7 →
        ∃ L8, HP.le f4 f8 ∧ Stands f1 σ1 (ovl (unM T' t') (look a1)) T'.ents (fun i => i < T'.nx + T'.items.length) f8 σ8 ρ L8 ∧ Wd G w7 f8 (Blk l rec' :: Blk D (.deferred (some [])) :: (L' ++ (L8 ++ (Mks Ds :: L0)))) := by
      intro T' t' Ds6 f8 σ8 ρ6 w7 hno hs6
      obtain ⟨L8, hw8, hst8⟩ := (hs6.back hno fun t => (hsl t).mono h4.le (Rz.le_refl _)).move
      exact ⟨L8, hs6.le, hst8.lower h4.le (Rz.le_refl _), wd_perm (perm_rd _ _ _ _ _).symm (wd_perm List.perm_middle hw8).drop1⟩
    refine @EWp.mono ⟨some l⟩ _ _ _ _ _ _ _ _ (ha l _ G _ f4 σ1 hxF c1 _ _ _ _ _ _ _ _ _ hct hT) fun e Ds' ρ' w5 hq => ?_
    cases e with
    | normal =>
      refine ⟨rfl, ?_⟩
      obtain ⟨s, k1, k2, f5, σ5, k3⟩ := hq
      obtain ⟨Lb, hw5, hst5⟩ := k3.move
      refine ⟨f5, Lb ++ (Mks Ds' :: (Blk D (.deferred (some [])) :: (L' ++ (Mks Ds :: L0)))), k3.le, wd_perm (perm_rd2 _ _ _ _) hw5, fun w6 hw6 => ?_⟩
      have hT6 : Tells (⟨F.tt, F.specs, a1, TR, n0, E1, [], F.its⟩ : Fn B) G (Mks Ds' :: (Blk l rec' :: Blk D (.deferred (some [])) :: (L' ++ (Mks Ds :: L0)))) f4 σ1 [] s ρ' w6 :=
        ⟨k2, f5, σ5, hst5 G w6 _ f5 (HP.le_refl _) (wd_perm (perm_rd2 _ _ _ _).symm hw6)⟩
      refine @EWp.mono ⟨some l⟩ _ _ _ _ _ _ _ _ (hb l _ G _ f4 σ1 hxF c2 _ _ _ _ _ _ _ _ _ k1 hT6) fun e Ds6 ρ6 w7 hq => ?_
      have pkd : ∀ {T' : Tpl} {s' : St B} {k : TplT B T' → Option (Ctl (TplT B T) (Ctl (TplT B T) (OutT B (TplT B TR) ret outs)))}, Tells (⟨F.tt, F.specs, a1, TR, n0, E1, [], F.its⟩ : Fn B) G (Mks Ds6 :: (Blk l rec' :: Blk D (.deferred (some [])) :: (L' ++ (Mks Ds :: L0)))) f4 σ1 [] s' ρ6 w7 →
          (match covered n0 true (itemKeys T'.items) s'.m && noSl T'.items with | true => pk a1 s'.m n0 E1 true T' [] s'.E s'.nx k | false => none) = some ct →
          ∃ (t' : TplT B T') (f8 : HP) (σ8 : Rz B) (L8 : List HProp), k t' = some ct ∧ n0 ≤ T'.nx ∧ HP.le f4 f8 ∧ Stands f1 σ1 (ovl (unM T' t') (look a1)) T'.ents (fun i => i < T'.nx + T'.items.length) f8 σ8 ρ L8 ∧
            Wd G w7 f8 (Blk l rec' :: Blk D (.deferred (some [])) :: (L' ++ (L8 ++ (Mks Ds :: L0)))) := by
        intro T' s' k hT7 hk
        cases hcv : covered n0 true (itemKeys T'.items) s'.m && noSl T'.items with
        | false => rw [hcv] at hk; cases hk
        | true =>
          rw [hcv] at hk
          simp only [Bool.and_eq_true] at hcv
          obtain ⟨_, f7, σ7, hs7⟩ := hT7
          have hs7 : SimF G (Mks Ds6 :: (Blk l rec' :: Blk D (.deferred (some [])) :: (L' ++ (Mks Ds :: L0)))) f4 σ1 (ovl s'.m (look a1)) s'.E (fun i => i < s'.nx) f7 σ7 ρ6 w7 := by
            have : lkS a1 [] s'.m = ovl s'.m (look a1) := by rw [lkS_ovl, ovl_nil]
            rw [← this]
            exact hs7
          obtain ⟨t', f8, σ8, u1, u2, u3, u4⟩ := pk_sound (ret := true) (Mf := look a1) (by rw [lkS_ovl, ovl_nil]) hs7 hσn hfr hcv.1 hk
          obtain ⟨L8, v1, v2, v3⟩ := endR hcv.2 u2
          exact ⟨t', f8, σ8, L8, u1, u4, v1, v2, v3⟩
      cases e with
      | normal =>
        obtain ⟨s', g1, g2⟩ := hq
        obtain ⟨t', f8, σ8, L8, u1, u2, u3, u4, u5⟩ := pkd g2 g1
        injection u1 with u1
        exact ⟨f8, _, u3, ⟨t', σ8, L8, rfl, hgo t' u1.symm, u4⟩, u5⟩
      | exit id =>
        obtain ⟨s', g1, g2⟩ := hq
        obtain ⟨T', inj, g3, g4⟩ := inE_spec g1
        obtain ⟨t', f8, σ8, L8, u1, u2, u3, u4, u5⟩ := pkd g2 g3
        injection u1 with u1
        have hf := hout _ u1.symm
        subst hf
        simp only [Ctl.flat, Ctl.on] at hfin
        rw [g4] at hfin
        exact ⟨f8, _, u3, ⟨T', t', σ8, L8, rfl, u2, u4, .inr ⟨id, rfl, hfin⟩⟩, u5⟩
      | ret =>
        obtain ⟨x', g1, _, _, g2⟩ := hq
        obtain ⟨f8, σ8, g2⟩ := g2 rfl
        obtain ⟨o, g3, g4⟩ := inR_spec g1
        injection g3 with g3
        have hf := hout _ g3.symm
        subst hf
        simp only [Ctl.flat, Ctl.on] at hfin
        rw [g4] at hfin
        obtain ⟨L8, v1, v2, v3⟩ := endR c4 g2
        exact ⟨f8, _, v1, ⟨TR, x', σ8, L8, rfl, c5, v2, .inl ⟨rfl, hfin⟩⟩, v3⟩
      | goto l => exact hq.elim
      | panic c => exact hq.elim
      | outgrown => exact hq.elim
    | ret => obtain ⟨_, k1, _⟩ := hq; cases k1
    | exit i => obtain ⟨_, k1, _⟩ := hq; cases k1
    | goto l => exact hq.elim
    | panic c => exact hq.elim
    | outgrown => exact hq.elim
  · intro D f3 f4 Ln w' hf3 hJ hle hw
    obtain ⟨t, σ3, L3, rfl, hrest, hst⟩ := hJ
    rw [i7, List.drop_length] at hrest
    simp only [forO, Option.some.injEq] at hrest
    subst hrest
    exact ⟨_, hfin, after hnT hst hle hw⟩
  · intro c D f3 f4 Ln w' hf3 hX hle hw
    obtain ⟨T', t', σ3, L3, rfl, hn', hst, h⟩ := hX
    have hT := after hn' hst hle hw
    rcases h with ⟨rfl, h⟩ | ⟨id, rfl, h⟩
    · exact @sound_ret _ _ _ _ _ _ _ _ ⟨none⟩ hx .n fr α _ K r _ _ _ h hT
    · exact @ewp_exit ⟨none⟩ _ _ _ _ _ _ _ ⟨_, h, hT⟩
end
end Hd
set_option linter.unusedVariables false
set_option linter.unusedSimpArgs false
namespace Hd
open Go Hk
section
variable {B : Tab} {P : Program} {n : Nat} {F : Fn B} {G : World} {L0 : List HProp} {f0 : HP} {σ0 : Rz B}
theorem zeroI_eq {z : Int} (h : zeroI z = true) : z = 0 := by
  unfold zeroI at h
  split at h
  · rfl
  · cases h
theorem andC {a b : Bool} (h : (match a with | true => b | false => false) = true) : a = true ∧ b = true := by
  cases a
  · cases h
  · exact ⟨rfl, h⟩
theorem d_sound : ∀ (c : Code) (rd : Rd) (F : Fn B) (G : World) (L0 : List HProp) (f0 : HP) (σ0 : Rz B), Ctx P F σ0 → (rd.r = none ∨ noRf c = true) → lowC n c = true → Sound P n F G L0 f0 σ0 c
  | .skip, _, _, _, _, _, _, _, _, _ => sound_skip
  | .exit id, _, _, _, _, _, _, _, _, _ => sound_exit
  | .ret, _, _, _, _, _, _, hx, _, _ => sound_ret hx
  | .region id ops draw, _, _, _, _, _, _, hx, _, hl => sound_region hx hl
  | .cond c x y, rd, F, G, L0, f0, σ0, hx, hr, hl => by
    obtain ⟨ha, hl⟩ := andC (show (match lowC n x with | true => lowC n y | false => false) = true from hl)
    have hr : rd.r = none ∨ (match noRf x with | true => noRf y | false => false) = true := hr
    exact sound_cond (d_sound x rd F G L0 f0 σ0 hx (hr.imp id fun h => (andC h).1) ha) (d_sound y rd F G L0 f0 σ0 hx (hr.imp id fun h => (andC h).2) hl)
  | .seq a b, rd, F, G, L0, f0, σ0, hx, hr, hl => by
    obtain ⟨ha, hl⟩ := andC (show (match lowC n a with | true => lowC n b | false => false) = true from hl)
    have hr : rd.r = none ∨ (match noRf a with | true => noRf b | false => false) = true := hr
    exact sound_seq hx (d_sound a rd F G L0 f0 σ0 hx (hr.imp id fun h => (andC h).1) ha) (d_sound b rd F G L0 f0 σ0 hx (hr.imp id fun h => (andC h).2) hl)
  | .block id c, rd, F, G, L0, f0, σ0, hx, hr, hl => by
    have hr : rd.r = none ∨ noRf c = true := hr
    intro h fr α st K r Ds ρ w hD hs
    generalize hc : Code.block id c = c0 at hD
    rw [D.eq_def] at hD
    split at hD
    all_goals try (cases hc; done)
    · rename_i id0 i1 r1 d1 cd body i2 r2 d2 T ret h'
      injection hc with e1 e2
      subst e1 e2
      obtain ⟨l1, hl⟩ := andC (show (match lowOps n r1.toList with | true => (match lowC n cd with | true => (match lowC n body with | true => lowOps n r2.toList | false => false) | false => false) | false => false) = true from hl)
      obtain ⟨_, hl⟩ := andC hl
      obtain ⟨lb, l2⟩ := andC hl
      have hrb : rd.r = none ∨ noRf body = true := hr.imp (fun h => h) fun h => (andC (andC (show (match noRf cd with | true => (match noRf body with | true => noRf (.region i2 r2 d2) | false => false) | false => false) = true from h)).2).1
      split at hD <;> try contradiction
      rename_i g hd hg
      have hd1 : d1 = false := by cases d1 <;> simp at hd ⊢
      have hd2 : d2 = false := by cases d2 <;> simp at hd ⊢
      subst hd1 hd2
      split at hD <;> try contradiction
      rename_i hfree
      dsimp only at hD
      split at hD <;> try contradiction
      · rename_i z m hti htn
        split at hD <;> try contradiction
        rename_i hz
        have := zeroI_eq hz
        subst this
        have hm : m ≤ 9223372036854775807 := by
          obtain ⟨_, f, σ, hs⟩ := hs
          have := hs.slots g.tn
          rw [htn] at this
          have h2 := this.2
          simp only [maxLen] at h2
          omega
        exact sound_rg hx (d_sound body rd F G _ f0 σ0 hx hrb lb) l1 l2 hg hfree hti htn (fun f σ u h => h.1) (fun i => Int.ofNat_lt) hm hs (rfr := fun i => (.s g.tc, .v (.one (.bool true))) :: (.s g.ti, .v (.one (.int .i64 (i : Int)))) :: (.s g.tp, .v (.one .und)) :: (st.m ++ fr)) (fun i => rfl)
          (f := fun i s k => match covered st.nx false (itemKeys T.items) s.m with | true => pk F.a0 (s.m ++ ((.s g.tc, .v (.one (.bool true))) :: (.s g.ti, .v (.one (.int .i64 (i : Int)))) :: (.s g.tp, .v (.one .und)) :: (st.m ++ fr))) st.nx st.E false T [] s.E s.nx k | false => none) (fun i s k => rfl) hD
      · rename_i z m hti htn
        split at hD <;> try contradiction
        rename_i hz
        have := zeroI_eq hz
        subst this
        obtain ⟨u, hu, hD⟩ := bind_some hD
        have hm := glim_spec hu
        exact sound_rg hx (d_sound body rd F G _ f0 σ0 hx hrb lb) l1 l2 hg hfree hti htn (fun f σ u h => h) (fun i => by omega) (by omega) hs (rfr := fun i => (.s g.tc, .v (.one (.bool true))) :: (.s g.ti, .v (.one (.int .i64 (i : Int)))) :: (.s g.tp, .v (.one .und)) :: (st.m ++ fr)) (fun i => rfl)
          (f := fun i s k => match covered st.nx false (itemKeys T.items) s.m with | true => pk F.a0 (s.m ++ ((.s g.tc, .v (.one (.bool true))) :: (.s g.ti, .v (.one (.int .i64 (i : Int)))) :: (.s g.tp, .v (.one .und)) :: (st.m ++ fr))) st.nx st.E false T [] s.E s.nx k | false => none) (fun i s k => rfl) hD
    · injection hc with e1 e2
      subst e1 e2
      split at hD <;> try contradiction
      · exact sound_un (d_sound _ rd F G _ f0 σ0 hx hr hl) hs hD
      rename_i T TX ret outs h' _
      exact sound_lp hx (d_sound _ rd F G _ f0 σ0 hx hr hl) hs (f := fun T' s k => match covered st.nx false (itemKeys T'.items) s.m with | true => pk F.a0 (s.m ++ (st.m ++ fr)) st.nx st.E false T' [] s.E s.nx k | false => none) (fun T' s k => rfl) hD
    · injection hc with e1 e2
      subst e1 e2
      exact sound_block (d_sound _ rd F G _ f0 σ0 hx hr hl) hs hD
    · contradiction
  | .loop c, _, _, _, _, _, _, _, _, _ => fun h fr α st K r Ds ρ w hD hs => by cases hD
  | .rangeFunc g ps a b, rd, F, G, L0, f0, σ0, hx, hr, hl => fun h fr α st K r Ds ρ w hD hs => by
    rcases hr with hr | hr
    · obtain ⟨rr⟩ := rd
      have hr : rr = none := hr
      subst hr
      obtain ⟨hp, hl⟩ := andC (show (match psLow n ps.toList with | true => (match lowC n a with | true => lowC n b | false => false) | false => false) = true from hl)
      obtain ⟨la, lb⟩ := andC hl
      cases h with
      | rf T TR ret outs h1 h2 =>
        exact sound_rf hx hp (fun l F' G L' f' σ' hx' hno => d_sound a ⟨some l⟩ F' G L' f' σ' hx' (.inr hno) la) (fun l F' G L' f' σ' hx' hno => d_sound b ⟨some l⟩ F' G L' f' σ' hx' (.inr hno) lb) hs hD
      | _ => cases hD
    · cases hr
  | .scope .., _, _, _, _, _, _, _, _, _ => fun h fr α st K r Ds ρ w hD hs => by cases hD
  | .label .., _, _, _, _, _, _, _, _, _ => fun h fr α st K r Ds ρ w hD hs => by cases hD
  | .goto .., _, _, _, _, _, _, _, _, _ => fun h fr α st K r Ds ρ w hD hs => by cases hD
  | .refuse .., _, _, _, _, _, _, _, _, _ => fun h fr α st K r Ds ρ w hD hs => by cases hD
termination_by c => sizeOf c
theorem lowOps_mono {n' : Nat} (hn : n ≤ n') : ∀ {l : List Oper}, lowOps n l = true → lowOps n' l = true
  | [], _ => rfl
  | o :: l, h => by
    unfold lowOps at h ⊢
    cases hd : o.dst with
    | none => rw [hd] at h; exact lowOps_mono hn h
    | some d =>
      rw [hd] at h
      obtain ⟨h1, h2⟩ := andC (show (match Nat.blt d n with | true => lowOps n l | false => false) = true from h)
      have h3 : Nat.blt d n' = true := by rw [Nat.blt_eq] at h1 ⊢; exact Nat.lt_of_lt_of_le h1 hn
      simp only [h3]
      exact lowOps_mono hn h2
theorem psLow_mono {n' : Nat} (hn : n ≤ n') : ∀ {l : List Nat}, psLow n l = true → psLow n' l = true
  | [], _ => rfl
  | p :: l, h => by
    obtain ⟨h1, h2⟩ := andC (show (match Nat.blt p n with | true => psLow n l | false => false) = true from h)
    show (match Nat.blt p n' with | true => psLow n' l | false => false) = true
    have h3 : Nat.blt p n' = true := by rw [Nat.blt_eq] at h1 ⊢; exact Nat.lt_of_lt_of_le h1 hn
    rw [h3]
    exact psLow_mono hn h2
theorem lowC_mono {n' : Nat} (hn : n ≤ n') : ∀ {c : Code}, lowC n c = true → lowC n' c = true
  | .region id ops draw, h => lowOps_mono hn h
  | .seq a b, h => by
    obtain ⟨h1, h2⟩ := andC (show (match lowC n a with | true => lowC n b | false => false) = true from h)
    show (match lowC n' a with | true => lowC n' b | false => false) = true
    rw [lowC_mono hn h1]
    exact lowC_mono hn h2
  | .cond c a b, h => by
    obtain ⟨h1, h2⟩ := andC (show (match lowC n a with | true => lowC n b | false => false) = true from h)
    show (match lowC n' a with | true => lowC n' b | false => false) = true
    rw [lowC_mono hn h1]
    exact lowC_mono hn h2
  | .block id c, h => lowC_mono (c := c) hn h
  | .loop c, h => lowC_mono (c := c) hn h
  | .skip, _ => rfl
  | .exit id, _ => rfl
  | .ret, _ => rfl
  | .rangeFunc g ps a b, h => by
    obtain ⟨h0, h⟩ := andC (show (match psLow n ps.toList with | true => (match lowC n a with | true => lowC n b | false => false) | false => false) = true from h)
    obtain ⟨h1, h2⟩ := andC h
    show (match psLow n' ps.toList with | true => (match lowC n' a with | true => lowC n' b | false => false) | false => false) = true
    rw [psLow_mono hn h0, lowC_mono hn h1]
    exact lowC_mono hn h2
  | .scope .., _ => rfl
  | .label .., _ => rfl
  | .goto .., _ => rfl
  | .refuse .., _ => rfl
def resB : List ResultVar → List Nat → Bool
  | [], [] => true
  | .tmp t :: l, u :: r => match Nat.beq t u && Nat.blt u bigT with | true => resB l r | false => false
  | .cell a t :: l, u :: r => match Nat.beq (u / bigT) t && Nat.beq (u % bigT) a && Nat.ble bigT u with | true => resB l r | false => false
  | _, _ => false
def resV1 (tmps : Array Value) : ResultVar → Sem Value
  | .tmp t => pure (tmps.getD t undef)
  | .cell a t => do loadVar t (← asAddr (tmps.getD a undef))
theorem resB_spec {ρ ρ' : Env} {w : World} {tmps : Array Value} (ht : ∀ t, tmps.getD t undef = ρ t) : ∀ {l : List ResultVar} {ts : List Nat}, resB l ts = true → RetEnv P ts ρ ρ' w →
    l.length = ts.length ∧ ∀ (i : Nat) r u, l[i]? = some r → ts[i]? = some u → (resV1 tmps r).run P w = .ok (ρ' u) w
  | [], [], _, _ => ⟨rfl, fun i r u h => by simp at h⟩
  | .tmp t :: l, u :: r, h, hr => by
    obtain ⟨h1, h2⟩ := andC (show (match Nat.beq t u && Nat.blt u bigT with | true => resB l r | false => false) = true from h)
    simp only [Bool.and_eq_true, Nat.blt_eq] at h1
    obtain ⟨e1, h1⟩ := h1
    have e1 := Nat.eq_of_beq_eq_true e1
    subst e1
    obtain ⟨k1, k2⟩ := resB_spec ht h2 ⟨hr.1, fun u hu => hr.2 u (by simp [hu])⟩
    refine ⟨by simp [k1], fun i r u h3 h4 => ?_⟩
    cases i with
    | zero =>
      simp at h3 h4
      subst h3 h4
      show (pure (tmps.getD t undef) : Sem Value).run P w = _
      rw [hr.1 t h1, ht]
      rfl
    | succ i => exact k2 i r u (by simpa using h3) (by simpa using h4)
  | .cell a t :: l, u :: r, h, hr => by
    obtain ⟨h1, h2⟩ := andC (show (match Nat.beq (u / bigT) t && Nat.beq (u % bigT) a && Nat.ble bigT u with | true => resB l r | false => false) = true from h)
    simp only [Bool.and_eq_true] at h1
    obtain ⟨⟨e1, e2⟩, e3⟩ := h1
    have e1 := Nat.eq_of_beq_eq_true e1
    have e2 := Nat.eq_of_beq_eq_true e2
    have e3 := Nat.le_of_ble_eq_true e3
    subst e1 e2
    obtain ⟨k1, k2⟩ := resB_spec ht h2 ⟨hr.1, fun u hu => hr.2 u (by simp [hu])⟩
    refine ⟨by simp [k1], fun i r u h3 h4 => ?_⟩
    cases i with
    | zero =>
      simp at h3 h4
      subst h3 h4
      obtain ⟨ad, g1, g2⟩ := hr.2 _ (by simp) e3
      show (do loadVar _ (← asAddr (tmps.getD _ undef)) : Sem Value).run P w = _
      rw [ht, g1]
      exact g2
    | succ i => exact k2 i r u (by simpa using h3) (by simpa using h4)
  | [], _ :: _, h, _ => by cases h
  | .tmp _ :: _, [], h, _ => by cases h
  | .cell _ _ :: _, [], h, _ => by cases h
theorem results_eq (fn : Func) (tmps : Array Value) : results fn tmps = (do let vs ← fn.results.mapM (resV1 tmps); pure (if h : vs.size = 1 then vs[0] else .tuple vs)) := by
  unfold results
  congr 1
theorem resIs {fn : Func} {ts : List Nat} {ρ ρ' : Env} {w : World} (h : resB fn.results.toList ts = true) (hl : ts.length ≤ 5) (hr : RetEnv P ts ρ ρ' w) : ResIs P fn ρ w (RtV ρ' ts) := fun tmps ht => by
  obtain ⟨k1, k2⟩ := resB_spec ht h hr
  rw [results_eq]
  have h' : fn.results = fn.results.toList.toArray := by simp
  rw [h']
  generalize fn.results.toList = l at k1 k2
  match l, ts, k1, hl with
  | [], [], _, _ => simp [RtV, go_sem]
  | [a], [t], _, _ =>
    have q0 := k2 0 a t rfl rfl
    simp [RtV, q0, go_sem]
  | [a, b], [t, u], _, _ =>
    have q0 := k2 0 a t rfl rfl
    have q1 := k2 1 b u rfl rfl
    simp [RtV, q0, q1, go_sem]
  | [a, b, c], [t, u, v], _, _ =>
    have q0 := k2 0 a t rfl rfl
    have q1 := k2 1 b u rfl rfl
    have q2 := k2 2 c v rfl rfl
    simp [RtV, q0, q1, q2, go_sem]
  | [a, b, c, d], [t, u, v, x], _, _ =>
    have q0 := k2 0 a t rfl rfl
    have q1 := k2 1 b u rfl rfl
    have q2 := k2 2 c v rfl rfl
    have q3 := k2 3 d x rfl rfl
    simp [RtV, q0, q1, q2, q3, go_sem]
  | [a, b, c, d, e], [t, u, v, x, y], _, _ =>
    have q0 := k2 0 a t rfl rfl
    have q1 := k2 1 b u rfl rfl
    have q2 := k2 2 c v rfl rfl
    have q3 := k2 3 d x rfl rfl
    have q4 := k2 4 e y rfl rfl
    simp [RtV, q0, q1, q2, q3, q4, go_sem]
  | _ :: _ :: _ :: _ :: _ :: _ :: _, ts, k1, hl =>
    exfalso
    rw [← k1] at hl
    simp only [List.length_cons] at hl
    omega
theorem noBig_spec {ρ : Env} {w : World} : ∀ {l : List Nat}, noBig l = true → RetEnv P l ρ ρ w
  | [], _ => ⟨fun _ _ => rfl, fun u hu => by simp at hu⟩
  | u :: l, h => by
    obtain ⟨h1, h2⟩ := andC (show (match Nat.blt u bigT with | true => noBig l | false => false) = true from h)
    rw [Nat.blt_eq] at h1
    refine ⟨fun _ _ => rfl, fun u' hu' hb => ?_⟩
    rcases List.mem_cons.1 hu' with rfl | hu'
    · omega
    · exact (noBig_spec h2).2 u' hu' hb
def fnOk (P : Program) (S : Spec B) : Bool :=
  callOk P S.fid && match P.funcs[S.fid]? with
  | some fn => match fn.body with
    | some c => resB fn.results.toList S.rts && Nat.ble S.rts.length 5 && lowC fn.ntmps c
    | none => false
  | none => false
def codeP (P : Program) (f : FuncId) : Code := match P.funcs[f]? with | some fn => codeOf fn | none => .skip
theorem holds_of_DI {its : List (It B)} {tt : List (TI B)} {specs : List (Spec B)} {S : Spec B} {h : Hint} (htt : ttOk P tt = true) (hI : ItsOk P its) (hS : SpecsOk P specs) (hm : P.follows .mixedOrders = true) (hk : fnOk P S = true)
    (hD : ∀ t r, S.fn t = some r → DfnI its tt specs S (codeP P S.fid) h t = some r) : S.Holds P ∧ callOk P S.fid = true := by
  unfold fnOk at hk
  simp only [Bool.and_eq_true] at hk
  obtain ⟨hok, hk⟩ := hk
  refine ⟨?_, hok⟩
  cases hfn : P.funcs[S.fid]? with
  | none => rw [hfn] at hk; cases hk
  | some fn =>
    rw [hfn] at hk
    simp only at hk
    cases hbody : fn.body with
    | none => rw [hbody] at hk; cases hk
    | some c =>
      rw [hbody] at hk
      simp only [Bool.and_eq_true] at hk
      obtain ⟨⟨k1, k2⟩, k3⟩ := hk
      have hc : codeP P S.fid = c := by simp only [codeP, hfn, codeOf, hbody]
      rw [hc] at hD
      intro G w L0 f σ t r args ht _ hs
      refine ecalls (args.size + (fn.ntmps - args.size)) hfn hbody rfl ?_
      have hx : Ctx P (Fn.of its tt specs S t) σ := ⟨htt, hS, hI, hm, hs.frame, fun i hi => hs.fresh i (Nat.not_lt.2 hi)⟩
      have hs0 : SimF G (Mks [] :: L0) f σ (look (unM S.args t)) S.args.ents (fun i => i < S.args.nx + S.args.items.length) f σ (fun t => args.getD t undef) w := by
        obtain ⟨E1, L1, q1, q2, q3, q4⟩ := hs.ents
        exact { hs with ents := ⟨E1, L1, q1, q2, q3, wd_mkIn q4⟩ }
      have h1 := d_sound (n := args.size + (fn.ntmps - args.size)) c ⟨none⟩ (Fn.of its tt specs S t) G L0 f σ hx (.inl rfl) (lowC_mono (by omega) k3) _ _ _ _ _ _ [] _ w (hD t r ht) ⟨Nat.le_refl _, f, σ, hs0⟩
      have fin : ∀ ρ w, TellsR P (Fn.of its tt specs S t) G L0 f σ r ρ w → ∃ v, ResIs P fn ρ w v ∧ ∃ f' σ' ρ', v = RtV ρ' S.rts ∧
          SimF G L0 f σ (ovl (unM S.res r) (sOff true (look (unM S.args t)))) S.res.ents (fun i => i < S.res.nx + S.res.items.length) f' σ' ρ' w := by
        intro ρ w hT
        obtain ⟨ρ', hr, f', σ', h2⟩ := hT
        exact ⟨_, resIs k1 (Nat.le_of_ble_eq_true k2) hr, f', σ', ρ', rfl, h2⟩
      refine @EWp.mono ⟨none⟩ _ _ _ _ _ _ _ _ h1 fun e Ds ρ w hq => ?_
      cases e with
      | ret =>
        obtain ⟨x, g1, hh, g2, _⟩ := hq
        injection g1 with g1
        subst g1
        exact ⟨hh, fin ρ _ g2⟩
      | normal =>
        obtain ⟨st, g1, g2⟩ := hq
        simp only at g1
        cases hc0 : noBig S.rts && covered (Fn.of its tt specs S t).n0 true (itemKeys S.res.items) st.m with
        | false => rw [hc0] at g1; cases g1
        | true =>
          rw [hc0] at g1
          simp only [Bool.and_eq_true] at hc0
          obtain ⟨hnb, hc⟩ := hc0
          obtain ⟨_, f2, σ2, hs2⟩ := g2
          obtain ⟨hh, hs2⟩ := simF_shut hs2
          have hl : lkS (Fn.of its tt specs S t).a0 [] st.m = ovl st.m (look (unM S.args t)) := by rw [lkS_ovl, ovl_nil]; rfl
          rw [hl] at hs2
          obtain ⟨t', f', σ', q1, q2, q3, q4⟩ := pk_sound (Mf := look (unM S.args t)) (fr := st.m) (a0 := (Fn.of its tt specs S t).a0) (n0 := (Fn.of its tt specs S t).n0) (E0 := S.args.ents) (by rw [lkS_ovl, ovl_nil]; rfl) hs2 (fun i hi => hs.fresh i (Nat.not_lt.2 hi)) hs.frame hc g1
          injection q1 with q1
          subst q1
          exact ⟨hh, fin ρ _ ⟨ρ, noBig_spec hnb, f', σ', q2⟩⟩
      | exit i => obtain ⟨x, g1, _⟩ := hq; cases g1
      | goto l => exact hq.elim
      | panic c => exact hq.elim
      | outgrown => exact hq.elim
theorem holds_of_D {tt : List (TI B)} {specs : List (Spec B)} {S : Spec B} {h : Hint} (htt : ttOk P tt = true) (hS : SpecsOk P specs) (hm : P.follows .mixedOrders = true) (hk : fnOk P S = true)
    (hD : ∀ t r, S.fn t = some r → Dfn tt specs S (codeP P S.fid) h t = some r) : S.Holds P ∧ callOk P S.fid = true :=
  holds_of_DI (its := []) htt (fun it h => by simp at h) hS hm hk hD
end
end Hd
set_option linter.unusedVariables false
set_option linter.unusedSimpArgs false
namespace Hd
open Go Hk
section
variable {B : Tab} {P : Program}
def Good (P : Program) (S : Spec B) : Prop := S.Holds P ∧ callOk P S.fid = true
theorem specs_nil : SpecsOk P ([] : List (Spec B)) := fun S h => by simp at h
theorem specs_cons {S : Spec B} {l : List (Spec B)} (h : Good P S) (hl : SpecsOk P l) : SpecsOk P (S :: l) := fun S' h' => by
  rcases List.mem_cons.1 h' with rfl | h'
  · exact h
  · exact hl S' h'
def fnOkF (S : Spec B) (fn : Func) : Bool :=
  match fn.body with
  | some c => resB fn.results.toList S.rts && Nat.ble S.rts.length 5 && lowC fn.ntmps c
  | none => false
theorem good_of {tt : List (TI B)} {specs : List (Spec B)} {S : Spec B} {h : Hint} {fn : Func} (htt : ttOk P tt = true) (hm : P.follows .mixedOrders = true) (hfn : P.funcs[S.fid]? = some fn) (hok : callOk P S.fid = true) (hk : fnOkF S fn = true)
    (hS : SpecsOk P specs) (hD : ∀ t, S.fn t = Dfn tt specs S (codeOf fn) h t) : Good P S := by
  refine holds_of_D (h := h) htt hS hm ?_ fun t r ht => ?_
  · unfold fnOk
    rw [hok, hfn]
    exact hk
  · have : codeP P S.fid = codeOf fn := by simp only [codeP, hfn]
    rw [this, ← hD t]
    exact ht
theorem its_nil : ItsOk P ([] : List (It B)) := fun S h => by simp at h
def GoodI (P : Program) (it : It B) : Prop := it.Holds P ∧ callOk P it.fid = true
theorem its_cons {it : It B} {l : List (It B)} (h : GoodI P it) (hl : ItsOk P l) : ItsOk P (it :: l) := fun S' h' => by
  rcases List.mem_cons.1 h' with rfl | h'
  · exact h
  · exact hl S' h'
theorem good_ofI {its : List (It B)} {tt : List (TI B)} {specs : List (Spec B)} {S : Spec B} {h : Hint} {fn : Func} (hI : ItsOk P its) (htt : ttOk P tt = true) (hm : P.follows .mixedOrders = true) (hfn : P.funcs[S.fid]? = some fn) (hok : callOk P S.fid = true) (hk : fnOkF S fn = true)
    (hS : SpecsOk P specs) (hD : ∀ t, S.fn t = DfnI its tt specs S (codeOf fn) h t) : Good P S := by
  refine holds_of_DI (h := h) htt hI hS hm ?_ fun t r ht => ?_
  · unfold fnOk
    rw [hok, hfn]
    exact hk
  · have : codeP P S.fid = codeOf fn := by simp only [codeP, hfn]
    rw [this, ← hD t]
    exact ht
theorem good_rec {α : Type} {S : α → Spec B} {f : Nat → α} (h0 : ∀ t, (S (f 0)).fn t = none) (hok : callOk P (S (f 0)).fid = true) (step : ∀ n, Good P (S (f n)) → Good P (S (f (n + 1)))) : ∀ n, Good P (S (f n))
  | 0 => ⟨fun G w L0 f' σ t r args ht _ _ => (by rw [h0 t] at ht; cases ht), hok⟩
  | n + 1 => step n (good_rec h0 hok step n)
theorem good_nsl {fid s nx : Nat} {e : Ty} {RT : Tpl} {rts : List Nat} {fn : Option (List (den B.T e)) → Option (TplT B RT)}
    (h : Good P (⟨fid, ⟨[.slot s (.one (.d (.nsl e)))], [], nx⟩, RT, rts, fn⟩ : Spec B)) (h0 : fn none = fn (some [])) :
    Good P (⟨fid, ⟨[.slot s (.one (.d (.sl e)))], [], nx⟩, RT, rts, fun xs => fn (some xs)⟩ : Spec B) := by
  refine ⟨?_, h.2⟩
  intro G w L0 f σ t r args ht hz hs
  have hM : look (unM (B := B) ⟨[.slot s (.one (.d (.sl e)))], [], nx⟩ t) = look [(Loc.s s, Con.v (.one (Cel.sl e t)))] := rfl
  have hsl := hs.slots s
  rw [hM, look_cons_self] at hsl
  obtain ⟨A, n, c, hv, hsl⟩ := hsl
  have key : ∃ y : Option (List (den B.T e)), fn y = some r ∧ CRel f σ (.nsl e y) (args.getD s undef) := by
    cases A with
    | none =>
      obtain ⟨h1, h2, h3⟩ := slF_none hsl
      subst h1
      have h2 : t = ([] : List (den B.T e)) := h2
      refine ⟨none, by rw [h0]; rw [h2] at ht; exact ht, c, by rw [hv], h3⟩
    | some a => exact ⟨some t, ht, a, n, c, by rw [hv], hsl⟩
  obtain ⟨y, hy, hr⟩ := key
  have hoff : sOff true (look (unM (B := B) ⟨[.slot s (.one (.d (.nsl e)))], [], nx⟩ y)) = sOff true (look (unM (B := B) ⟨[.slot s (.one (.d (.sl e)))], [], nx⟩ t)) := by
    funext l
    cases l with
    | s t => rfl
    | _ => rfl
  refine (h.1 G w L0 f σ y r args hy hz ?_).mono fun en w' hR => ?_
  · have hM2 : look (unM (B := B) ⟨[.slot s (.one (.d (.nsl e)))], [], nx⟩ y) = look [(Loc.s s, Con.v (.one (Cel.nsl e y)))] := rfl
    show SimF G L0 f σ (look (unM (B := B) ⟨[.slot s (.one (.d (.nsl e)))], [], nx⟩ y)) [] _ f σ _ w
    have hs : SimF G L0 f σ (look (unM (B := B) ⟨[.slot s (.one (.d (.sl e)))], [], nx⟩ t)) [] (fun i => i < nx + 1) f σ (fun t => args.getD t undef) w := hs
    rw [hM] at hs
    rw [hM2]
    have no : ∀ (x : Con B) (l : Loc) (c : Con B), (∀ t, l ≠ .s t) → look [(Loc.s s, x)] l ≠ some c := fun x l c hl h1 => by
      rw [look_cons_ne (fun e => hl s e.symm)] at h1; cases h1
    exact { hs with
      slots := fun t => by
        by_cases ht : s = t
        · subst ht; rw [look_cons_self]; exact hr
        · rw [look_cons_ne (by simpa using ht)]; trivial
      fzs := fun i e xs nn h1 => absurd h1 (no _ _ _ (by simp))
      fzbs := fun i e x h1 => absurd h1 (no _ _ _ (by simp))
      clos := fun i j x h1 => absurd h1 (no _ _ _ (by simp))
      arrs := fun i e xs s nn h1 => absurd h1 (no _ _ _ (by simp))
      blks := fun i ty n h1 => absurd h1 (no _ _ _ (by simp))
      ents := by
        obtain ⟨E1, L1, k1, k2, k3, k4⟩ := hs.ents
        have : E1 = [] := by
          cases E1 with
          | nil => rfl
          | cons x l => exact absurd ((k2 x).1 (by simp)) (by simp)
        subst this
        cases L1 with
        | nil => exact ⟨[], [], k1, k2, trivial, k4⟩
        | cons _ _ => exact k3.elim }
  · obtain ⟨v, he, f', σ', ρ', g1, g2⟩ := hR
    rw [hoff] at g2
    exact ⟨v, he, f', σ', ρ', g1, g2⟩
def slotsFrom : Nat → List VSh → List Item
  | _, [] => []
  | k, v :: l => .slot k v :: slotsFrom (k + 1) l
def RArgs (f : HP) (σ : Rz B) : (k : Nat) → (l : List VSh) → HL B.T (itemsC (slotsFrom k l)) → (Nat → Value) → Prop
  | _, [], _, _ => True
  | k, v :: l, p, ρ => DRel f σ (unV (fun e => e) v (HL.fst v.comps (itemsC (slotsFrom (k + 1) l)) p)) (ρ k) ∧ RArgs f σ (k + 1) l (HL.snd v.comps (itemsC (slotsFrom (k + 1) l)) p) ρ
theorem slots_look {f : HP} {σ : Rz B} {ρ : Nat → Value} : ∀ {l : List VSh} {k q : Nat} {p : HL B.T (itemsC (slotsFrom k l))}, RArgs f σ k l p ρ →
    (∀ a c, look (unItems (fun e => e) q (slotsFrom k l) p) a = some c → ∃ t d, a = .s t ∧ c = .v d ∧ DRel f σ d (ρ t))
  | [], k, q, p, _, a, c, h => by cases h
  | v :: l, k, q, p, ⟨h1, h2⟩, a, c, h => by
    have h : look ((Loc.s k, Con.v (unV (fun e => e) v (HL.fst v.comps (itemsC (slotsFrom (k + 1) l)) p))) :: unItems (fun e => e) (q + 1) (slotsFrom (k + 1) l) (HL.snd v.comps (itemsC (slotsFrom (k + 1) l)) p)) a = some c := h
    by_cases ha : Loc.s k = a
    · subst ha
      rw [look_cons_self] at h
      injection h with h
      exact ⟨k, _, rfl, h.symm, h1⟩
    · rw [look_cons_ne ha] at h
      exact slots_look h2 a c h
theorem root_calls {fid nx r nx' : Nat} {vs : List VSh} {fn : Tup B.T (itemsC (slotsFrom 0 vs)) → Option Bool} (hS : Good P (⟨fid, ⟨slotsFrom 0 vs, [], nx⟩, ⟨[.slot r (.one (.d .bool))], [], nx'⟩, [r], fn⟩ : Spec B))
    {W : World} {args : Array Value} {p : HL B.T (itemsC (slotsFrom 0 vs))} (hfn : fn (ofHL _ p) = some true) (ha : RArgs (wh W) (fun _ => none) 0 vs p (fun t => args.getD t undef)) (hz : args.size = slotsN (slotsFrom 0 vs) := by rfl) (hgl : B.glob (wh W) := by exact trivial) :
    Calls P fid args W fun e W' => ∃ v f', e = .returned v ∧ HP.le (wh W) f' ∧ v = .bool true ∧ Wd W W' f' [] := by
  have hu : unM (B := B) ⟨slotsFrom 0 vs, [], nx⟩ (ofHL _ p) = unItems (fun e => e) nx (slotsFrom 0 vs) p := by unfold unM; rw [toHL_ofHL]
  have hl := slots_look (q := nx) ha
  have no : ∀ (l : Loc) (c : Con B), look (unItems (fun e => e) nx (slotsFrom 0 vs) p) l = some c → (∀ t, l ≠ .s t) → False := fun l c h1 h2 => by
    obtain ⟨t, d, e, _⟩ := hl l c h1
    exact h2 t e
  refine (hS.1 W W [] (wh W) (fun _ => none) (ofHL _ p) true args hfn hz ?_).mono fun e w' hR => ?_
  · show SimF W [] (wh W) (fun _ => none) (look (unM (B := B) ⟨slotsFrom 0 vs, [], nx⟩ (ofHL _ p))) [] _ (wh W) (fun _ => none) _ W
    rw [hu]
    refine ⟨hgl, HP.le_refl _, Rz.le_refl _, fun _ _ => rfl, fun t => ?_, fun i e xs nn h => (no _ _ h (by simp)).elim, fun i e x h => (no _ _ h (by simp)).elim, fun i j x h => (no _ _ h (by simp)).elim, fun i e xs s nn h => (no _ _ h (by simp)).elim, fun i e rows s h hole nn hh => (no _ _ hh (by simp)).elim,
      fun i k v m hh => (no _ _ hh (by simp)).elim, fun i k e m key pd hh => (no _ _ hh (by simp)).elim, fun i ty n h => (no _ _ h (by simp)).elim, [], [], List.nodup_nil, fun x => Iff.rfl, trivial, ⟨rfl, rfl, rfl, HP.le_refl _, trivial⟩⟩
    cases hq : look (unItems (fun e => e) nx (slotsFrom 0 vs) p) (.s t) with
    | none => trivial
    | some c =>
      obtain ⟨t', d, e, rfl, hd⟩ := hl _ _ hq
      injection e with e
      subst e
      exact hd
  · obtain ⟨v, he, f', σ', ρ', g1, g2⟩ := hR
    have h1 := g2.slots r
    rw [show ovl (unM (B := B) ⟨[.slot r (.one (.d .bool))], [], nx'⟩ true) (sOff true (look (unM (B := B) ⟨slotsFrom 0 vs, [], nx⟩ (ofHL _ p)))) (.s r) = some (.v (.one (.bool true))) from ovl_some (look_cons_self _ _ _)] at h1
    have h1 : ρ' r = .bool true := h1
    obtain ⟨E1, L1, k1, k2, k3, k4⟩ := g2.ents
    have : E1 = [] := by
      cases E1 with
      | nil => rfl
      | cons x l => exact absurd ((k2 x).1 (by simp)) (by simp)
    subst this
    cases L1 with
    | cons _ _ => exact k3.elim
    | nil => exact ⟨v, f', he, g2.le, by rw [g1]; exact h1, k4⟩
end
end Hd
set_option linter.unusedVariables false
set_option linter.unusedSimpArgs false
namespace Hd
open Go Hk
section
variable {B : Tab} {P : Program}
end
end Hd
