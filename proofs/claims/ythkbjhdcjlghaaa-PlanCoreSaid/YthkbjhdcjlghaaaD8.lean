/- What the run over plain values says of the code: the parts. -/
import Derived.Test.YthkbjhdcjlghaaaD7
import Derived.Test.YthkbjhdcjlghaaaD1
set_option linter.unusedVariables false
set_option linter.unusedSimpArgs false
namespace Hd
open Go Hk
def lowOps (n : Nat) : List Oper → Bool
  | [] => true
  | o :: l => match o.dst with
    | some d => match Nat.blt d n with | true => lowOps n l | false => false
    | none => lowOps n l
def lowC (n : Nat) : Code → Bool
  | .region _ ops _ => lowOps n ops.toList
  | .seq a b => match lowC n a with | true => lowC n b | false => false
  | .cond _ a b => match lowC n a with | true => lowC n b | false => false
  | .block _ c => lowC n c
  | .loop c => lowC n c
  | _ => true
theorem lowOps_spec {n : Nat} : ∀ {l : List Oper}, lowOps n l = true → DstLow n l
  | [], _ => fun o h => by simp at h
  | a :: l, h => by
    unfold lowOps at h
    have key : (∀ d, a.dst = some d → d < n) ∧ lowOps n l = true := by
      cases hd : a.dst with
      | none => rw [hd] at h; exact ⟨fun d h => (by cases h), h⟩
      | some d =>
        rw [hd] at h
        simp only at h
        cases hb : Nat.blt d n with
        | false => rw [hb] at h; cases h
        | true => rw [hb] at h; rw [Nat.blt_eq] at hb; exact ⟨fun d' hd' => (by injection hd' with hd'; exact hd' ▸ hb), h⟩
    intro o ho
    rcases List.mem_cons.1 ho with rfl | ho
    · exact key.1
    · exact lowOps_spec key.2 o ho
section
variable {B : Tab}
structure Ctx (P : Program) (F : Fn B) (σ0 : Rz B) : Prop where
  tt : ttOk P F.tt = true
  specs : SpecsOk P F.specs
  mixed : P.follows .mixedOrders = true
  frame : FrameB F.n0 F.E0 (look F.a0)
  base : ∀ i, F.n0 ≤ i → σ0 i = none
def Tells (F : Fn B) (G : World) (L0 : List HProp) (f0 : HP) (σ0 : Rz B) (fr : Mem B) (st : St B) (ρ : Env) (w : World) : Prop :=
  F.n0 ≤ st.nx ∧ ∃ f σ, SimF G L0 f0 σ0 (lkS F.a0 fr st.m) st.E (fun i => i < st.nx) f σ ρ w
def LoadIs (P : Program) (t : TypeId) (a : Value) (w : World) (v : Value) : Prop := ∃ ad, a = .pointer (some ad) ∧ (loadVar t ad).run P w = .ok v w
def RetEnv (P : Program) (rts : List Nat) (ρ ρ' : Env) (w : World) : Prop := (∀ t, t < bigT → ρ' t = ρ t) ∧ ∀ u, u ∈ rts → bigT ≤ u → LoadIs P (u / bigT) (ρ (u % bigT)) w (ρ' u)
def TellsR (P : Program) (F : Fn B) (G : World) (L0 : List HProp) (f0 : HP) (σ0 : Rz B) (x : TplT B F.res) (ρ : Env) (w : World) : Prop :=
  ∃ ρ', RetEnv P F.rts ρ ρ' w ∧ ∃ f σ, SimF G L0 f0 σ0 (ovl (unM F.res x) (sOff true (look F.a0))) F.res.ents (fun i => i < F.res.nx + F.res.items.length) f σ ρ' w
def CPost (P : Program) (F : Fn B) (G : World) (L0 : List HProp) (f0 : HP) (σ0 : Rz B) (fr : Mem B) {α : Type} (K : KK B (TplT B F.res) α) (r : α) : EPost
  | .normal, ρ, w => ∃ st, K.go st = some r ∧ Tells F G L0 f0 σ0 fr st ρ w
  | .exit id, ρ, w => ∃ st, K.ex id st = some r ∧ Tells F G L0 f0 σ0 fr st ρ w
  | .ret, ρ, w => ∃ x, K.rt x = some r ∧ TellsR P F G L0 f0 σ0 x ρ w
  | _, _, _ => False
def Sound (P : Program) (n : Nat) (F : Fn B) (G : World) (L0 : List HProp) (f0 : HP) (σ0 : Rz B) (c : Code) : Prop :=
  ∀ (h : Hint) (fr : Mem B) (α : Type) (st : St B) (K : KK B (TplT B F.res) α) (r : α) (ρ : Env) (w : World), D F c h fr st K = some r → Tells F G L0 f0 σ0 fr st ρ w →
    EWp P n c (CPost P F G L0 f0 σ0 fr K r) ρ w
variable {P : Program} {n : Nat} {F : Fn B} {G : World} {L0 : List HProp} {f0 : HP} {σ0 : Rz B} {α : Type} {fr : Mem B} {st : St B} {K : KK B (TplT B F.res) α} {r : α} {ρ : Env} {w : World}
theorem lkS_nil (a0 m fr : Mem B) : lkS a0 (m ++ fr) [] = lkS a0 fr m := by rw [lkS_ovl, lkS_ovl, ovl_nil, ovl_app]
theorem tells_cut (h : Tells F G L0 f0 σ0 fr st ρ w) : Tells F G L0 f0 σ0 (st.m ++ fr) ⟨[], st.E, st.nx⟩ ρ w := by
  obtain ⟨h1, f, σ, hs⟩ := h
  exact ⟨h1, f, σ, by rw [lkS_nil]; exact hs⟩
theorem frame_cut (h : Tells F G L0 f0 σ0 fr st ρ w) : FrameB st.nx st.E (lkS F.a0 (st.m ++ fr) []) := by
  obtain ⟨h1, f, σ, hs⟩ := h
  rw [lkS_nil]
  exact hs.frame
theorem pk_tells (hx : Ctx P F σ0) {fr' : Mem B} {n0 : Nat} {E0 : List (Nat × EH)} (hn : F.n0 ≤ n0) (hf : FrameB n0 E0 (lkS F.a0 fr' [])) {T : Tpl} {s : St B} {k : TplT B T → Option α} {r : α} (hs : Tells F G L0 f0 σ0 fr' s ρ w)
    (h : (match covered n0 false (itemKeys T.items) s.m with | true => pk F.a0 (s.m ++ fr') n0 E0 false T [] s.E s.nx k | false => none) = some r) :
    ∃ t, k t = some r ∧ Tells F G L0 f0 σ0 fr' (unSt T t) ρ w := by
  cases hc : covered n0 false (itemKeys T.items) s.m with
  | false => rw [hc] at h; cases h
  | true =>
    rw [hc] at h
    obtain ⟨h1, f, σ, hs⟩ := hs
    have hl : lkS F.a0 fr' s.m = ovl s.m (lkS F.a0 fr' []) := by rw [lkS_ovl, lkS_ovl, ovl_nil]
    rw [hl] at hs
    obtain ⟨t, f', σ', g1, g2, g3, g4⟩ := pk_sound (Mf := lkS F.a0 fr' []) (by rw [lkS_nil, hl]) hs (fun i hi => hx.base i (by omega)) hf hc h
    refine ⟨t, g1, by show F.n0 ≤ T.nx + T.items.length; omega, f', σ', ?_⟩
    rw [sOff_f] at g2
    have : lkS F.a0 fr' (unSt T t).m = ovl (unM T t) (lkS F.a0 fr' []) := by rw [lkS_ovl, lkS_ovl, ovl_nil]; rfl
    rw [this]
    exact g2
theorem tells_aft {T : Tpl} {t : TplT B T} {m : Mem B} (h : Tells F G L0 f0 σ0 (m ++ fr) (unSt T t) ρ w) : Tells F G L0 f0 σ0 fr (aft T t m) ρ w := by
  obtain ⟨h1, f, σ, hs⟩ := h
  refine ⟨h1, f, σ, ?_⟩
  have : lkS F.a0 fr (aft T t m).m = lkS F.a0 (m ++ fr) (unSt T t).m := by
    show lkS F.a0 fr (unM T t ++ m) = lkS F.a0 (m ++ fr) (unM T t)
    rw [lkS_ovl, lkS_ovl, ovl_app, ovl_app]
  rw [this]
  exact hs
theorem inX_spec {l : List (Nat × Tpl)} {id : Nat} {f : (T : Tpl) → (TplT B T → Option α) → Option α} {k : OutX B l → Option α} {r : α} : inX l id f k = some r →
    ∃ T, ∃ inj : TplT B T → OutX B l, f T (fun t => k (inj t)) = some r ∧ ∀ (t : TplT B T) {β : Type} (e : (i : Nat) → (T : Tpl) → TplT B T → Option β), onX l (inj t) e = e id T t := by
  induction l with
  | nil => intro h; cases h
  | cons x l ih =>
    obtain ⟨i, T⟩ := x
    intro h
    cases l with
    | nil =>
      unfold inX at h
      cases hb : Nat.beq i id with
      | false => rw [hb] at h; cases h
      | true =>
        rw [hb] at h
        have := Nat.eq_of_beq_eq_true hb
        subst this
        exact ⟨T, fun t => t, h, fun t β e => rfl⟩
    | cons y l =>
      unfold inX at h
      cases hb : Nat.beq i id with
      | true =>
        rw [hb] at h
        have := Nat.eq_of_beq_eq_true hb
        subst this
        exact ⟨T, fun t => .inl t, h, fun t β e => rfl⟩
      | false =>
        rw [hb] at h
        obtain ⟨T', inj, g1, g2⟩ := ih h
        exact ⟨T', fun t => .inr (inj t), g1, fun t β e => g2 t e⟩
theorem inE_spec {R : Type} {ret : Bool} {l : List (Nat × Tpl)} {id : Nat} {f : (T : Tpl) → (TplT B T → Option α) → Option α} {k : OutT B R ret l → Option α} {r : α} (h : inE ret l id f k = some r) :
    ∃ T, ∃ inj : TplT B T → OutT B R ret l, f T (fun t => k (inj t)) = some r ∧ ∀ (t : TplT B T) {β : Type} (g : R → Option β) (e : (i : Nat) → (T : Tpl) → TplT B T → Option β), onO ret l (inj t) g e = e id T t := by
  cases ret with
  | false =>
    obtain ⟨T, inj, g1, g2⟩ := inX_spec h
    exact ⟨T, inj, g1, fun t β g e => g2 t e⟩
  | true =>
    cases l with
    | nil => cases h
    | cons x l =>
      obtain ⟨T, inj, g1, g2⟩ := inX_spec (l := x :: l) h
      exact ⟨T, fun t => .inr (inj t), g1, fun t β g e => g2 t e⟩
theorem inR_spec {R : Type} {ret : Bool} {l : List (Nat × Tpl)} {x : R} {k : OutT B R ret l → Option α} {r : α} (h : inR ret l x k = some r) :
    ∃ o, k o = some r ∧ ∀ {β : Type} (g : R → Option β) (e : (i : Nat) → (T : Tpl) → TplT B T → Option β), onO ret l o g e = g x := by
  cases ret with
  | false => cases h
  | true =>
    cases l with
    | nil => exact ⟨x, h, fun g e => rfl⟩
    | cons y l => exact ⟨.inl x, h, fun g e => rfl⟩
theorem sound_skip : Sound P n F G L0 f0 σ0 .skip := fun h fr α st K r ρ w hD hs => ewp_skip ⟨st, hD, hs⟩
theorem sound_exit {id : Nat} : Sound P n F G L0 f0 σ0 (.exit id) := fun h fr α st K r ρ w hD hs => ewp_exit ⟨st, hD, hs⟩
theorem run_loadVar1 {t : TypeId} {ad : Addr} {v : Value} (ht : tyAgg P t = some false) (hc : w.cell? ad = some v) : (loadVar t ad).run P w = .ok v w := by
  obtain ⟨d, hu, hd⟩ := tyAgg_spec ht
  cases d <;> simp [descAgg] at hd <;> simp [loadVar, isAgg, underlying, hu, hc, go_sem]
theorem run_loadVarN {t : TypeId} {ad : Addr} {n : Nat} {cs : List Value} (ht : tyAgg P t = some true) (hs : tySize P t = some n) (hl : cs.length = n) (hc : ∀ j v, cs[j]? = some v → w.cell? (ad.add j) = some v) :
    (loadVar t ad).run P w = .ok (.agg cs.toArray) w := by
  obtain ⟨d, hu, hd⟩ := tyAgg_spec ht
  obtain ⟨i, hi, rfl⟩ := tySize_spec hs
  have hr := run_loadCells_list (P := P) (w := w) ad cs hc
  rw [hl] at hr
  have hr' : (loadCellsFrom ad 0 i.size #[]).run P w = .ok cs.toArray w := hr
  cases d <;> simp [descAgg] at hd <;> simp [loadVar, isAgg, underlying, hu, Go.sizeOf, typeInfo, hi, hr, hr', go_sem]
theorem retR_ran {tt : List (TI B)} (htt : ttOk P tt = true) {M : Loc → Option (Con B)} {E : List (Nat × EH)} {N : Nat → Prop} {f : HP} {σ : Rz B} {ρr : Type} {o : ρr} : ∀ {l : List Nat} {k : Mem B → RM B ρr} {rs : List Loc}, SimF G L0 f0 σ0 M E N f σ ρ w → (retR tt l k).Ran M o rs →
    ∃ m ρ' rs', (k m).Ran M o rs' ∧ RetEnv P l ρ ρ' w ∧ SimF G L0 f0 σ0 (ovl m M) E N f σ ρ' w
  | [], k, rs, hs, h => ⟨[], ρ, rs, h, ⟨fun _ _ => rfl, fun u hu => by simp at hu⟩, by rw [ovl_nil]; exact hs⟩
  | u :: l, k, rs, hs, h => by
    unfold retR at h
    cases hb : Nat.blt u bigT with
    | true =>
      rw [hb] at h
      obtain ⟨m, ρ', rs', h1, ⟨h2, h3⟩, h4⟩ := retR_ran htt hs h
      rw [Nat.blt_eq] at hb
      refine ⟨m, ρ', rs', h1, ⟨h2, fun u' hu' hbig => ?_⟩, h4⟩
      rcases List.mem_cons.1 hu' with rfl | hu'
      · omega
      · exact h3 u' hu' hbig
    | false =>
      rw [hb] at h
      have hbu : bigT ≤ u := by
        have : ¬ u < bigT := fun hlt => by rw [← Nat.blt_eq] at hlt; rw [hlt] at hb; cases hb
        omega
      obtain ⟨rs1, h1⟩ := read_ran h
      clear h
      have hsl := hs.slots (u % bigT)
      cases hM : M (.s (u % bigT)) with
      | none => rw [hM] at h1; exact h1.elim
      | some q =>
      rw [hM] at h1 hsl
      cases q <;> try exact h1.elim
      rename_i d0
      cases d0 <;> try exact h1.elim
      rename_i c0
      cases c0 <;> try exact h1.elim
      rename_i i off
      cases hti : tfind tt (u / bigT) with
      | none => rw [hti] at h1; exact h1.elim
      | some ti =>
      rw [hti] at h1
      obtain ⟨k1, hid⟩ := tfind_ok htt hti
      obtain ⟨rs2, h2⟩ := read_ran h1
      clear h1
      cases hM2 : M (.b i) with
      | none => rw [hM2] at h2; exact h2.elim
      | some q =>
      rw [hM2] at h2
      cases q <;> try exact h2.elim
      rename_i bt n
      obtain ⟨hle, h3⟩ := chk_ran h2
      clear h2
      have hle := Nat.le_of_ble_eq_true hle
      obtain ⟨E2, L2, b, vals, q1, q2, q3, q4, q5, q6, q7⟩ := take_blk hs hM2
      obtain ⟨cs, rs3, hc, h4⟩ := readC_ran hs (fun j v hv => (q6 j v hv).2) (by omega) h3
      have hsl : CRel f σ (.ptr i off : Cel B) (ρ (u % bigT)) := hsl
      obtain ⟨b', r1, hv⟩ := hsl
      rw [q4] at r1
      injection r1 with r1
      injection r1 with r1
      subst r1
      have hcell : ∀ j v, ((vals.drop off).take ti.size)[j]? = some v → w.cell? ((⟨b, off, none⟩ : Addr).add j) = some v := wd_cells 0 q7 rfl (by simp)
      have ft := tiOk_facts k1
      have fin : ∀ (d : DV B) (v : Value) (rs : List Loc), DRel f σ d v → (loadVar (u / bigT) ⟨b, off, none⟩).run P w = .ok v w → (retR tt l fun m => k ((.s u, .v d) :: m)).Ran M o rs →
          ∃ m ρ' rs', (k m).Ran M o rs' ∧ RetEnv P (u :: l) ρ ρ' w ∧ SimF G L0 f0 σ0 (ovl m M) E N f σ ρ' w := by
        intro d v rs hd hl h
        obtain ⟨m, ρ', rs', g1, ⟨g2, g3⟩, g4⟩ := retR_ran htt hs h
        refine ⟨_, Hk.upd ρ' u v, rs', g1, ⟨fun t ht => ?_, fun u' hu' hbig => ?_⟩, ?_⟩
        · have : Nat.beq t u = false := by
            cases hbq : Nat.beq t u with
            | false => rfl
            | true => have := Nat.eq_of_beq_eq_true hbq; omega
          simp only [Hk.upd, this, cond_false]
          exact g2 t ht
        · cases hbq : Nat.beq u' u with
          | true =>
            have := Nat.eq_of_beq_eq_true hbq
            subst this
            simp only [Hk.upd, hbq, cond_true]
            exact ⟨_, hv, hl⟩
          | false =>
            simp only [Hk.upd, hbq, cond_false]
            refine g3 u' ?_ hbig
            rcases List.mem_cons.1 hu' with rfl | hu'
            · simp at hbq
            · exact hu'
        · have := g4.put (d := u) hd
          rw [show ovl ((.s u, .v d) :: m) M = ovl [(.s u, .v d)] (ovl m M) from by rw [← ovl_app]; rfl]
          exact this
      cases hag : ti.agg with
      | true =>
        rw [hag] at h4
        refine fin (.agg cs) _ _ ⟨_, rfl, hc⟩ (run_loadVarN (n := ti.size) ?_ ?_ (by simp; omega) hcell) h4
        · rw [← hid, ← hag]; exact ft.agg
        · rw [← hid]; exact ft.size
      | false =>
        rw [hag] at h4
        match cs, hc, h4 with
        | [], hc, h4 => exact h4.elim
        | _ :: _ :: _, hc, h4 => exact h4.elim
        | [c], hc, h4 =>
          cases hvs : (vals.drop off).take ti.size with
          | nil => rw [hvs] at hc; exact hc.elim
          | cons v vs =>
            rw [hvs] at hc hcell
            cases vs with
            | cons _ _ => exact hc.2.elim
            | nil =>
              refine fin (.one c) v _ hc.1 (run_loadVar1 ?_ ?_) h4
              · rw [← hid, ← hag]; exact ft.agg
              · have := hcell 0 v rfl
                simpa [Addr.add] using this
theorem sound_ret (hx : Ctx P F σ0) : Sound P n F G L0 f0 σ0 .ret := fun h fr α st K r ρ w hD hs => by
  refine ewp_ret ?_
  have hD : (retR F.tt F.rts fun m => .ret m : RM B (Mem B)).go (lkS F.a0 fr st.m) [] (fun m _ => match covered F.n0 true (itemKeys F.res.items) (m ++ (st.m ++ fr)) with | true => pk F.a0 (m ++ (st.m ++ fr)) F.n0 F.E0 true F.res [] st.E st.nx K.rt | false => none) = some r := hD
  obtain ⟨m, rs, hr, hD⟩ := RM.go_ran hD
  obtain ⟨h1, f, σ, hs⟩ := hs
  obtain ⟨m', ρ', rs', e1, e2, hs⟩ := retR_ran hx.tt hs hr
  obtain ⟨rfl, _⟩ : m' = m ∧ rs' = [] := e1
  cases hc : covered F.n0 true (itemKeys F.res.items) (m' ++ (st.m ++ fr)) with
  | false => rw [hc] at hD; cases hD
  | true =>
    rw [hc] at hD
    have hl : ovl m' (lkS F.a0 fr st.m) = ovl (m' ++ (st.m ++ fr)) (look F.a0) := by rw [lkS_ovl, ovl_app, ovl_app]
    rw [hl] at hs
    obtain ⟨t, f', σ', g1, g2, g3, g4⟩ := pk_sound (Mf := look F.a0) (by rw [lkS_ovl, ovl_nil]) hs hx.base hx.frame hc hD
    exact ⟨t, g1, ρ', e2, f', σ', g2⟩
theorem sound_cond {c : Operand} {x y : Code} (hx : Sound P n F G L0 f0 σ0 x) (hy : Sound P n F G L0 f0 σ0 y) : Sound P n F G L0 f0 σ0 (.cond c x y) := fun h fr α st K r ρ w hD hs => by
  cases c with
  | tmp t =>
    have hD : (match lkS F.a0 fr st.m (.s t) with
      | some (.v (.one (.bool b))) => Bool.rec (D F y (hintR h) fr st K) (D F x (hintL h) fr st K) b
      | _ => none) = some r := hD
    split at hD <;> try contradiction
    rename_i b hb
    have hc : ev ρ (.tmp t) = .bool b := by
      obtain ⟨h1, f, σ, hs⟩ := hs
      have := hs.slots t
      rw [hb] at this
      exact this
    refine ewp_cond b hc (fun e => ?_) (fun e => ?_)
    · subst e; exact hx _ _ _ _ _ _ _ _ hD hs
    · subst e; exact hy _ _ _ _ _ _ _ _ hD hs
  | const v =>
    cases v <;> try (cases hD; done)
    rename_i b
    refine ewp_cond b rfl (fun e => ?_) (fun e => ?_)
    · subst e; exact hx _ _ _ _ _ _ _ _ hD hs
    · subst e; exact hy _ _ _ _ _ _ _ _ hD hs
  | global g => cases hD
  | func g => cases hD
theorem sound_region (hx : Ctx P F σ0) {id : Nat} {ops : Array Oper} {draw : Bool} (hl : lowOps n ops.toList = true) : Sound P n F G L0 f0 σ0 (.region id ops draw) := fun h fr α st K r ρ w hD hs => by
  obtain ⟨h1, f, σ, hs⟩ := hs
  have hD : Dops F.tt F.specs (hintC h) F.a0 fr ops.toList draw st.nx ops.toList 0 st.m st.E [] (fun m E rows =>
      match (match draw with | true => apartRows (befAll ops.toList 0 []) rows | false => true) with
      | true => K.go ⟨m, E, st.nx + stepW * ops.size⟩
      | false => none) = some r := hD
  obtain ⟨tr, m', rows', g1, g2, g3, g4⟩ := dops_ran hD
  have hops : ops.toList.toArray = ops := by simp
  have hlen : ops.toList.length = ops.size := by simp
  have fin : ∀ f σ ρ w, K.go ⟨m', entSeq tr st.E, st.nx + stepW * ops.size⟩ = some r → SimF G L0 f0 σ0 (memSeq tr (lkS F.a0 fr st.m)) (entSeq tr st.E) (fun j => j < st.nx + stepW * ops.toList.length) f σ ρ w →
      CPost P F G L0 f0 σ0 fr K r .normal ρ w := fun f σ ρ w hK hh => by
    refine ⟨_, hK, by show F.n0 ≤ st.nx + stepW * ops.size; omega, f, σ, ?_⟩
    show SimF G L0 f0 σ0 (lkS F.a0 fr m') (entSeq tr st.E) (fun j => j < st.nx + stepW * ops.size) f σ ρ w
    rw [g3, ← hlen]
    exact hh
  cases draw with
  | false =>
    rw [← hops]
    exact region_list hx.tt hx.specs g1 (lowOps_spec hl) hs fun f σ ρ w hh => fin f σ ρ w g2 hh
  | true =>
    obtain ⟨g5, g6⟩ := g4 rfl
    subst g5
    simp only at g2
    split at g2 <;> try contradiction
    rename_i hap
    rw [← hops]
    exact region_draw hx.tt hx.specs hx.mixed g1 hap (fun j o hj => by have := g6 j o hj; rwa [Nat.zero_add] at this) (lowOps_spec hl) hs fun f σ ρ w hh => fin f σ ρ w g2 hh
theorem sound_block {id : Nat} {c : Code} (hc : Sound P n F G L0 f0 σ0 c) {h : Hint} (hs : Tells F G L0 f0 σ0 fr st ρ w)
    (hD : D F c (hintL h) fr st ⟨K.go, fun i s => match Nat.beq i id with | true => K.go s | false => K.ex i s, K.rt⟩ = some r) : EWp P n (.block id c) (CPost P F G L0 f0 σ0 fr K r) ρ w := by
  refine ewp_block ((hc _ _ _ _ _ _ _ _ hD hs).mono fun e ρ w hq => ?_)
  cases e with
  | normal => exact hq
  | ret => exact hq
  | exit i =>
    obtain ⟨s, h1, h2⟩ := hq
    show (cond (Nat.beq i id) _ _ : Prop)
    simp only at h1
    cases hb : Nat.beq i id with
    | true => rw [hb] at h1; exact ⟨s, h1, h2⟩
    | false => rw [hb] at h1; exact ⟨s, h1, h2⟩
  | goto l => exact hq.elim
  | panic c => exact hq.elim
  | outgrown => exact hq.elim
theorem sound_seq0 {a b : Code} (ha : Sound P n F G L0 f0 σ0 a) (hb : Sound P n F G L0 f0 σ0 b) {h : Hint} (hs : Tells F G L0 f0 σ0 fr st ρ w)
    (hD : D F a (hintL h) fr st ⟨fun s => D F b (hintR h) fr s K, K.ex, K.rt⟩ = some r) : EWp P n (.seq a b) (CPost P F G L0 f0 σ0 fr K r) ρ w := by
  refine ewp_seq ((ha _ _ _ _ _ _ _ _ hD hs).mono fun e ρ w hq => ?_)
  cases e with
  | normal =>
    obtain ⟨s, h1, h2⟩ := hq
    exact hb _ _ _ _ _ _ _ _ h1 h2
  | ret => exact hq
  | exit i => exact hq
  | goto l => exact hq.elim
  | panic c => exact hq.elim
  | outgrown => exact hq.elim
theorem sound_cut0 (hx : Ctx P F σ0) {a b : Code} (ha : Sound P n F G L0 f0 σ0 a) (hb : Sound P n F G L0 f0 σ0 b) {h1 h2 : Hint} {T : Tpl} (hs : Tells F G L0 f0 σ0 fr st ρ w)
    (hD : (D F a h1 (st.m ++ fr) (α := TplT B T) ⟨[], st.E, st.nx⟩
        ⟨fun s => match covered st.nx false (itemKeys T.items) s.m with | true => pk F.a0 (s.m ++ (st.m ++ fr)) st.nx st.E false T [] s.E s.nx some | false => none, fun _ _ => none, fun _ => none⟩).bind (fun t =>
        D F b h2 fr (aft T t st.m) K) = some r) : EWp P n (.seq a b) (CPost P F G L0 f0 σ0 fr K r) ρ w := by
  obtain ⟨t, hD1, hD2⟩ := bind_some hD
  have hn := hs.1
  have hf := frame_cut hs
  refine ewp_seq ((ha _ _ _ _ _ _ _ _ hD1 (tells_cut hs)).mono fun e ρ w hq => ?_)
  cases e with
  | normal =>
    obtain ⟨s, g1, g2⟩ := hq
    obtain ⟨t', g3, g4⟩ := pk_tells hx hn hf g2 g1
    injection g3 with g3
    subst g3
    exact hb _ _ _ _ _ _ _ _ hD2 (tells_aft g4)
  | ret => obtain ⟨x, g1, _⟩ := hq; cases g1
  | exit i => obtain ⟨x, g1, _⟩ := hq; cases g1
  | goto l => exact hq.elim
  | panic c => exact hq.elim
  | outgrown => exact hq.elim
theorem sound_cut (hx : Ctx P F σ0) {a b : Code} (ha : Sound P n F G L0 f0 σ0 a) (hb : Sound P n F G L0 f0 σ0 b) {h1 h2 : Hint} {T : Tpl} {ret : Bool} {outs : List (Nat × Tpl)} (hs : Tells F G L0 f0 σ0 fr st ρ w)
    {f : {β : Type} → (T' : Tpl) → (s : St B) → (k : TplT B T' → Option β) → Option β}
    (hfd : ∀ {β : Type} (T' : Tpl) (s : St B) (k : TplT B T' → Option β), f T' s k = match covered st.nx false (itemKeys T'.items) s.m with | true => pk F.a0 (s.m ++ (st.m ++ fr)) st.nx st.E false T' [] s.E s.nx k | false => none)
    (hD : (D F a h1 (st.m ++ fr) (α := Ctl (TplT B T) (OutT B (TplT B F.res) ret outs)) ⟨[], st.E, st.nx⟩
        ⟨fun s => f T s fun t => some (.go t), fun i s => inE ret outs i (fun T' k => f T' s k) fun o => some (.out o), fun r => inR ret outs r fun o => some (.out o)⟩).bind (fun x =>
        Ctl.on x (fun t => D F b h2 fr (aft T t st.m) K) (fun o => onO ret outs o K.rt fun i T' t => K.ex i (aft T' t st.m))) = some r) : EWp P n (.seq a b) (CPost P F G L0 f0 σ0 fr K r) ρ w := by
  obtain ⟨x, hD1, hD2⟩ := bind_some hD
  have hn := hs.1
  have hf := frame_cut hs
  refine ewp_seq ((ha _ _ _ _ _ _ _ _ hD1 (tells_cut hs)).mono fun e ρ w hq => ?_)
  cases e with
  | normal =>
    obtain ⟨s, g1, g2⟩ := hq
    have g1 : f T s (fun t => some (Ctl.go t)) = some x := g1
    rw [hfd] at g1
    obtain ⟨t', g3, g4⟩ := pk_tells hx hn hf g2 g1
    injection g3 with g3
    subst g3
    exact hb _ _ _ _ _ _ _ _ hD2 (tells_aft g4)
  | ret =>
    obtain ⟨y, g1, g2⟩ := hq
    obtain ⟨o, g3, g4⟩ := inR_spec g1
    injection g3 with g3
    subst g3
    simp only [Ctl.on] at hD2
    rw [g4] at hD2
    exact ⟨y, hD2, g2⟩
  | exit i =>
    obtain ⟨s, g1, g2⟩ := hq
    obtain ⟨T', inj, g3, g4⟩ := inE_spec g1
    rw [hfd] at g3
    obtain ⟨t', g5, g6⟩ := pk_tells hx hn hf g2 g3
    injection g5 with g5
    subst g5
    simp only [Ctl.on] at hD2
    rw [g4] at hD2
    exact ⟨_, hD2, tells_aft g6⟩
  | goto l => exact hq.elim
  | panic c => exact hq.elim
  | outgrown => exact hq.elim
theorem sound_seq (hx : Ctx P F σ0) {a b : Code} (ha : Sound P n F G L0 f0 σ0 a) (hb : Sound P n F G L0 f0 σ0 b) : Sound P n F G L0 f0 σ0 (.seq a b) := fun h fr α st K r ρ w hD hs => by
  unfold D at hD
  cases h with
  | cut T ret outs h1 h2 =>
    cases ret with
    | false =>
      cases outs with
      | nil => exact sound_cut0 hx ha hb hs hD
      | cons x l => exact sound_cut hx ha hb hs (f := fun T' s k => match covered st.nx false (itemKeys T'.items) s.m with | true => pk F.a0 (s.m ++ (st.m ++ fr)) st.nx st.E false T' [] s.E s.nx k | false => none) (fun T' s k => rfl) hD
    | true => exact sound_cut hx ha hb hs (f := fun T' s k => match covered st.nx false (itemKeys T'.items) s.m with | true => pk F.a0 (s.m ++ (st.m ++ fr)) st.nx st.E false T' [] s.E s.nx k | false => none) (fun T' s k => rfl) hD
  | _ => exact sound_seq0 ha hb hs hD
end
end Hd
set_option linter.unusedVariables false
set_option linter.unusedSimpArgs false
namespace Hd
open Go Hk
section
variable {B : Tab} {P : Program} {n : Nat} {F : Fn B} {G : World} {L0 : List HProp} {f0 : HP} {σ0 : Rz B} {α : Type} {fr : Mem B} {st : St B} {K : KK B (TplT B F.res) α} {r : α} {ρ : Env} {w : World}
variable {M M' : Loc → Option (Con B)} {f f' : HP} {σ σ' : Rz B} {E E0 : List (Nat × EH)} {N N' : Nat → Prop}
theorem pk_tells0 (hx : Ctx P F σ0) {fr' : Mem B} {n0 : Nat} {E0 : List (Nat × EH)} (hn : F.n0 ≤ n0) (hf : FrameB n0 E0 (lkS F.a0 fr' [])) {T : Tpl} {E : List (Nat × EH)} {nx : Nat} {k : TplT B T → Option α} {r : α}
    (hs : Tells F G L0 f0 σ0 fr' ⟨[], E, nx⟩ ρ w) (h : pk F.a0 fr' n0 E0 false T [] E nx k = some r) : ∃ t, k t = some r ∧ Tells F G L0 f0 σ0 fr' (unSt T t) ρ w :=
  pk_tells (s := ⟨[], E, nx⟩) hx hn hf hs h
theorem sound_un {id : Nat} {c : Code} (hc : Sound P n F G L0 f0 σ0 c) {k : Nat} {h : Hint} (hs : Tells F G L0 f0 σ0 fr st ρ w)
    (hD : Nat.rec (motive := fun _ => Hint → St B → Option α) (fun _ _ => none) (fun _ ih h s => D F c (hintL h) fr s ⟨ih (hintR h), fun i s => match Nat.beq i id with | true => K.go s | false => K.ex i s, K.rt⟩) k h st = some r) : EWp P n (.block id (.loop c)) (CPost P F G L0 f0 σ0 fr K r) ρ w := by
  refine ewp_block (ewp_loop (fun k ρ w => ∃ h s, Nat.rec (motive := fun _ => Hint → St B → Option α) (fun _ _ => none) (fun _ ih h s => D F c (hintL h) fr s ⟨ih (hintR h), fun i s => match Nat.beq i id with | true => K.go s | false => K.ex i s, K.rt⟩) k h s = some r ∧ Tells F G L0 f0 σ0 fr s ρ w) k ⟨h, st, hD, hs⟩ ?_)
  rintro k ρ w ⟨h, s, h1, h2⟩
  cases k with
  | zero => cases h1
  | succ k =>
    refine (hc _ _ _ _ _ _ _ _ h1 h2).mono fun e ρ w hq => ?_
    cases e with
    | normal => obtain ⟨s', g1, g2⟩ := hq; exact ⟨k, Nat.lt_succ_self _, _, s', g1, g2⟩
    | ret => exact hq
    | exit i =>
      obtain ⟨s', g1, g2⟩ := hq
      show (cond (Nat.beq i id) _ _ : Prop)
      simp only at g1
      cases hb : Nat.beq i id with
      | true => rw [hb] at g1; exact ⟨s', g1, g2⟩
      | false => rw [hb] at g1; exact ⟨s', g1, g2⟩
    | goto l => exact hq.elim
    | panic c => exact hq.elim
    | outgrown => exact hq.elim
theorem sound_lp (hx : Ctx P F σ0) {id : Nat} {c : Code} (hc : Sound P n F G L0 f0 σ0 c) {h : Hint} {T TX : Tpl} {ret : Bool} {outs : List (Nat × Tpl)} (hs : Tells F G L0 f0 σ0 fr st ρ w)
    {f : {β : Type} → (T' : Tpl) → (s : St B) → (k : TplT B T' → Option β) → Option β}
    (hfd : ∀ {β : Type} (T' : Tpl) (s : St B) (k : TplT B T' → Option β), f T' s k = match covered st.nx false (itemKeys T'.items) s.m with | true => pk F.a0 (s.m ++ (st.m ++ fr)) st.nx st.E false T' [] s.E s.nx k | false => none)
    (hD : pk F.a0 (st.m ++ fr) st.nx st.E false T [] st.E st.nx (fun t0 =>
        (iter (σ := TplT B T) (X := Ctl (TplT B TX) (OutT B (TplT B F.res) ret outs)) (fun t => D F c h (st.m ++ fr) (unSt T t)
          ⟨fun s => f T s fun t => some (.go t),
            fun i s => match Nat.beq i id with | true => f TX s fun t => some (.out (.go t)) | false => inE ret outs i (fun T' k => f T' s k) fun o => some (.out (.out o)),
            fun r => inR ret outs r fun o => some (.out (.out o))⟩) t0).bind fun x =>
          Ctl.on x (fun t => K.go (aft TX t st.m)) (fun o => onO ret outs o K.rt fun i T' t => K.ex i (aft T' t st.m))) = some r) : EWp P n (.block id (.loop c)) (CPost P F G L0 f0 σ0 fr K r) ρ w := by
  have hn := hs.1
  have hf := frame_cut hs
  obtain ⟨t0, hD1, ht0⟩ := pk_tells0 hx hn hf (tells_cut hs) hD
  obtain ⟨x, hD2, hD3⟩ := bind_some hD1
  obtain ⟨k, hk⟩ := N_of_iter hD2
  refine ewp_block (ewp_loop (fun k ρ w => ∃ t, iterN _ k t = some x ∧ Tells F G L0 f0 σ0 (st.m ++ fr) (unSt T t) ρ w) k ⟨t0, hk, ht0⟩ ?_)
  rintro k ρ w ⟨t, hit, ht⟩
  cases k with
  | zero => cases hit
  | succ k =>
    obtain ⟨ct, hct, hit⟩ := bind_some (show (_ : Option _).bind _ = some x from hit)
    refine (hc _ _ _ _ _ _ _ _ hct ht).mono fun e ρ w hq => ?_
    cases e with
    | normal =>
      obtain ⟨s, g1, g2⟩ := hq
      have g1 : f T s (fun t => some (Ctl.go t)) = some ct := g1
      rw [hfd] at g1
      obtain ⟨t', g3, g4⟩ := pk_tells hx hn hf g2 g1
      injection g3 with g3
      subst g3
      exact ⟨k, Nat.lt_succ_self _, t', hit, g4⟩
    | ret =>
      obtain ⟨y, g1, g2⟩ := hq
      obtain ⟨o, g3, g4⟩ := inR_spec g1
      injection g3 with g3
      subst g3
      injection hit with hit
      subst hit
      simp only [Ctl.on] at hD3
      rw [g4] at hD3
      exact ⟨y, hD3, g2⟩
    | exit i =>
      obtain ⟨s, g1, g2⟩ := hq
      show (cond (Nat.beq i id) _ _ : Prop)
      simp only at g1
      cases hb : Nat.beq i id with
      | true =>
        rw [hb] at g1
        have g1 : f TX s (fun t => some (Ctl.out (Ctl.go t))) = some ct := g1
        rw [hfd] at g1
        obtain ⟨t', g3, g4⟩ := pk_tells hx hn hf g2 g1
        injection g3 with g3
        subst g3
        injection hit with hit
        subst hit
        exact ⟨_, hD3, tells_aft g4⟩
      | false =>
        rw [hb] at g1
        obtain ⟨T', inj, g3, g4⟩ := inE_spec g1
        rw [hfd] at g3
        obtain ⟨t', g5, g6⟩ := pk_tells hx hn hf g2 g3
        injection g5 with g5
        subst g5
        injection hit with hit
        subst hit
        simp only [Ctl.on] at hD3
        rw [g4] at hD3
        exact ⟨_, hD3, tells_aft g6⟩
    | goto l => exact hq.elim
    | panic c => exact hq.elim
    | outgrown => exact hq.elim
theorem SimF.weak (hs : SimF G L0 f0 σ0 M E N f σ ρ w) (h : ∀ l, M' l = M l ∨ ∃ t, l = .s t ∧ M' l = some (.v (.one .und))) : SimF G L0 f0 σ0 M' E N f σ ρ w :=
  hs.reslot (fun l hl => (h l).elim id fun ⟨t, e, _⟩ => absurd e (hl t)) fun t => by
    rcases h (.s t) with h1 | ⟨_, _, h1⟩
    · rw [h1]; exact hs.slots t
    · rw [h1]; trivial
theorem FrameB.slot {n0 : Nat} (h : FrameB n0 E0 M) {t : Nat} {d : DV B} (hd : BndD n0 d) : FrameB n0 E0 (ovl [(.s t, .v d)] M) := by
  have hne : ∀ l, (∀ t, l ≠ .s t) → ovl [(.s t, .v d)] M l = M l := fun l hl => ovl_none (look_cons_ne (fun e => hl t e.symm) _ _)
  refine ⟨fun t' d' h1 => ?_, fun c j x h1 => h.clos c j x ?_, fun i e xs nn h1 => h.fzs i e xs nn ?_, fun i e x h1 => h.fzbs i e x ?_, fun i e xs s nn h1 => h.arrs i e xs s nn ?_, fun i e rows s k hole nn h1 => h.grds i e rows s k hole nn ?_, fun i k v m h1 => h.mps i k v m ?_, fun i k e m key pd h1 => h.mphs i k e m key pd ?_, fun i ty m h1 => h.blks i ty m ?_, fun i k h1 => ?_⟩
  · by_cases e : t = t'
    · subst e
      rw [ovl_some (look_cons_self _ _ _)] at h1
      injection h1 with h1
      injection h1 with h1
      subst h1
      exact hd
    · rw [ovl_none (look_cons_ne (by simpa using e) _ _)] at h1
      exact h.slots t' d' h1
  · rw [hne (.k c j) (by simp)] at h1; exact h1
  · rw [hne (.a i) (by simp)] at h1; exact h1
  · rw [hne (.b i) (by simp)] at h1; exact h1
  · rw [hne (.a i) (by simp)] at h1; exact h1
  · rw [hne (.a i) (by simp)] at h1; exact h1
  · rw [hne (.a i) (by simp)] at h1; exact h1
  · rw [hne (.a i) (by simp)] at h1; exact h1
  · rw [hne (.b i) (by simp)] at h1; exact h1
  · have := h.ents i k h1
    cases k with
    | arr e => obtain ⟨g1, xs, s, nn, g2⟩ := this; exact ⟨g1, xs, s, nn, by rw [hne (.a i) (by simp)]; exact g2⟩
    | grid e => obtain ⟨g1, rows, s, k, hole, nn, g2⟩ := this; exact ⟨g1, rows, s, k, hole, nn, by rw [hne (.a i) (by simp)]; exact g2⟩
    | mp kt vt => exact this
    | blk ty m =>
      obtain ⟨g1, g2, g3⟩ := this
      refine ⟨g1, by rw [hne (.b i) (by simp)]; exact g2, fun j hj => ?_⟩
      obtain ⟨c, g4, g5⟩ := g3 j hj
      exact ⟨c, by rw [hne (.c i j) (by simp)]; exact g4, g5⟩
theorem nbeq_false {a b : Nat} (h : Nat.beq a b = false) : a ≠ b := fun e => by subst e; simp at h
theorem rgParts_spec {id : Nat} {l1 l2 : List Oper} {cd : Code} {g : RgP} (h : rgParts id l1 cd l2 = some g) :
    ∃ a1 a2 a3 a4 a5 b1 b2 b3 b4 b5 c1 c2 c3, l1 = [⟨some g.tc, .binOp .lss a1 (.tmp g.ti) (.tmp g.tn) a2, a3, a4, a5, none⟩] ∧ cd = .cond (.tmp g.tc) .skip (.exit id) ∧
      l2 = [⟨some g.tp, .binOp .add b1 (.tmp g.ti) (.const (.int .i64 1)) b2, b3, b4, b5, none⟩, ⟨some g.ti, .move (.tmp g.tp), c1, c2, c3, none⟩] ∧ g.ti ≠ g.tn ∧ g.tc ≠ g.ti ∧ g.tc ≠ g.tn ∧ g.tp ≠ g.ti ∧ g.tp ≠ g.tn := by
  unfold rgParts at h
  split at h <;> try contradiction
  split at h <;> try contradiction
  rename_i hq
  injection h with h
  subst h
  simp only [Bool.and_eq_true, Bool.not_eq_true'] at hq
  obtain ⟨⟨⟨⟨⟨⟨⟨⟨⟨q1, q2⟩, q3⟩, q4⟩, q5⟩, q6⟩, q7⟩, q8⟩, q9⟩, q10⟩ := hq
  have := Nat.eq_of_beq_eq_true q1; subst this
  have := Nat.eq_of_beq_eq_true q2; subst this
  have := Nat.eq_of_beq_eq_true q3; subst this
  have := Nat.eq_of_beq_eq_true q4; subst this
  have := Nat.eq_of_beq_eq_true q5; subst this
  exact ⟨_, _, _, _, _, _, _, _, _, _, _, _, _, rfl, rfl, rfl, nbeq_false q6, nbeq_false q7, nbeq_false q8, nbeq_false q9, nbeq_false q10⟩
def rgSl (B : Tab) (g : RgP) (c i : Cel B) : Mem B := [(.s g.tc, .v (.one c)), (.s g.ti, .v (.one i)), (.s g.tp, .v (.one .und))]
theorem rgSl_free {g : RgP} {T : Tpl} (h : rgFree g (itemKeys T.items) = true) (t : TplT B T) : look (unM T t) (.s g.ti) = none ∧ look (unM T t) (.s g.tn) = none ∧ look (unM T t) (.s g.tc) = none ∧ look (unM T t) (.s g.tp) = none := by
  unfold rgFree at h
  simp only [Bool.and_eq_true, Bool.not_eq_true'] at h
  have key : ∀ l, memL (itemKeys T.items) l = false → look (unM T t) l = none := fun l hl => by
    cases hq : look (unM T t) l with
    | none => rfl
    | some c => rw [memL_iff.2 (unItems_fit (look_mem hq)).1] at hl; cases hl
  exact ⟨key _ h.1.1.1, key _ h.1.1.2, key _ h.1.2, key _ h.2⟩
theorem rgSl_other {g : RgP} {c i : Cel B} {l : Loc} (h1 : l ≠ .s g.tc) (h2 : l ≠ .s g.ti) (h3 : l ≠ .s g.tp) : ovl (rgSl B g c i) M l = M l := by
  refine ovl_none ?_
  unfold rgSl
  rw [look_cons_ne (Ne.symm h1), look_cons_ne (Ne.symm h2), look_cons_ne (Ne.symm h3)]
  rfl
theorem rgSl_tc {g : RgP} {c i : Cel B} : ovl (rgSl B g c i) M (.s g.tc) = some (.v (.one c)) := ovl_some (look_cons_self _ _ _)
theorem rgSl_ti {g : RgP} {c i : Cel B} (h : g.tc ≠ g.ti) : ovl (rgSl B g c i) M (.s g.ti) = some (.v (.one i)) := by
  refine ovl_some ?_
  unfold rgSl
  rw [look_cons_ne (by simpa using h), look_cons_self]
theorem ev_one {a1 a2 a3 a4 a5} {tc ti tn : Nat} {i v : Int} (hi : ρ ti = .int .i64 i) (hv : ρ tn = .int .i64 v) :
    (execOp (ev ρ) ⟨some tc, .binOp .lss a1 (.tmp ti) (.tmp tn) a2, a3, a4, a5, none⟩).run P w = .ok (.value (.bool (decide (i < v)))) w := by
  refine run_pev ?_
  simp only [pev, ev, hi, hv, if_true, ibin]
theorem ev_two {b1 b2 b3 b4 b5} {tp ti : Nat} {i : Int} (hi : ρ ti = .int .i64 i) :
    (execOp (ev ρ) ⟨some tp, .binOp .add b1 (.tmp ti) (.const (.int .i64 1)) b2, b3, b4, b5, none⟩).run P w = .ok (.value (.int .i64 (IntKind.i64.wrap (i + 1)))) w := by
  refine run_pev ?_
  simp only [pev, ev, hi, if_true, ibin]
theorem ev_mv {c1 c2 c3} {ti tp : Nat} : (execOp (ev ρ) ⟨some ti, .move (.tmp tp), c1, c2, c3, none⟩).run P w = .ok (.value (ρ tp)) w := run_pev rfl
def RgI (F : Fn B) (G : World) (L0 : List HProp) (f0 : HP) (σ0 : Rz B) (g : RgP) (T : Tpl) (Mb : Loc → Option (Con B)) (c : Cel B) (i : Nat) (t : TplT B T) (ρ : Env) (w : World) : Prop :=
  F.n0 ≤ T.nx + T.items.length ∧ ∃ f σ, SimF G L0 f0 σ0 (ovl (unM T t) (ovl (rgSl B g c (.int .i64 (i : Int))) Mb)) T.ents (fun j => j < T.nx + T.items.length) f σ ρ w
theorem sound_rg (hx : Ctx P F σ0) {id i1 i2 : Nat} {r1 r2 : Array Oper} {cd body : Code} (hb : Sound P n F G L0 f0 σ0 body) (hl1 : lowOps n r1.toList = true) (hl2 : lowOps n r2.toList = true) {h : Hint} {T : Tpl} {ret : Bool} {g : RgP}
    (hg : rgParts id r1.toList cd r2.toList = some g) (hfree : rgFree g (itemKeys T.items) = true) {m : Nat} {c : Cel B} {v : Int} (hti : lkS F.a0 fr st.m (.s g.ti) = some (.v (.one (.int .i64 0)))) (htn : lkS F.a0 fr st.m (.s g.tn) = some (.v (.one c)))
    (hcv : ∀ (f : HP) (σ : Rz B) (u : Value), CRel f σ c u → u = .int .i64 v) (hv : ∀ i : Nat, (i : Int) < v ↔ i < m) (hm : m ≤ 9223372036854775807) (hs : Tells F G L0 f0 σ0 fr st ρ w)
    {rfr : Nat → Mem B} (hrfr : ∀ i, rfr i = (.s g.tc, .v (.one (.bool true))) :: (.s g.ti, .v (.one (.int .i64 (i : Int)))) :: (.s g.tp, .v (.one .und)) :: (st.m ++ fr))
    {f : {β : Type} → (i : Nat) → (s : St B) → (k : TplT B T → Option β) → Option β}
    (hfd : ∀ {β : Type} (i : Nat) (s : St B) (k : TplT B T → Option β), f i s k = match covered st.nx false (itemKeys T.items) s.m with | true => pk F.a0 (s.m ++ rfr i) st.nx st.E false T [] s.E s.nx k | false => none)
    (hD : pk F.a0 ((.s g.tc, .v (.one .und)) :: (.s g.ti, .v (.one .und)) :: (.s g.tp, .v (.one .und)) :: (st.m ++ fr)) st.nx st.E false T [] st.E st.nx (fun t0 =>
          (forC (α := Nat) (σ := TplT B T) (X := OutT B (TplT B F.res) ret []) (fun i _ t => D F body h (rfr i) (unSt T t)
            ⟨fun s => f i s fun t => some (.go t), fun j s => match Nat.beq j id with | true => f i s fun t => some (.out (.go t)) | false => none,
              fun r => inR ret [] r fun o => some (.out (.out o))⟩) (List.range m) t0).bind fun x =>
            Ctl.on x (fun t => K.go (aft T t ((.s g.tc, .v (.one .und)) :: (.s g.ti, .v (.one .und)) :: (.s g.tp, .v (.one .und)) :: st.m))) (fun o => onO ret [] o K.rt fun _ _ _ => none)) = some r) :
    EWp P n (.block id (.loop (.seq (.region i1 r1 false) (.seq cd (.seq body (.region i2 r2 false)))))) (CPost P F G L0 f0 σ0 fr K r) ρ w := by
  obtain ⟨a1, a2, a3, a4, a5, b1, b2, b3, b4, b5, c1, c2, c3, e1, e2, e3, n1, n2, n3, n4, n5⟩ := rgParts_spec hg
  have hr1 : r1 = r1.toList.toArray := by simp
  have hr2 : r2 = r2.toList.toArray := by simp
  rw [e1] at hr1 hl1
  rw [e3] at hr2 hl2
  subst hr1 hr2 e2
  have d1 := lowOps_spec hl1
  have d2 := lowOps_spec hl2
  have ltc : g.tc < n := d1 _ (List.mem_cons_self ..) _ rfl
  have ltp : g.tp < n := d2 _ (List.mem_cons_self ..) _ rfl
  have lti : g.ti < n := d2 _ (List.mem_cons_of_mem _ (List.mem_cons_self ..)) _ rfl
  clear hg hl1 hl2 d1 d2 e1 e3
  have hn := hs.1
  have hf0 := frame_cut hs
  generalize hMb : lkS F.a0 (st.m ++ fr) [] = Mb at hf0
  have hMb' : lkS F.a0 fr st.m = Mb := by rw [← hMb, lkS_nil]
  rw [hMb'] at hti htn
  have lk3 : ∀ (c i : Cel B) (m' : Mem B), lkS F.a0 ((.s g.tc, .v (.one c)) :: (.s g.ti, .v (.one i)) :: (.s g.tp, .v (.one .und)) :: (st.m ++ fr)) m' = ovl m' (ovl (rgSl B g c i) Mb) := fun c i m' => by
    rw [lkS_ovl, ← hMb, lkS_ovl, ovl_nil, show ((Loc.s g.tc, Con.v (DV.one c)) :: (Loc.s g.ti, Con.v (DV.one i)) :: (Loc.s g.tp, Con.v (DV.one .und)) :: (st.m ++ fr)) = rgSl B g c i ++ (st.m ++ fr) from rfl, ovl_app (rgSl B g c i)]
  have hfr : ∀ (c i : Cel B), BndC st.nx c → BndC st.nx i → FrameB st.nx st.E (ovl (rgSl B g c i) Mb) := fun c i hc hi => by
    have : ovl (rgSl B g c i) Mb = ovl [(.s g.tc, .v (.one c))] (ovl [(.s g.ti, .v (.one i))] (ovl [(.s g.tp, .v (.one .und))] Mb)) := by
      rw [← ovl_app, ← ovl_app]; rfl
    rw [this]
    exact FrameB.slot (d := .one c) (FrameB.slot (d := .one i) (FrameB.slot (d := .one .und) hf0 trivial) hi) hc
  have rti : ρ g.ti = .int .i64 0 := by
    obtain ⟨_, f, σ, hs⟩ := hs
    have := hs.slots g.ti
    rw [hMb', hti] at this
    exact this
  have hs0 : Tells F G L0 f0 σ0 ((.s g.tc, .v (.one .und)) :: (.s g.ti, .v (.one .und)) :: (.s g.tp, .v (.one .und)) :: (st.m ++ fr)) ⟨[], st.E, st.nx⟩ ρ w := by
    obtain ⟨h1, f, σ, hs⟩ := hs
    refine ⟨h1, f, σ, ?_⟩
    show SimF G L0 f0 σ0 (lkS F.a0 _ []) st.E _ f σ ρ w
    rw [lk3, ovl_nil]
    rw [hMb'] at hs
    refine hs.weak fun l => ?_
    by_cases q1 : l = .s g.tc
    · subst q1; exact .inr ⟨_, rfl, rgSl_tc⟩
    · by_cases q2 : l = .s g.ti
      · subst q2; exact .inr ⟨_, rfl, rgSl_ti n2⟩
      · by_cases q3 : l = .s g.tp
        · subst q3
          refine .inr ⟨_, rfl, ovl_some ?_⟩
          unfold rgSl
          rw [look_cons_ne (Ne.symm q1), look_cons_ne (Ne.symm q2), look_cons_self]
        · exact .inl (rgSl_other q1 q2 q3)
  obtain ⟨t0, hD1, ht0⟩ := pk_tells0 hx hn (by rw [lk3, ovl_nil]; exact hfr .und .und trivial trivial) hs0 hD
  obtain ⟨x, hD2, hD3⟩ := bind_some hD1
  unfold forC at hD2
  rw [Option.map_eq_some_iff] at hD2
  obtain ⟨fin, hfin, hflat⟩ := hD2
  have hI0 : RgI F G L0 f0 σ0 g T Mb .und 0 t0 ρ w := by
    obtain ⟨h1, f, σ, hs⟩ := ht0
    refine ⟨h1, f, σ, ?_⟩
    have hs : SimF G L0 f0 σ0 (lkS F.a0 _ (unM T t0)) T.ents (fun i => i < T.nx + T.items.length) f σ ρ w := hs
    rw [lk3] at hs
    have h2 := hs.put (d := g.ti) (x := .one (.int .i64 ((0 : Nat) : Int))) (v := .int .i64 0) rfl
    rw [upd_self rti] at h2
    obtain ⟨u1, u2, u3, u4⟩ := rgSl_free hfree t0
    refine h2.weak fun l => .inl ?_
    by_cases q2 : l = .s g.ti
    · subst q2
      rw [ovl_none u1, rgSl_ti n2, ovl_some (look_cons_self _ _ _)]
    · rw [ovl_none (m := [(Loc.s g.ti, _)]) (look_cons_ne (Ne.symm q2) _ _)]
      unfold ovl
      cases look (unM T t0) l with
      | some c => rfl
      | none =>
        simp only
        by_cases q1 : l = .s g.tc
        · subst q1; rw [show look (rgSl B g .und (.int .i64 ((0:Nat):Int))) (.s g.tc) = some (.v (.one .und)) from look_cons_self _ _ _, show look (rgSl B g .und .und) (.s g.tc) = some (.v (.one .und)) from look_cons_self _ _ _]
        · unfold rgSl
          rw [look_cons_ne (Ne.symm q1), look_cons_ne (Ne.symm q2), look_cons_ne (Ne.symm q1), look_cons_ne (Ne.symm q2)]
  have vals : ∀ {i : Nat} {t : TplT B T} {ρ : Env} {w : World} {c' : Cel B}, RgI F G L0 f0 σ0 g T Mb c' i t ρ w → ρ g.ti = .int .i64 (i : Int) ∧ ρ g.tn = .int .i64 v := by
    intro i t ρ w c' hI
    obtain ⟨_, f, σ, hs⟩ := hI
    obtain ⟨u1, u2, u3, u4⟩ := rgSl_free hfree t
    have h1 := hs.slots g.ti
    have h2 := hs.slots g.tn
    rw [ovl_none u1, rgSl_ti n2] at h1
    rw [ovl_none u2, rgSl_other (by simpa using Ne.symm n3) (by simpa using Ne.symm n1) (by simpa using Ne.symm n5), htn] at h2
    exact ⟨h1, hcv _ _ _ h2⟩
  have setc : ∀ {i : Nat} {t : TplT B T} {ρ : Env} {w : World} {c' c'' : Cel B} {u : Value}, RgI F G L0 f0 σ0 g T Mb c' i t ρ w → (∀ f σ, CRel f σ c'' u) → RgI F G L0 f0 σ0 g T Mb c'' i t (upd ρ g.tc u) w := by
    intro i t ρ w c' c'' u hI hu
    obtain ⟨h1, f, σ, hs⟩ := hI
    refine ⟨h1, f, σ, ?_⟩
    have h2 := hs.put (d := g.tc) (x := .one c'') (v := u) (hu f σ)
    obtain ⟨u1, u2, u3, u4⟩ := rgSl_free hfree t
    refine h2.weak fun l => .inl ?_
    by_cases q1 : l = .s g.tc
    · subst q1
      rw [ovl_none u3, rgSl_tc, ovl_some (look_cons_self _ _ _)]
    · rw [ovl_none (m := [(Loc.s g.tc, _)]) (look_cons_ne (Ne.symm q1) _ _)]
      unfold ovl
      cases look (unM T t) l with
      | some c => rfl
      | none =>
        simp only
        unfold rgSl
        rw [look_cons_ne (Ne.symm q1), look_cons_ne (Ne.symm q1)]
  have next : ∀ {i : Nat} {t : TplT B T} {ρ : Env} {w : World} {c' : Cel B} {u : Value}, RgI F G L0 f0 σ0 g T Mb c' i t ρ w → RgI F G L0 f0 σ0 g T Mb .und (i + 1) t (upd (upd ρ g.tp u) g.ti (.int .i64 ((i + 1 : Nat) : Int))) w := by
    intro i t ρ w c' u hI
    obtain ⟨h1, f, σ, hs⟩ := hI
    refine ⟨h1, f, σ, ?_⟩
    have h2 := (hs.put (d := g.tp) (x := .one .und) (v := u) trivial).put (d := g.ti) (x := .one (.int .i64 ((i + 1 : Nat) : Int))) (v := .int .i64 ((i + 1 : Nat) : Int)) rfl
    obtain ⟨u1, u2, u3, u4⟩ := rgSl_free hfree t
    refine h2.weak fun l => ?_
    by_cases q1 : l = .s g.tc
    · subst q1
      exact .inr ⟨_, rfl, by rw [ovl_none u3, rgSl_tc]⟩
    · left
      by_cases q2 : l = .s g.ti
      · subst q2
        rw [ovl_none u1, rgSl_ti n2, ovl_some (look_cons_self _ _ _)]
      · rw [ovl_none (m := [(Loc.s g.ti, _)]) (look_cons_ne (Ne.symm q2) _ _)]
        by_cases q3 : l = .s g.tp
        · subst q3
          rw [ovl_none u4, ovl_some (look_cons_self _ _ _)]
          refine ovl_some ?_
          unfold rgSl
          rw [look_cons_ne (Ne.symm q1), look_cons_ne (Ne.symm q2), look_cons_self]
        · rw [ovl_none (m := [(Loc.s g.tp, _)]) (look_cons_ne (Ne.symm q3) _ _)]
          unfold ovl
          cases look (unM T t) l with
          | some c => rfl
          | none =>
            simp only
            unfold rgSl
            rw [look_cons_ne (Ne.symm q1), look_cons_ne (Ne.symm q2), look_cons_ne (Ne.symm q3), look_cons_ne (Ne.symm q1), look_cons_ne (Ne.symm q2), look_cons_ne (Ne.symm q3)]
  have after : ∀ {c' i' : Cel B} {t : TplT B T} {ρ : Env} {w : World} {f : HP} {σ : Rz B}, F.n0 ≤ T.nx + T.items.length → SimF G L0 f0 σ0 (ovl (unM T t) (ovl (rgSl B g c' i') Mb)) T.ents (fun j => j < T.nx + T.items.length) f σ ρ w →
      Tells F G L0 f0 σ0 fr (aft T t ((.s g.tc, .v (.one .und)) :: (.s g.ti, .v (.one .und)) :: (.s g.tp, .v (.one .und)) :: st.m)) ρ w := by
    intro c' i' t ρ w f σ h1 hs
    refine ⟨h1, f, σ, ?_⟩
    show SimF G L0 f0 σ0 (lkS F.a0 fr (unM T t ++ (rgSl B g .und .und ++ st.m))) T.ents _ f σ ρ w
    rw [lkS_up, lkS_up, hMb']
    obtain ⟨u1, u2, u3, u4⟩ := rgSl_free hfree t
    refine hs.weak fun l => ?_
    by_cases q1 : l = .s g.tc
    · subst q1; exact .inr ⟨_, rfl, by rw [ovl_none u3, rgSl_tc]⟩
    · by_cases q2 : l = .s g.ti
      · subst q2; exact .inr ⟨_, rfl, by rw [ovl_none u1, rgSl_ti n2]⟩
      · left
        unfold ovl
        cases look (unM T t) l with
        | some c => rfl
        | none =>
          simp only
          unfold rgSl
          rw [look_cons_ne (Ne.symm q1), look_cons_ne (Ne.symm q2), look_cons_ne (Ne.symm q1), look_cons_ne (Ne.symm q2)]
  have head : ∀ {Q : EPost} {rest : Code} {i : Nat} {t : TplT B T} {ρ : Env} {w : World}, RgI F G L0 f0 σ0 g T Mb .und i t ρ w →
      (∀ ρ w, i < m → RgI F G L0 f0 σ0 g T Mb (.bool true) i t ρ w → EWp P n rest Q ρ w) → (∀ ρ w, ¬ i < m → RgI F G L0 f0 σ0 g T Mb (.bool false) i t ρ w → Q (.exit id) ρ w) →
      EWp P n (.seq (.region i1 [⟨some g.tc, .binOp .lss a1 (.tmp g.ti) (.tmp g.tn) a2, a3, a4, a5, none⟩].toArray false) (.seq (.cond (.tmp g.tc) .skip (.exit id)) rest)) Q ρ w := by
    intro Q rest i t ρ w hI h1 h2
    obtain ⟨v1, v2⟩ := vals hI
    refine ewp_seq (ewp_region (el_val rfl rfl (by rw [Nat.blt_eq]; exact ltc) (ev_one v1 v2) (el_nil ?_)))
    have hI' := setc (c'' := .bool (decide ((i : Int) < v))) hI (fun f σ => rfl)
    show EWp P n _ Q _ w
    refine ewp_seq (ewp_cond (decide ((i : Int) < v)) (by show upd ρ g.tc _ g.tc = _; simp [upd]) (fun ht => ?_) (fun hf => ?_))
    · have : i < m := (hv i).1 (of_decide_eq_true ht)
      rw [ht] at hI'
      refine ewp_skip ?_
      rw [ht]
      exact h1 _ _ this hI'
    · have : ¬ i < m := fun hlt => of_decide_eq_false hf ((hv i).2 hlt)
      rw [hf] at hI'
      refine ewp_exit ?_
      rw [hf]
      exact h2 _ _ this hI'
  refine ewp_block (ewp_forO (fun i t ρ w => RgI F G L0 f0 σ0 g T Mb .und i t ρ w) hfin hI0 ?_ ?_)
  · intro i j t ct ρ w hij hct hI
    have hi : i < m := by
      have := (List.getElem?_eq_some_iff.1 hij).1
      simpa using this
    refine head hI (fun ρ w _ hI => ?_) (fun ρ w hni _ => absurd hi hni)
    have hT : Tells F G L0 f0 σ0 (rfr i) (unSt T t) ρ w := by
      obtain ⟨h1, f, σ, hs⟩ := hI
      refine ⟨h1, f, σ, ?_⟩
      show SimF G L0 f0 σ0 (lkS F.a0 (rfr i) (unM T t)) T.ents _ f σ ρ w
      rw [hrfr, lk3]
      exact hs
    have hfi : FrameB st.nx st.E (lkS F.a0 (rfr i) []) := by rw [hrfr, lk3, ovl_nil]; exact hfr _ _ trivial trivial
    refine ewp_seq ((hb _ _ _ _ _ _ _ _ hct hT).mono fun e ρ w hq => ?_)
    cases e with
    | normal =>
      obtain ⟨s, g1, g2⟩ := hq
      have g1 : f i s (fun t => some (Ctl.go t)) = some ct := g1
      rw [hfd] at g1
      obtain ⟨t', g3, g4⟩ := pk_tells hx hn hfi g2 g1
      injection g3 with g3
      subst g3
      have hJ : RgI F G L0 f0 σ0 g T Mb (.bool true) i t' ρ w := by
        obtain ⟨h1, f, σ, hs⟩ := g4
        refine ⟨h1, f, σ, ?_⟩
        have hs : SimF G L0 f0 σ0 (lkS F.a0 (rfr i) (unM T t')) T.ents (fun j => j < T.nx + T.items.length) f σ ρ w := hs
        rw [hrfr, lk3] at hs
        exact hs
      obtain ⟨v1, v2⟩ := vals hJ
      have hw : IntKind.i64.wrap ((i : Int) + 1) = ((i + 1 : Nat) : Int) := by
        have := w64_eq (x := (i : Int) + 1) (by omega) (by omega)
        unfold w64 at this
        rw [this]
        omega
      have e2 := ev_two (P := P) (w := w) (b1 := b1) (b2 := b2) (b3 := b3) (b4 := b4) (b5 := b5) (tp := g.tp) v1
      rw [hw] at e2
      refine ewp_region (el_val rfl rfl (by rw [Nat.blt_eq]; exact ltp) e2 (el_val rfl rfl (by rw [Nat.blt_eq]; exact lti) ev_mv (el_nil ?_)))
      have hup : upd ρ g.tp (.int .i64 ((i + 1 : Nat) : Int)) g.tp = .int .i64 ((i + 1 : Nat) : Int) := by simp [upd]
      rw [hup]
      exact ⟨t', rfl, next hJ⟩
    | ret =>
      obtain ⟨y, g1, g2⟩ := hq
      obtain ⟨o, g3, g4⟩ := inR_spec g1
      injection g3 with g3
      subst g3
      refine ⟨_, rfl, fun hfo => ?_⟩
      subst hfo
      simp only [Ctl.flat] at hflat
      subst hflat
      simp only [Ctl.on] at hD3
      rw [g4] at hD3
      exact ⟨y, hD3, g2⟩
    | exit j =>
      obtain ⟨s, g1, g2⟩ := hq
      simp only at g1
      cases hbj : Nat.beq j id with
      | false => rw [hbj] at g1; cases g1
      | true =>
        rw [hbj] at g1
        have g1 : f i s (fun t => some (Ctl.out (Ctl.go t))) = some ct := g1
        rw [hfd] at g1
        obtain ⟨t', g3, g4⟩ := pk_tells hx hn hfi g2 g1
        injection g3 with g3
        subst g3
        refine ⟨_, rfl, fun hfo => ?_⟩
        subst hfo
        simp only [Ctl.flat] at hflat
        subst hflat
        show (cond (Nat.beq j id) _ _ : Prop)
        rw [hbj]
        obtain ⟨h1, f, σ, hs⟩ := g4
        have hs : SimF G L0 f0 σ0 (lkS F.a0 (rfr i) (unM T t')) T.ents (fun j => j < T.nx + T.items.length) f σ ρ w := hs
        rw [hrfr, lk3] at hs
        exact ⟨_, hD3, after h1 hs⟩
    | goto l => exact hq.elim
    | panic c => exact hq.elim
    | outgrown => exact hq.elim
  · intro t ρ w hfo hI
    rw [List.length_range] at hI
    subst hfo
    simp only [Ctl.flat] at hflat
    subst hflat
    refine head hI (fun ρ w hlt _ => absurd hlt (Nat.lt_irrefl _)) (fun ρ w _ hI => ?_)
    show (cond (Nat.beq id id) _ _ : Prop)
    rw [show Nat.beq id id = true by simp]
    obtain ⟨h1, f, σ, hs⟩ := hI
    exact ⟨_, hD3, after h1 hs⟩
end
end Hd
set_option linter.unusedVariables false
set_option linter.unusedSimpArgs false
namespace Hd
open Go Hk
section
variable {B : Tab} {P : Program} {n : Nat} {F : Fn B} {G : World} {L0 : List HProp} {f0 : HP} {σ0 : Rz B}
theorem zeroI_eq {z : Int} (h : zeroI z = true) : z = 0 := by
  unfold zeroI at h
  split at h
  · rfl
  · cases h
theorem andC {a b : Bool} (h : (match a with | true => b | false => false) = true) : a = true ∧ b = true := by
  cases a
  · cases h
  · exact ⟨rfl, h⟩
theorem d_sound (hx : Ctx P F σ0) : ∀ (c : Code), lowC n c = true → Sound P n F G L0 f0 σ0 c
  | .skip, _ => sound_skip
  | .exit id, _ => sound_exit
  | .ret, _ => sound_ret hx
  | .region id ops draw, hl => sound_region hx hl
  | .cond c x y, hl => by
    obtain ⟨ha, hl⟩ := andC (show (match lowC n x with | true => lowC n y | false => false) = true from hl)
    exact sound_cond (d_sound hx x ha) (d_sound hx y hl)
  | .seq a b, hl => by
    obtain ⟨ha, hl⟩ := andC (show (match lowC n a with | true => lowC n b | false => false) = true from hl)
    exact sound_seq hx (d_sound hx a ha) (d_sound hx b hl)
  | .block id c, hl => by
    intro h fr α st K r ρ w hD hs
    generalize hc : Code.block id c = c0 at hD
    rw [D.eq_def] at hD
    split at hD
    all_goals try (cases hc; done)
    · rename_i id0 i1 r1 d1 cd body i2 r2 d2 T ret h'
      injection hc with e1 e2
      subst e1 e2
      obtain ⟨l1, hl⟩ := andC (show (match lowOps n r1.toList with | true => (match lowC n cd with | true => (match lowC n body with | true => lowOps n r2.toList | false => false) | false => false) | false => false) = true from hl)
      obtain ⟨_, hl⟩ := andC hl
      obtain ⟨lb, l2⟩ := andC hl
      split at hD <;> try contradiction
      rename_i g hd hg
      have hd1 : d1 = false := by cases d1 <;> simp at hd ⊢
      have hd2 : d2 = false := by cases d2 <;> simp at hd ⊢
      subst hd1 hd2
      split at hD <;> try contradiction
      rename_i hfree
      dsimp only at hD
      split at hD <;> try contradiction
      · rename_i z m hti htn
        split at hD <;> try contradiction
        rename_i hz
        have := zeroI_eq hz
        subst this
        have hm : m ≤ 9223372036854775807 := by
          obtain ⟨_, f, σ, hs⟩ := hs
          have := hs.slots g.tn
          rw [htn] at this
          have h2 := this.2
          simp only [maxLen] at h2
          omega
        exact sound_rg hx (d_sound hx body lb) l1 l2 hg hfree hti htn (fun f σ u h => h.1) (fun i => Int.ofNat_lt) hm hs (rfr := fun i => (.s g.tc, .v (.one (.bool true))) :: (.s g.ti, .v (.one (.int .i64 (i : Int)))) :: (.s g.tp, .v (.one .und)) :: (st.m ++ fr)) (fun i => rfl)
          (f := fun i s k => match covered st.nx false (itemKeys T.items) s.m with | true => pk F.a0 (s.m ++ ((.s g.tc, .v (.one (.bool true))) :: (.s g.ti, .v (.one (.int .i64 (i : Int)))) :: (.s g.tp, .v (.one .und)) :: (st.m ++ fr))) st.nx st.E false T [] s.E s.nx k | false => none) (fun i s k => rfl) hD
      · rename_i z m hti htn
        split at hD <;> try contradiction
        rename_i hz
        have := zeroI_eq hz
        subst this
        obtain ⟨u, hu, hD⟩ := bind_some hD
        have hm := glim_spec hu
        exact sound_rg hx (d_sound hx body lb) l1 l2 hg hfree hti htn (fun f σ u h => h) (fun i => by omega) (by omega) hs (rfr := fun i => (.s g.tc, .v (.one (.bool true))) :: (.s g.ti, .v (.one (.int .i64 (i : Int)))) :: (.s g.tp, .v (.one .und)) :: (st.m ++ fr)) (fun i => rfl)
          (f := fun i s k => match covered st.nx false (itemKeys T.items) s.m with | true => pk F.a0 (s.m ++ ((.s g.tc, .v (.one (.bool true))) :: (.s g.ti, .v (.one (.int .i64 (i : Int)))) :: (.s g.tp, .v (.one .und)) :: (st.m ++ fr))) st.nx st.E false T [] s.E s.nx k | false => none) (fun i s k => rfl) hD
    · injection hc with e1 e2
      subst e1 e2
      split at hD <;> try contradiction
      · exact sound_un (d_sound hx _ hl) hs hD
      rename_i T TX ret outs h' _
      exact sound_lp hx (d_sound hx _ hl) hs (f := fun T' s k => match covered st.nx false (itemKeys T'.items) s.m with | true => pk F.a0 (s.m ++ (st.m ++ fr)) st.nx st.E false T' [] s.E s.nx k | false => none) (fun T' s k => rfl) hD
    · injection hc with e1 e2
      subst e1 e2
      exact sound_block (d_sound hx _ hl) hs hD
    · contradiction
  | .loop c, _ => fun h fr α st K r ρ w hD hs => by cases hD
  | .rangeFunc .., _ => fun h fr α st K r ρ w hD hs => by cases hD
  | .scope .., _ => fun h fr α st K r ρ w hD hs => by cases hD
  | .label .., _ => fun h fr α st K r ρ w hD hs => by cases hD
  | .goto .., _ => fun h fr α st K r ρ w hD hs => by cases hD
  | .refuse .., _ => fun h fr α st K r ρ w hD hs => by cases hD
termination_by c => sizeOf c
theorem lowOps_mono {n' : Nat} (hn : n ≤ n') : ∀ {l : List Oper}, lowOps n l = true → lowOps n' l = true
  | [], _ => rfl
  | o :: l, h => by
    unfold lowOps at h ⊢
    cases hd : o.dst with
    | none => rw [hd] at h; exact lowOps_mono hn h
    | some d =>
      rw [hd] at h
      obtain ⟨h1, h2⟩ := andC (show (match Nat.blt d n with | true => lowOps n l | false => false) = true from h)
      have h3 : Nat.blt d n' = true := by rw [Nat.blt_eq] at h1 ⊢; exact Nat.lt_of_lt_of_le h1 hn
      simp only [h3]
      exact lowOps_mono hn h2
theorem lowC_mono {n' : Nat} (hn : n ≤ n') : ∀ {c : Code}, lowC n c = true → lowC n' c = true
  | .region id ops draw, h => lowOps_mono hn h
  | .seq a b, h => by
    obtain ⟨h1, h2⟩ := andC (show (match lowC n a with | true => lowC n b | false => false) = true from h)
    show (match lowC n' a with | true => lowC n' b | false => false) = true
    rw [lowC_mono hn h1]
    exact lowC_mono hn h2
  | .cond c a b, h => by
    obtain ⟨h1, h2⟩ := andC (show (match lowC n a with | true => lowC n b | false => false) = true from h)
    show (match lowC n' a with | true => lowC n' b | false => false) = true
    rw [lowC_mono hn h1]
    exact lowC_mono hn h2
  | .block id c, h => lowC_mono (c := c) hn h
  | .loop c, h => lowC_mono (c := c) hn h
  | .skip, _ => rfl
  | .exit id, _ => rfl
  | .ret, _ => rfl
  | .rangeFunc .., _ => rfl
  | .scope .., _ => rfl
  | .label .., _ => rfl
  | .goto .., _ => rfl
  | .refuse .., _ => rfl
def resB : List ResultVar → List Nat → Bool
  | [], [] => true
  | .tmp t :: l, u :: r => match Nat.beq t u && Nat.blt u bigT with | true => resB l r | false => false
  | .cell a t :: l, u :: r => match Nat.beq (u / bigT) t && Nat.beq (u % bigT) a && Nat.ble bigT u with | true => resB l r | false => false
  | _, _ => false
def resV1 (tmps : Array Value) : ResultVar → Sem Value
  | .tmp t => pure (tmps.getD t undef)
  | .cell a t => do loadVar t (← asAddr (tmps.getD a undef))
theorem resB_spec {ρ ρ' : Env} {w : World} {tmps : Array Value} (ht : ∀ t, tmps.getD t undef = ρ t) : ∀ {l : List ResultVar} {ts : List Nat}, resB l ts = true → RetEnv P ts ρ ρ' w →
    l.length = ts.length ∧ ∀ (i : Nat) r u, l[i]? = some r → ts[i]? = some u → (resV1 tmps r).run P w = .ok (ρ' u) w
  | [], [], _, _ => ⟨rfl, fun i r u h => by simp at h⟩
  | .tmp t :: l, u :: r, h, hr => by
    obtain ⟨h1, h2⟩ := andC (show (match Nat.beq t u && Nat.blt u bigT with | true => resB l r | false => false) = true from h)
    simp only [Bool.and_eq_true, Nat.blt_eq] at h1
    obtain ⟨e1, h1⟩ := h1
    have e1 := Nat.eq_of_beq_eq_true e1
    subst e1
    obtain ⟨k1, k2⟩ := resB_spec ht h2 ⟨hr.1, fun u hu => hr.2 u (by simp [hu])⟩
    refine ⟨by simp [k1], fun i r u h3 h4 => ?_⟩
    cases i with
    | zero =>
      simp at h3 h4
      subst h3 h4
      show (pure (tmps.getD t undef) : Sem Value).run P w = _
      rw [hr.1 t h1, ht]
      rfl
    | succ i => exact k2 i r u (by simpa using h3) (by simpa using h4)
  | .cell a t :: l, u :: r, h, hr => by
    obtain ⟨h1, h2⟩ := andC (show (match Nat.beq (u / bigT) t && Nat.beq (u % bigT) a && Nat.ble bigT u with | true => resB l r | false => false) = true from h)
    simp only [Bool.and_eq_true] at h1
    obtain ⟨⟨e1, e2⟩, e3⟩ := h1
    have e1 := Nat.eq_of_beq_eq_true e1
    have e2 := Nat.eq_of_beq_eq_true e2
    have e3 := Nat.le_of_ble_eq_true e3
    subst e1 e2
    obtain ⟨k1, k2⟩ := resB_spec ht h2 ⟨hr.1, fun u hu => hr.2 u (by simp [hu])⟩
    refine ⟨by simp [k1], fun i r u h3 h4 => ?_⟩
    cases i with
    | zero =>
      simp at h3 h4
      subst h3 h4
      obtain ⟨ad, g1, g2⟩ := hr.2 _ (by simp) e3
      show (do loadVar _ (← asAddr (tmps.getD _ undef)) : Sem Value).run P w = _
      rw [ht, g1]
      exact g2
    | succ i => exact k2 i r u (by simpa using h3) (by simpa using h4)
  | [], _ :: _, h, _ => by cases h
  | .tmp _ :: _, [], h, _ => by cases h
  | .cell _ _ :: _, [], h, _ => by cases h
theorem results_eq (fn : Func) (tmps : Array Value) : results fn tmps = (do let vs ← fn.results.mapM (resV1 tmps); pure (if h : vs.size = 1 then vs[0] else .tuple vs)) := by
  unfold results
  congr 1
theorem resIs {fn : Func} {ts : List Nat} {ρ ρ' : Env} {w : World} (h : resB fn.results.toList ts = true) (hl : ts.length ≤ 5) (hr : RetEnv P ts ρ ρ' w) : ResIs P fn ρ w (RtV ρ' ts) := fun tmps ht => by
  obtain ⟨k1, k2⟩ := resB_spec ht h hr
  rw [results_eq]
  have h' : fn.results = fn.results.toList.toArray := by simp
  rw [h']
  generalize fn.results.toList = l at k1 k2
  match l, ts, k1, hl with
  | [], [], _, _ => simp [RtV, go_sem]
  | [a], [t], _, _ =>
    have q0 := k2 0 a t rfl rfl
    simp [RtV, q0, go_sem]
  | [a, b], [t, u], _, _ =>
    have q0 := k2 0 a t rfl rfl
    have q1 := k2 1 b u rfl rfl
    simp [RtV, q0, q1, go_sem]
  | [a, b, c], [t, u, v], _, _ =>
    have q0 := k2 0 a t rfl rfl
    have q1 := k2 1 b u rfl rfl
    have q2 := k2 2 c v rfl rfl
    simp [RtV, q0, q1, q2, go_sem]
  | [a, b, c, d], [t, u, v, x], _, _ =>
    have q0 := k2 0 a t rfl rfl
    have q1 := k2 1 b u rfl rfl
    have q2 := k2 2 c v rfl rfl
    have q3 := k2 3 d x rfl rfl
    simp [RtV, q0, q1, q2, q3, go_sem]
  | [a, b, c, d, e], [t, u, v, x, y], _, _ =>
    have q0 := k2 0 a t rfl rfl
    have q1 := k2 1 b u rfl rfl
    have q2 := k2 2 c v rfl rfl
    have q3 := k2 3 d x rfl rfl
    have q4 := k2 4 e y rfl rfl
    simp [RtV, q0, q1, q2, q3, q4, go_sem]
  | _ :: _ :: _ :: _ :: _ :: _ :: _, ts, k1, hl =>
    exfalso
    rw [← k1] at hl
    simp only [List.length_cons] at hl
    omega
theorem noBig_spec {ρ : Env} {w : World} : ∀ {l : List Nat}, noBig l = true → RetEnv P l ρ ρ w
  | [], _ => ⟨fun _ _ => rfl, fun u hu => by simp at hu⟩
  | u :: l, h => by
    obtain ⟨h1, h2⟩ := andC (show (match Nat.blt u bigT with | true => noBig l | false => false) = true from h)
    rw [Nat.blt_eq] at h1
    refine ⟨fun _ _ => rfl, fun u' hu' hb => ?_⟩
    rcases List.mem_cons.1 hu' with rfl | hu'
    · omega
    · exact (noBig_spec h2).2 u' hu' hb
def fnOk (P : Program) (S : Spec B) : Bool :=
  callOk P S.fid && match P.funcs[S.fid]? with
  | some fn => match fn.body with
    | some c => resB fn.results.toList S.rts && Nat.ble S.rts.length 5 && lowC fn.ntmps c
    | none => false
  | none => false
def codeP (P : Program) (f : FuncId) : Code := match P.funcs[f]? with | some fn => codeOf fn | none => .skip
theorem holds_of_D {tt : List (TI B)} {specs : List (Spec B)} {S : Spec B} {h : Hint} (htt : ttOk P tt = true) (hS : SpecsOk P specs) (hm : P.follows .mixedOrders = true) (hk : fnOk P S = true)
    (hD : ∀ t r, S.fn t = some r → Dfn tt specs S (codeP P S.fid) h t = some r) : S.Holds P ∧ callOk P S.fid = true := by
  unfold fnOk at hk
  simp only [Bool.and_eq_true] at hk
  obtain ⟨hok, hk⟩ := hk
  refine ⟨?_, hok⟩
  cases hfn : P.funcs[S.fid]? with
  | none => rw [hfn] at hk; cases hk
  | some fn =>
    rw [hfn] at hk
    simp only at hk
    cases hbody : fn.body with
    | none => rw [hbody] at hk; cases hk
    | some c =>
      rw [hbody] at hk
      simp only [Bool.and_eq_true] at hk
      obtain ⟨⟨k1, k2⟩, k3⟩ := hk
      have hc : codeP P S.fid = c := by simp only [codeP, hfn, codeOf, hbody]
      rw [hc] at hD
      intro G w L0 f σ t r args ht _ hs
      refine ecalls (args.size + (fn.ntmps - args.size)) hfn hbody rfl ?_
      have hx : Ctx P (Fn.of tt specs S t) σ := ⟨htt, hS, hm, hs.frame, fun i hi => hs.fresh i (Nat.not_lt.2 hi)⟩
      have h1 := d_sound (n := args.size + (fn.ntmps - args.size)) (G := G) (L0 := L0) (f0 := f) hx c (lowC_mono (by omega) k3) _ _ _ _ _ _ _ w (hD t r ht) ⟨Nat.le_refl _, f, σ, hs⟩
      have fin : ∀ ρ w, TellsR P (Fn.of tt specs S t) G L0 f σ r ρ w → ∃ v, ResIs P fn ρ w v ∧ ∃ f' σ' ρ', v = RtV ρ' S.rts ∧
          SimF G L0 f σ (ovl (unM S.res r) (sOff true (look (unM S.args t)))) S.res.ents (fun i => i < S.res.nx + S.res.items.length) f' σ' ρ' w := by
        intro ρ w hT
        obtain ⟨ρ', hr, f', σ', h2⟩ := hT
        exact ⟨_, resIs k1 (Nat.le_of_ble_eq_true k2) hr, f', σ', ρ', rfl, h2⟩
      refine h1.mono fun e ρ w hq => ?_
      cases e with
      | ret =>
        obtain ⟨x, g1, g2⟩ := hq
        injection g1 with g1
        subst g1
        exact fin ρ w g2
      | normal =>
        obtain ⟨st, g1, g2⟩ := hq
        simp only at g1
        cases hc0 : noBig S.rts && covered (Fn.of tt specs S t).n0 true (itemKeys S.res.items) st.m with
        | false => rw [hc0] at g1; cases g1
        | true =>
          rw [hc0] at g1
          simp only [Bool.and_eq_true] at hc0
          obtain ⟨hnb, hc⟩ := hc0
          obtain ⟨_, f2, σ2, hs2⟩ := g2
          have hl : lkS (Fn.of tt specs S t).a0 [] st.m = ovl st.m (look (unM S.args t)) := by rw [lkS_ovl, ovl_nil]; rfl
          rw [hl] at hs2
          obtain ⟨t', f', σ', q1, q2, q3, q4⟩ := pk_sound (Mf := look (unM S.args t)) (fr := st.m) (a0 := (Fn.of tt specs S t).a0) (n0 := (Fn.of tt specs S t).n0) (E0 := S.args.ents) (by rw [lkS_ovl, ovl_nil]; rfl) hs2 (fun i hi => hs.fresh i (Nat.not_lt.2 hi)) hs.frame hc g1
          injection q1 with q1
          subst q1
          exact fin ρ w ⟨ρ, noBig_spec hnb, f', σ', q2⟩
      | exit i => obtain ⟨x, g1, _⟩ := hq; cases g1
      | goto l => exact hq.elim
      | panic c => exact hq.elim
      | outgrown => exact hq.elim
end
end Hd
set_option linter.unusedVariables false
set_option linter.unusedSimpArgs false
namespace Hd
open Go Hk
section
variable {B : Tab} {P : Program}
def Good (P : Program) (S : Spec B) : Prop := S.Holds P ∧ callOk P S.fid = true
theorem specs_nil : SpecsOk P ([] : List (Spec B)) := fun S h => by simp at h
theorem specs_cons {S : Spec B} {l : List (Spec B)} (h : Good P S) (hl : SpecsOk P l) : SpecsOk P (S :: l) := fun S' h' => by
  rcases List.mem_cons.1 h' with rfl | h'
  · exact h
  · exact hl S' h'
def fnOkF (S : Spec B) (fn : Func) : Bool :=
  match fn.body with
  | some c => resB fn.results.toList S.rts && Nat.ble S.rts.length 5 && lowC fn.ntmps c
  | none => false
theorem good_of {tt : List (TI B)} {specs : List (Spec B)} {S : Spec B} {h : Hint} {fn : Func} (htt : ttOk P tt = true) (hm : P.follows .mixedOrders = true) (hfn : P.funcs[S.fid]? = some fn) (hok : callOk P S.fid = true) (hk : fnOkF S fn = true)
    (hS : SpecsOk P specs) (hD : ∀ t, S.fn t = Dfn tt specs S (codeOf fn) h t) : Good P S := by
  refine holds_of_D (h := h) htt hS hm ?_ fun t r ht => ?_
  · unfold fnOk
    rw [hok, hfn]
    exact hk
  · have : codeP P S.fid = codeOf fn := by simp only [codeP, hfn]
    rw [this, ← hD t]
    exact ht
theorem good_rec {α : Type} {S : α → Spec B} {f : Nat → α} (h0 : ∀ t, (S (f 0)).fn t = none) (hok : callOk P (S (f 0)).fid = true) (step : ∀ n, Good P (S (f n)) → Good P (S (f (n + 1)))) : ∀ n, Good P (S (f n))
  | 0 => ⟨fun G w L0 f' σ t r args ht _ _ => (by rw [h0 t] at ht; cases ht), hok⟩
  | n + 1 => step n (good_rec h0 hok step n)
def slotsFrom : Nat → List VSh → List Item
  | _, [] => []
  | k, v :: l => .slot k v :: slotsFrom (k + 1) l
def RArgs (f : HP) (σ : Rz B) : (k : Nat) → (l : List VSh) → HL B.T (itemsC (slotsFrom k l)) → (Nat → Value) → Prop
  | _, [], _, _ => True
  | k, v :: l, p, ρ => DRel f σ (unV (fun e => e) v (HL.fst v.comps (itemsC (slotsFrom (k + 1) l)) p)) (ρ k) ∧ RArgs f σ (k + 1) l (HL.snd v.comps (itemsC (slotsFrom (k + 1) l)) p) ρ
theorem slots_look {f : HP} {σ : Rz B} {ρ : Nat → Value} : ∀ {l : List VSh} {k q : Nat} {p : HL B.T (itemsC (slotsFrom k l))}, RArgs f σ k l p ρ →
    (∀ a c, look (unItems (fun e => e) q (slotsFrom k l) p) a = some c → ∃ t d, a = .s t ∧ c = .v d ∧ DRel f σ d (ρ t))
  | [], k, q, p, _, a, c, h => by cases h
  | v :: l, k, q, p, ⟨h1, h2⟩, a, c, h => by
    have h : look ((Loc.s k, Con.v (unV (fun e => e) v (HL.fst v.comps (itemsC (slotsFrom (k + 1) l)) p))) :: unItems (fun e => e) (q + 1) (slotsFrom (k + 1) l) (HL.snd v.comps (itemsC (slotsFrom (k + 1) l)) p)) a = some c := h
    by_cases ha : Loc.s k = a
    · subst ha
      rw [look_cons_self] at h
      injection h with h
      exact ⟨k, _, rfl, h.symm, h1⟩
    · rw [look_cons_ne ha] at h
      exact slots_look h2 a c h
theorem root_calls {fid nx r nx' : Nat} {vs : List VSh} {fn : Tup B.T (itemsC (slotsFrom 0 vs)) → Option Bool} (hS : Good P (⟨fid, ⟨slotsFrom 0 vs, [], nx⟩, ⟨[.slot r (.one (.d .bool))], [], nx'⟩, [r], fn⟩ : Spec B))
    {W : World} {args : Array Value} {p : HL B.T (itemsC (slotsFrom 0 vs))} (hfn : fn (ofHL _ p) = some true) (ha : RArgs (wh W) (fun _ => none) 0 vs p (fun t => args.getD t undef)) (hz : args.size = slotsN (slotsFrom 0 vs) := by rfl) (hgl : B.glob (wh W) := by exact trivial) :
    Calls P fid args W fun e W' => ∃ v f', e = .returned v ∧ HP.le (wh W) f' ∧ v = .bool true ∧ Wd W W' f' [] := by
  have hu : unM (B := B) ⟨slotsFrom 0 vs, [], nx⟩ (ofHL _ p) = unItems (fun e => e) nx (slotsFrom 0 vs) p := by unfold unM; rw [toHL_ofHL]
  have hl := slots_look (q := nx) ha
  have no : ∀ (l : Loc) (c : Con B), look (unItems (fun e => e) nx (slotsFrom 0 vs) p) l = some c → (∀ t, l ≠ .s t) → False := fun l c h1 h2 => by
    obtain ⟨t, d, e, _⟩ := hl l c h1
    exact h2 t e
  refine (hS.1 W W [] (wh W) (fun _ => none) (ofHL _ p) true args hfn hz ?_).mono fun e w' hR => ?_
  · show SimF W [] (wh W) (fun _ => none) (look (unM (B := B) ⟨slotsFrom 0 vs, [], nx⟩ (ofHL _ p))) [] _ (wh W) (fun _ => none) _ W
    rw [hu]
    refine ⟨hgl, HP.le_refl _, Rz.le_refl _, fun _ _ => rfl, fun t => ?_, fun i e xs nn h => (no _ _ h (by simp)).elim, fun i e x h => (no _ _ h (by simp)).elim, fun i j x h => (no _ _ h (by simp)).elim, fun i e xs s nn h => (no _ _ h (by simp)).elim, fun i e rows s h hole nn hh => (no _ _ hh (by simp)).elim,
      fun i k v m hh => (no _ _ hh (by simp)).elim, fun i k e m key pd hh => (no _ _ hh (by simp)).elim, fun i ty n h => (no _ _ h (by simp)).elim, [], [], List.nodup_nil, fun x => Iff.rfl, trivial, ⟨rfl, rfl, rfl, HP.le_refl _, trivial⟩⟩
    cases hq : look (unItems (fun e => e) nx (slotsFrom 0 vs) p) (.s t) with
    | none => trivial
    | some c =>
      obtain ⟨t', d, e, rfl, hd⟩ := hl _ _ hq
      injection e with e
      subst e
      exact hd
  · obtain ⟨v, he, f', σ', ρ', g1, g2⟩ := hR
    have h1 := g2.slots r
    rw [show ovl (unM (B := B) ⟨[.slot r (.one (.d .bool))], [], nx'⟩ true) (sOff true (look (unM (B := B) ⟨slotsFrom 0 vs, [], nx⟩ (ofHL _ p)))) (.s r) = some (.v (.one (.bool true))) from ovl_some (look_cons_self _ _ _)] at h1
    have h1 : ρ' r = .bool true := h1
    obtain ⟨E1, L1, k1, k2, k3, k4⟩ := g2.ents
    have : E1 = [] := by
      cases E1 with
      | nil => rfl
      | cons x l => exact absurd ((k2 x).1 (by simp)) (by simp)
    subst this
    cases L1 with
    | cons _ _ => exact k3.elim
    | nil => exact ⟨v, f', he, g2.le, by rw [g1]; exact h1, k4⟩
end
end Hd
set_option linter.unusedVariables false
set_option linter.unusedSimpArgs false
namespace Hd
open Go Hk
section
variable {B : Tab} {P : Program}
end
end Hd
