/- Rows of grids: taken out for an operation; grids that are made. -/
import Derived.Test.YtoamdmkakblnnaaDoorD6
import Derived.RangeFuncNested
import Derived.RangeFuncLeaves
import Derived.OrdersIn
import Derived.RangeFuncIn
import Derived.RangeFuncSeq
set_option linter.unusedVariables false
set_option linter.unusedSimpArgs false
namespace Hd
open Go Hk
section
variable {B : Tab} {P : Program} {tt : List (TI B)} {M M' : Loc → Option (Con B)} {G w : World} {L0 : List HProp} {f0 f f' : HP} {σ0 σ σ' : Rz B} {E E' E0 : List (Nat × EH)} {N : Nat → Prop} {ρ : Env}
variable {base : Nat} {dst : Option Tmp} {ty : TypeId} {pos : String} {after : Array Edge} {guard : Option (Nat × Bool)} {out : Out B} {rs : List Loc} {ρr ρ2 : Type} {o : ρr}
theorem over_ran {ups : Mem B} : ∀ {p : RM B ρr} {o : ρr} {rs : List Loc}, (RM.over ups p).Ran M o rs → ∃ rs', p.Ran (ovl ups M) o rs'
  | .ret x, o, rs, h => ⟨rs, h⟩
  | .read l k, o, rs, h => by
    unfold RM.over at h
    cases hl : look ups l with
    | some c =>
      rw [hl] at h
      obtain ⟨rs', h1⟩ := over_ran h
      exact ⟨l :: rs', rs', rfl, by rw [ovl_some hl]; exact h1⟩
    | none =>
      rw [hl] at h
      obtain ⟨rs1, e, h1⟩ := h
      obtain ⟨rs', h2⟩ := over_ran h1
      exact ⟨l :: rs', rs', rfl, by rw [ovl_none hl]; exact h2⟩
  | .bind x k, o, rs, h => by
    obtain ⟨y, hy, h1⟩ := h
    obtain ⟨rs', h2⟩ := over_ran h1
    exact ⟨rs', y, hy, h2⟩
  | .ite b x y, o, rs, h => by
    cases b
    · obtain ⟨rs', h2⟩ := over_ran (p := y) h; exact ⟨rs', h2⟩
    · obtain ⟨rs', h2⟩ := over_ran (p := x) h; exact ⟨rs', h2⟩
  | .fail, _, _, h => h.elim
theorem andThen_ran {f : ρr → RM B ρ2} {o : ρ2} : ∀ {p : RM B ρr} {rs : List Loc}, (RM.andThen f p).Ran M o rs → ∃ x rs1 rs2, p.Ran M x rs1 ∧ (f x).Ran M o rs2
  | .ret x, rs, h => ⟨x, [], rs, ⟨rfl, rfl⟩, h⟩
  | .read l k, rs, h => by
    obtain ⟨rs1, e, h1⟩ := h
    obtain ⟨x, r1, r2, h2, h3⟩ := andThen_ran h1
    exact ⟨x, l :: r1, r2, ⟨r1, rfl, h2⟩, h3⟩
  | .bind y k, rs, h => by
    obtain ⟨z, hz, h1⟩ := h
    obtain ⟨x, r1, r2, h2, h3⟩ := andThen_ran h1
    exact ⟨x, r1, r2, ⟨z, hz, h2⟩, h3⟩
  | .ite b p q, rs, h => by
    cases b
    · obtain ⟨x, r1, r2, h2, h3⟩ := andThen_ran (p := q) h; exact ⟨x, r1, r2, h2, h3⟩
    · obtain ⟨x, r1, r2, h2, h3⟩ := andThen_ran (p := p) h; exact ⟨x, r1, r2, h2, h3⟩
  | .fail, _, h => h.elim
theorem memNat_iff {i : Nat} : ∀ {l : List Nat}, memNat l i = true ↔ i ∈ l
  | [] => by simp [memNat]
  | a :: r => by
    unfold memNat
    cases hb : Nat.beq a i with
    | true => simp [Nat.eq_of_beq_eq_true hb]
    | false =>
      have : i ≠ a := fun e => by subst e; simp at hb
      simp only [List.mem_cons]
      rw [memNat_iff (l := r)]
      exact ⟨.inr, fun h => h.elim (fun e => absurd e this) id⟩
theorem SimF.ents_iff (hs : SimF G L0 f0 σ0 M E N f σ ρ w) (h : ∀ x, x ∈ E ↔ x ∈ E') : SimF G L0 f0 σ0 M E' N f σ ρ w :=
  { hs with
    arrs := fun i e xs s nn hm => (h _).1 (hs.arrs i e xs s nn hm)
    grds := fun i e rows s k hole nn hm => (h _).1 (hs.grds i e rows s k hole nn hm)
    mps := fun i k v m hm => (h _).1 (hs.mps i k v m hm)
    mphs := fun i k e m key pd hm => (h _).1 (hs.mphs i k e m key pd hm)
    blks := fun i ty n hm => (h _).1 (hs.blks i ty n hm)
    ents := by
      obtain ⟨E1, L1, k1, k2, k3, k4⟩ := hs.ents
      exact ⟨E1, L1, k1, fun x => (k2 x).trans (h x), k3, k4⟩ }
theorem Ents.slots (hne : ∀ l, (∀ t, l ≠ .s t) → M' l = M l) : ∀ {E1 : List (Nat × EH)} {L1 : List HProp}, Ents f σ M E1 L1 → Ents f σ M' E1 L1
  | [], [], _ => trivial
  | [], _ :: _, h => h.elim
  | _ :: _, [], h => h.elim
  | (i, k) :: E1, A :: L1, ⟨h1, h2⟩ => by
    refine ⟨?_, Ents.slots hne h2⟩
    cases k with
    | arr e => obtain ⟨H, n, c, cur, xs, s, nn, g1, g2, g3, g4⟩ := h1; exact ⟨H, n, c, cur, xs, s, nn, g1, g2, by rw [hne (.a i) (by simp)]; exact g3, g4⟩
    | grid e => obtain ⟨H, n, c, cur, l, rl, rows, s, k, hole, nn, g1, g2, g3, g4⟩ := h1; exact ⟨H, n, c, cur, l, rl, rows, s, k, hole, nn, g1, g2, by rw [hne (.a i) (by simp)]; exact g3, g4⟩
    | mp kt vt =>
      rcases h1 with ⟨g0, r, es, clk, m, g1, g2, g3, g4⟩ | ⟨e, r, es, clk, hl, rl, g0, g1, g2, g3⟩
      · exact .inl ⟨g0, r, es, clk, m, g1, g2, by rw [hne (.a i) (by simp)]; exact g3, g4⟩
      · refine .inr ⟨e, r, es, clk, hl, rl, g0, g1, g2, ?_⟩
        rcases g3 with ⟨m, g3, g4⟩ | ⟨m, key, pd, g3, g4⟩
        · exact .inl ⟨m, by rw [hne (.a i) (by simp)]; exact g3, g4⟩
        · exact .inr ⟨m, key, pd, by rw [hne (.a i) (by simp)]; exact g3, g4⟩
    | blk ty n =>
      obtain ⟨b, vals, g1, g2, g3, g4, g5⟩ := h1
      exact ⟨b, vals, g1, g2, g3, by rw [hne (.b i) (by simp)]; exact g4, fun j v hv => by obtain ⟨q1, c, q2, q3⟩ := g5 j v hv; exact ⟨q1, c, by rw [hne (.c i j) (by simp)]; exact q2, q3⟩⟩
theorem SimF.reslot (hs : SimF G L0 f0 σ0 M E N f σ ρ w) (hne : ∀ l, (∀ t, l ≠ .s t) → M' l = M l) (hsl : ∀ t, SRel f σ (M' (.s t)) (ρ t)) : SimF G L0 f0 σ0 M' E N f σ ρ w :=
  { hs with
    slots := hsl
    fzs := fun i e xs nn h1 => hs.fzs i e xs nn (by rw [hne (.a i) (by simp)] at h1; exact h1)
    fzbs := fun i e x h1 => hs.fzbs i e x (by rw [hne (.b i) (by simp)] at h1; exact h1)
    clos := fun i j x h1 => hs.clos i j x (by rw [hne (.k i j) (by simp)] at h1; exact h1)
    arrs := fun i e xs s nn h1 => hs.arrs i e xs s nn (by rw [hne (.a i) (by simp)] at h1; exact h1)
    grds := fun i e rows s k hole nn h1 => hs.grds i e rows s k hole nn (by rw [hne (.a i) (by simp)] at h1; exact h1)
    mps := fun i k v m h1 => hs.mps i k v m (by rw [hne (.a i) (by simp)] at h1; exact h1)
    mphs := fun i k e m key pd h1 => hs.mphs i k e m key pd (by rw [hne (.a i) (by simp)] at h1; exact h1)
    blks := fun i ty n h1 => hs.blks i ty n (by rw [hne (.b i) (by simp)] at h1; exact h1)
    ents := by
      obtain ⟨E1, L1, k1, k2, k3, k4⟩ := hs.ents
      exact ⟨E1, L1, k1, k2, Ents.slots hne k3, k4⟩ }
theorem take_row (hs : SimF G L0 f0 σ0 M E N f σ ρ w) {tx g : Nat} {e e0 : Ty} {i : Int} {s h nn : Nat} {rows : List (List (den B.T e))} {row : List (den B.T e)} (hM : M (.a g) = some (.grid e rows s h none nn)) (hrow : idx rows i = some row)
    (hx : CRel f σ (.grow g e0 i h) (ρ tx)) (hk : ¬ N (base + 60)) (hk1 : ¬ N (base + 61)) :
    ∃ σ', Rz.le σ σ' ∧ SimF G L0 f0 σ0 (ovl (rowUps base tx g e i s h nn rows row) M) ((base + 60, .arr e) :: E) (fun j => N j ∨ j = base + 60 ∨ j = base + 61) f σ' ρ w := by
  obtain ⟨E2, L2, A, n, c, cur, hdl, rl, r1, r2, r3, r4, r5, r5', r6, r7, r9⟩ := take_grid hs hM
  obtain ⟨_, l, hd, z1, z2, hv⟩ := hx
  rw [z1] at r5'
  injection r5' with r5'
  injection r5' with r5'
  subst r5'
  obtain ⟨b, oo, B', m, q, r, hA, hce, hhd, hrr, hok⟩ := grid_el r6 hrow (fun hf => hf)
  rw [hhd] at z2
  injection z2 with z2
  subst z2
  obtain ⟨rl', hok', hno, hw⟩ := grid_take hhd hrr r6 r9
  have b0 : σ (base + 60) = none := hs.fresh _ hk
  have b1 : σ (base + 61) = none := hs.fresh _ hk1
  have hne : ∀ i h, (i, h) ∈ E → i ≠ base + 60 := fun i h hi e => by subst e; exact ents_some hs hi b0
  have hσ1 : Rz.le σ (setR σ (base + 60) (.hdr B' m q)) := setR_le b0
  have hσ : Rz.le σ (setR (setR σ (base + 60) (.hdr B' m q)) (base + 61) (.con e row)) := Rz.le_trans hσ1 (setR_le (by rw [setR_ne (by omega)]; exact b1))
  have s0 : setR (setR σ (base + 60) (.hdr B' m q)) (base + 61) (Real.con e row) (base + 60) = some (.hdr B' m q) := by rw [setR_ne (by omega)]; exact setR_self _ _ _
  have haE := hs.grds g e rows s h none nn hM
  have hgk : g ≠ base + 60 := hne _ _ haE
  have hup : ∀ l, l ≠ .a g → l ≠ .a (base + 60) → look [(Loc.a g, Con.grid e rows s h (some i) nn), (Loc.a (base + 60), Con.arr e row (base + 61) 0)] l = none := fun l hl hl2 => by rw [look_cons_ne (Ne.symm hl), look_cons_ne (Ne.symm hl2)]; rfl
  have h1 : SimF G L0 f0 σ0 (ovl [(Loc.a g, Con.grid e rows s h (some i) nn), (Loc.a (base + 60), Con.arr e row (base + 61) 0)] M) ((base + 60, .arr e) :: E) (fun j => N j ∨ j = base + 60 ∨ j = base + 61) f (setR (setR σ (base + 60) (.hdr B' m q)) (base + 61) (.con e row)) ρ w := by
    refine hs.updS (HP.le_refl _) hσ (fun j hj => ?_) (fun l c hl => ?_) (fun j k hj => .inl (by simp [hj])) ⟨(base + 60, .arr e) :: (g, .grid e) :: E2, Arr B' q r :: GridH A c cur l rl' :: L2, ?_, fun x => ?_, ⟨?_, ?_, ?_⟩, hw⟩
    · have : j ≠ base + 60 ∧ j ≠ base + 61 := ⟨fun e => hj (.inr (.inl e)), fun e => hj (.inr (.inr e))⟩
      rw [setR_ne this.2, setR_ne this.1]
      exact hs.fresh _ fun h => hj (.inl h)
    · by_cases hla : Loc.a g = l
      · subst hla
        rw [look_cons_self] at hl
        injection hl with hl; subst hl
        show (g, EH.grid e) ∈ _ :: E
        simp [haE]
      · by_cases hlk : Loc.a (base + 60) = l
        · subst hlk
          rw [look_cons_ne hla, look_cons_self] at hl
          injection hl with hl; subst hl
          show (base + 60, EH.arr e) ∈ _ :: E
          simp
        · rw [hup _ (Ne.symm hla) (Ne.symm hlk)] at hl; cases hl
    · refine (r1.cons fun k hk => ((r2 _).1 hk).2 (by simp)).cons fun k hk => ?_
      rcases List.mem_cons.1 hk with e | hk
      · injection e with e; exact hgk e.symm
      · exact hne _ _ ((r2 _).1 hk).1 rfl
    · rw [List.mem_cons, List.mem_cons, List.mem_cons, r2]
      constructor
      · rintro (h | h | ⟨h, _⟩)
        · exact .inl h
        · subst h; exact .inr haE
        · exact .inr h
      · rintro (h | h)
        · exact .inl h
        · right
          by_cases hx : x.1 = g
          · left
            have := only_one hs (i := g) (h := x.2) (h' := .grid e) (by rw [← hx]; exact h) haE
            rw [← this, ← hx]
          · exact .inr ⟨h, by simpa using hx⟩
    · exact ⟨B', m, q, r, row, base + 61, 0, s0, rfl, ovl_some (by rw [look_cons_ne (by simpa using hgk), look_cons_self]), setR_self _ _ _, hok, fun h => by omega, fun h => by omega⟩
    · exact ⟨A, n, c, cur, l, rl', rows, s, h, some i, nn, hσ _ _ r4, rfl, ovl_some (look_cons_self _ _ _), hσ _ _ r5, hσ _ _ z1, hok', r7⟩
    · refine Ents.mono (HP.le_refl _) hσ (fun j k hj => ?_) r3
      obtain ⟨a1, a2⟩ := (r2 _).1 hj
      have hjg : j ≠ g := by simpa using a2
      have hjk := hne _ _ a1
      cases k with
      | arr e' => exact hup _ (by simpa using hjg) (by simpa using hjk)
      | grid e' => exact hup _ (by simpa using hjg) (by simpa using hjk)
      | mp _ _ => exact hup _ (by simpa using hjg) (by simpa using hjk)
      | blk t m => exact ⟨hup _ (by simp) (by simp), fun j => hup _ (by simp) (by simp)⟩
  refine ⟨_, hσ, ?_⟩
  have h2 := h1.put (d := tx) (x := .one (.own (base + 60))) (v := ρ tx) ⟨B', m, q, s0, hv⟩
  rw [upd_self rfl] at h2
  rw [← ovl_app] at h2
  exact h2
theorem rowOp_does (htt : ttOk P tt = true) (hs : SimF G L0 f0 σ0 M E N f σ ρ w) (hb : ∀ j, base ≤ j → j < base + stepW → ¬ N j) {x : Operand} {op : Op} (h : (rowOp tt base x op).Ran M out rs) :
    Does P ⟨dst, op, ty, pos, after, guard⟩ ρ w (Goal G L0 f0 σ0 M E N base f σ ρ out) := by
  unfold rowOp at h
  cases x <;> try exact h.elim
  rename_i tx
  obtain ⟨rs1, h1⟩ := read_ran h
  clear h
  have hsl := hs.slots tx
  split at h1 <;> try exact h1.elim
  rename_i g e0 i h' hMs
  rw [hMs] at hsl
  obtain ⟨rs2, h2⟩ := read_ran h1
  clear h1
  split at h2 <;> try exact h2.elim
  rename_i e rows s h'' nn hM
  obtain ⟨hq, h3⟩ := chk_ran h2
  have := Nat.eq_of_beq_eq_true hq
  subst this
  obtain ⟨row, hrow, h4⟩ := bind_ran h3
  clear h2 h3
  obtain ⟨out1, rs3, rs4, h5, h6⟩ := andThen_ran h4
  clear h4
  obtain ⟨hdel, h7⟩ := chk_ran h6
  obtain rfl := ret_ran h7
  have hdel := memNat_iff.1 hdel
  obtain ⟨rs5, h8⟩ := over_ran h5
  clear h5 h6 h7
  have h60 : ¬ N (base + 60) := hb _ (by omega) (by simp only [stepW]; omega)
  have h61 : ¬ N (base + 61) := hb _ (by omega) (by simp only [stepW]; omega)
  obtain ⟨σ1, hle, hs1⟩ := take_row (e0 := e0) (tx := tx) hs hM hrow hsl h60 h61
  have hd := opProg_does (dst := dst) (ty := ty) (pos := pos) (after := after) (guard := guard) htt hs1 (base := base) (fun j a b => by
    rintro (h | h | h)
    · exact hb j a (by simp only [stepV, stepW] at b ⊢; omega) h
    · simp only [stepV] at b; omega
    · simp only [stepV] at b; omega) h8
  have conv : ∀ v w', Goal G L0 f0 σ0 (ovl (rowUps base tx g e i s h' nn rows row) M) ((base + 60, .arr e) :: E) (fun j => N j ∨ j = base + 60 ∨ j = base + 61) base f σ1 ρ out1 v w' →
      Goal G L0 f0 σ0 M E N base f σ ρ ⟨out1.v, out1.up ++ [(.a g, .grid e rows s h' (some i) nn), (.a (base + 60), .arr e row (base + 61) 0)], out1.add, out1.del⟩ v w' := by
    intro v w' hG
    obtain ⟨f', σ', a1, a2, a3, a4⟩ := hG
    refine ⟨f', σ', a1, Rz.le_trans hle a2, ?_, a4⟩
    have a5 := (a3.ents_iff (E' := delsE (out1.add ++ E) out1.del) fun x => by
      simp only [mem_delsE, List.mem_append, List.mem_cons]
      constructor
      · rintro ⟨h | h | h, hd⟩
        · exact ⟨.inl h, hd⟩
        · subst h; exact absurd hdel hd
        · exact ⟨.inr h, hd⟩
      · rintro ⟨h | h, hd⟩
        · exact ⟨.inl h, hd⟩
        · exact ⟨.inr (.inr h), hd⟩).same (N' := Nx N base) (fun j hj => by
      unfold Nx at hj ⊢
      simp only [stepW] at hj ⊢
      rcases hj with (h | h | h) | h
      · exact .inl h
      · exact .inr (by omega)
      · exact .inr (by omega)
      · exact .inr h)
    refine a5.reslot (fun l hl => ?_) fun t => ?_
    · rw [ovl_app]
      unfold ovl rowUps
      rw [look_cons_ne (fun e => hl tx e.symm)]
    · rw [ovl_app]
      cases hq : look out1.up (.s t) with
      | some c =>
        have := a5.slots t
        rw [ovl_some hq] at this ⊢
        exact this
      | none =>
        rw [ovl_none hq, ovl_none (by rw [look_cons_ne (by simp), look_cons_ne (by simp)]; rfl)]
        exact (hs.slots t).mono a1 (Rz.le_trans hle a2)
  rcases hd with ⟨v, w', h1, h2⟩ | ⟨w', h1, h2⟩ | ⟨fn, args, w', R, h1, h2, h3⟩
  · exact .inl ⟨v, w', h1, conv _ _ h2⟩
  · exact .inr (.inl ⟨w', h1, conv _ _ h2⟩)
  · exact .inr (.inr ⟨fn, args, w', R, h1, h2, fun v w'' hR => conv _ _ (h3 v w'' hR)⟩)
theorem run_gridMakeC {α : Type} {F : FRel α} {L : List HProp} {t e : TypeId} {bytes : Nat} {l c : Operand} {n : Int} {xss : List (List α)} {zv : Value} (hT : tyElem P t = some e) (hsz : tySize P e = some 1) (hby : tyBytes P e = some bytes) (hzv : tyZero P e = some zv)
    (hcl : zv.cells.toList = [.slice none 0 0]) (hl : ev ρ l = .int .i64 n) (hc : ev ρ c = .int .i64 n) (hm : gmake bytes n ([] : List α) = some xss) (h : Wd G w f L) :
    ∃ w' v, (execOp (ev ρ) ⟨dst, .makeSlice t l c, ty, pos, after, guard⟩).run P w = .ok (.value v) w' ∧ ∃ A' n' c' cur hs rs, v = .slice A' n' c' ∧
      GridOk f F A' n' c' cur hs rs xss noHole ∧ Wd G w' f (GridH A' c' cur hs rs :: L) := by
  have hm' : gmake bytes n ((none, 0, 0) : Hdr) = some (List.replicate n.toNat (none, 0, 0)) ∧ xss = List.replicate n.toNat [] := by
    unfold gmake at hm ⊢
    split at hm
    · rename_i hc; injection hm with hm; rw [if_pos hc]; exact ⟨rfl, hm.symm⟩
    · cases hm
  obtain ⟨hm', rfl⟩ := hm'
  obtain ⟨w', v, h1, A', n', c', cur, h2, h3, h4, _⟩ := run_arrMake (E := fHdr) (z := ((none, 0, 0) : Hdr)) (dst := dst) (ty := ty) (pos := pos) (after := after) (guard := guard) hT hsz hby hzv hcl hl hc hm' (wd_rowsZero (m := n.toNat) h)
  refine ⟨w', v, h1, A', n', c', cur, _, _, h2, ⟨h3, ⟨by simp, by simp, fun i hd r xs hi hr hx => ?_⟩, fun i hi _ => ⟨#[], ?_⟩⟩, wd_gridShut h4⟩
  · have e1 := (List.getElem?_eq_some_iff.1 hi).2
    have e2 := (List.getElem?_eq_some_iff.1 hr).2
    have e3 := (List.getElem?_eq_some_iff.1 hx).2
    simp at e1 e2 e3
    subst e1 e2 e3
    exact (wd_arrNil (E := F) h).1
  · simp at hi
    simp [hi]
theorem gridMake_does (htt : ttOk P tt = true) (hs : SimF G L0 f0 σ0 M E N f σ ρ w) (hb : ∀ j, base ≤ j → j < base + stepW → ¬ N j) {t : TypeId} {l c : Operand} (h : (gridMake tt base t l c).Ran M out rs) :
    Does P ⟨dst, .makeSlice t l c, ty, pos, after, guard⟩ ρ w (Goal G L0 f0 σ0 M E N base f σ ρ out) := by
  obtain ⟨cl, rs', hl, h⟩ := opd1_ran hs h
  obtain ⟨⟨te, e0⟩, h1, h⟩ := opt_ran h
  obtain ⟨⟨kl, nl⟩, h2, h⟩ := opt_ran h
  simp only at h
  split at h <;> try exact h.elim
  rename_i e _
  obtain ⟨hk, hh⟩ := chk_ran h
  simp only [Bool.and_eq_true, decide_eq_true_eq, Bool.not_eq_true'] at hk
  obtain ⟨⟨⟨rfl, hab⟩, hz⟩, hagg⟩ := hk
  obtain ⟨rows, hm, hh⟩ := bind_ran hh
  obtain rfl := ret_ran hh
  obtain ⟨et, fe⟩ := elTy_ok htt h1
  obtain ⟨zv, z1, z2, z3⟩ := fe.zero
  have el := asI_rel h2 hl
  have hlc : ev ρ l = ev ρ c := by
    unfold sameOp at hab
    split at hab
    · rw [Nat.eq_of_beq_eq_true hab]
    · cases hab
  have hzc : te.zc = [.nils] := by
    unfold gridMake.zcNil at hz
    split at hz
    · assumption
    · cases hz
  have hcl : zv.cells.toList = [.slice none 0 0] := by
    have := (celsAre_rel (f := f) (σ := σ) z2).1
    rw [hzc] at this
    cases hq : zv.cells.toList with
    | nil => rw [hq] at this; exact this.elim
    | cons v r =>
      rw [hq] at this
      obtain ⟨a, b⟩ := this
      cases r with
      | nil => rw [show v = .slice none 0 0 from a]
      | cons _ _ => exact b.elim
  obtain ⟨E1, L1, k1, k2, k3, k4⟩ := hs.ents
  obtain ⟨w', v, hrun, A, n, c', cur, hdl, rl, rfl, hok, hw⟩ := run_gridMakeC (F := relB B e) (dst := dst) (ty := ty) (pos := pos) (after := after) (guard := guard) fe.elem fe.size fe.bytes z1 hcl el (hlc.symm.trans el) hm k4
  have fr : ∀ k, k < 64 → σ (base + k) = none := fun k hk => hs.fresh _ (hb _ (by omega) (by simp only [stepW]; omega))
  have b0 : σ base = none := by simpa using fr 0 (by omega)
  have b1 := fr 1 (by omega)
  have b2 := fr 2 (by omega)
  have hne : ∀ i h, (i, h) ∈ E → i ≠ base := fun i h hi e => by subst e; exact ents_some hs hi b0
  have hσ1 : Rz.le σ (setR σ base (.hdr A n c')) := setR_le b0
  have hσ2 : Rz.le σ (setR (setR σ base (.hdr A n c')) (base + 1) (.con (.sl e) rows)) := Rz.le_trans hσ1 (setR_le (by rw [setR_ne (by omega)]; exact b1))
  have hσ : Rz.le σ (setR (setR (setR σ base (.hdr A n c')) (base + 1) (.con (.sl e) rows)) (base + 2) (.hdrs hdl)) := Rz.le_trans hσ2 (setR_le (by rw [setR_ne (by omega), setR_ne (by omega)]; exact b2))
  have s0 : setR (setR (setR σ base (.hdr A n c')) (base + 1) (Real.con (B := B) (.sl e) rows)) (base + 2) (.hdrs hdl) base = some (.hdr A n c') := by rw [setR_ne (by omega), setR_ne (by omega)]; exact setR_self _ _ _
  have s1 : setR (setR (setR σ base (.hdr A n c')) (base + 1) (Real.con (B := B) (.sl e) rows)) (base + 2) (.hdrs hdl) (base + 1) = some (.con (.sl e) rows) := by rw [setR_ne (by omega)]; exact setR_self _ _ _
  have s2 : setR (setR (setR σ base (.hdr A n c')) (base + 1) (Real.con (B := B) (.sl e) rows)) (base + 2) (.hdrs hdl) (base + 2) = some (.hdrs hdl) := setR_self _ _ _
  have hup : ∀ l, l ≠ .a base → look [(Loc.a base, Con.grid (B := B) e rows (base + 1) (base + 2) none 0)] l = none := fun l hl => by rw [look_cons_ne (Ne.symm hl)]; rfl
  refine .inl ⟨_, w', hrun, f, _, HP.le_refl _, hσ, hs.updS (HP.le_refl _) hσ (fun i hi => ?_) (fun l q hl => ?_) (fun i h hi => .inl (by simp [delsE, hi])) ⟨(base, .grid e) :: E1, GridH A c' cur hdl rl :: L1, k1.cons fun k hk => hne _ _ ((k2 _).1 hk) rfl, fun x => ?_, ⟨?_, ?_⟩, hw⟩, ⟨A, n, c', s0, rfl⟩⟩
  · have : i ≠ base ∧ i ≠ base + 1 ∧ i ≠ base + 2 := ⟨fun e => hi (.inr ⟨by omega, by simp only [stepW]; omega⟩), fun e => hi (.inr ⟨by omega, by simp only [stepW]; omega⟩), fun e => hi (.inr ⟨by omega, by simp only [stepW]; omega⟩)⟩
    rw [setR_ne this.2.2, setR_ne this.2.1, setR_ne this.1]
    exact hs.fresh _ fun h => hi (.inl h)
  · by_cases hla : Loc.a base = l
    · subst hla
      rw [look_cons_self] at hl
      injection hl with hl; subst hl
      show (base, EH.grid e) ∈ delsE _ _
      simp [delsE]
    · rw [hup l (Ne.symm hla)] at hl; cases hl
  · simp only [delsE, List.cons_append, List.nil_append, List.mem_cons, k2]
  · exact ⟨A, n, c', cur, hdl, rl, rows, base + 1, base + 2, none, 0, s0, rfl, ovl_some (look_cons_self _ _ _), s1, s2, hok, fun h => by omega⟩
  · refine Ents.mono (HP.le_refl _) hσ (fun i h hi => ?_) k3
    have hia := hne _ _ ((k2 _).1 hi)
    cases h with
    | arr e' => exact hup _ (by simpa using hia)
    | grid e' => exact hup _ (by simpa using hia)
    | mp _ _ => exact hup _ (by simpa using hia)
    | blk t m => exact ⟨hup _ (by simp), fun j => hup _ (by simp)⟩
end
end Hd
set_option linter.unusedVariables false
set_option linter.unusedSimpArgs false
namespace Hd
open Go Hk
section
variable {P : Program} {G w w' : World} {f : HP} {L : List HProp} {ρ : Env} {dst : Option Tmp} {ty : TypeId} {pos : String} {after : Array Edge} {guard : Option (Nat × Bool)}
variable {α : Type} {E : FRel α} {A : Option Addr} {n c : Nat} {cur : Array Value} {hs : List Hdr} {rs : List (Option (Array Value))} {xss : List (List α)}
theorem grid_push {A' : Option Addr} {n' c' : Nat} {cur' : Array Value} {hd : Hdr} {r' : Array Value} {ys : List α} (hok : GridOk f E A n c cur hs rs xss noHole) (hok' : ArrOk f fHdr A' n' c' cur' (hs ++ [hd])) (hrow : ArrOk f E hd.1 hd.2.1 hd.2.2 r' ys) :
    GridOk f E A' n' c' cur' (hs ++ [hd]) (rs ++ [some r']) (xss ++ [ys]) noHole := by
  refine ⟨hok', ⟨by simp [hok.rows.lh], by simp [hok.rows.lr], fun k h2 r xs hk hr' hx' => ?_⟩, fun k hk _ => ?_⟩
  · have hkl := (List.getElem?_eq_some_iff.1 hk).1
    simp at hkl
    by_cases hke : k = hs.length
    · subst hke
      rw [List.getElem?_append_right (Nat.le_refl _)] at hk
      rw [List.getElem?_append_right (by rw [hok.rows.lr, hok.rows.lh]; omega)] at hr'
      rw [List.getElem?_append_right (by rw [hok.rows.lh]; omega)] at hx'
      simp [hok.rows.lh, hok.rows.lr] at hk hr' hx'
      subst hk hr' hx'
      exact hrow
    · have e3 := hok.rows.lh
      have e4 := hok.rows.lr
      rw [List.getElem?_append_left (by omega)] at hk hr' hx'
      exact hok.rows.get k h2 r xs hk hr' hx'
  · have e3 := hok.rows.lr
    simp at hk
    by_cases hke : k < xss.length
    · obtain ⟨r, hr'⟩ := hok.full k hke (fun hf => hf)
      exact ⟨r, by rw [List.getElem?_append_left (by omega)]; exact hr'⟩
    · refine ⟨r', ?_⟩
      rw [List.getElem?_append_right (by omega)]
      simp [show k - rs.length = 0 by omega]
theorem run_gridAppG {t e : TypeId} {bytes : Nat} {A2 : Option Addr} {n2 c2 : Nat} {cur2 : Array Value} {hs2 : List Hdr} {rs2 : List (Option (Array Value))} {ys : List α} {rss : List (List α)} {s x : Operand} (hT : ApTy P t e 1 bytes)
    (h : Wd G w f (GridH A c cur hs rs :: GridH A2 c2 cur2 hs2 rs2 :: L)) (hok : GridOk f E A n c cur hs rs xss noHole) (hok2 : GridOk f E A2 n2 c2 cur2 hs2 rs2 [ys] noHole)
    (hs' : ev ρ s = .slice A n c) (hx : ev ρ x = .slice A2 n2 c2) (hr : gapp bytes xss [ys] = some rss) :
    ∃ w' v, (execOp (ev ρ) ⟨dst, .call { callee := .builtin .append, args := #[s, x], argTypes := #[t, t] }, ty, pos, after, guard⟩).run P w = .ok (.value v) w' ∧ ∃ A' n' c' cur' hs'' rs'', v = .slice A' n' c' ∧
      GridOk f E A' n' c' cur' hs'' rs'' rss noHole ∧ Wd G w' f (GridH A' c' cur' hs'' rs'' :: L) := by
  obtain ⟨rfl, e1, e2⟩ := gapp_spec hr
  obtain ⟨b, o, B, m, q, r, hA, hce, hhd, hrr, hrow⟩ := grid_el (i := 0) hok2 rfl (fun hf => hf)
  have hh2 : hs2 = [(B, m, q)] := by
    have := hok2.rows.lh
    match hs2, this, hhd with
    | [a], _, hhd => simp at hhd; rw [hhd]
  subst hh2
  have hr2 : rs2 = [some r] := by
    have := hok2.rows.lr
    match rs2, this, hrr with
    | [a], _, hrr => simp at hrr; rw [hrr]
  subst hr2
  have hg : gapp bytes hs [((B, m, q) : Hdr)] = some (hs ++ [(B, m, q)]) := by
    unfold gapp
    rw [if_pos ⟨by rw [hok.rows.lh]; exact e1, by rw [hok.rows.lh]; exact e2⟩]
  have w1 := wd_gridOpen h.swap
  have w2 := wd_rowsTake (k := 0) (hd := (B, m, q)) (r := r) rfl rfl w1.swap
  have w3 : Wd G w f (Arr B q r :: Arr A2 c2 cur2 :: GridH A c cur hs rs :: L) := w2.drop 1 rfl
  have w4 := wd_gridOpen (w3.front 2 rfl)
  have hsrc := src_arr (E := fHdr) 3 rfl w4 rfl hok2.arr
  obtain ⟨a, ha, hsrc⟩ := hsrc.resolve_left (by simp)
  obtain ⟨v0, hv0, _, hv0e⟩ := hsrc 0 _ rfl
  have hv0e : [v0] = [Value.slice B m q] := hv0e
  injection hv0e with hv0e
  subst hv0e
  obtain ⟨w', v, hrun, A', n', c', cur', hv, hok', hw'⟩ := run_arrApp (E := fHdr) (ys := [((B, m, q) : Hdr)]) (news := [Value.slice B m q]) (dst := dst) (ty := ty) (pos := pos) (after := after) (guard := guard) hT w4 hok.arr hs' hx hok2.arr.len
    (.inr ⟨a, ha, fun j u hj => by
      cases j with
      | zero => simp at hj; subst hj; exact hv0
      | succ j => simp at hj⟩) rfl (fun i y hy => by
      cases i with
      | zero => simp at hy; subst hy; exact ⟨[Value.slice B m q], fun j v hj => by simpa [fHdr] using hj, rfl⟩
      | succ i => simp at hy) (fun u hu => by simp at hu; subst hu; simp [Value.oneCell']) hg
  have w5 := hw'.front 2 rfl
  have w6 : Wd G w' f (Arr B q r :: RowsH hs rs :: Arr A' c' cur' :: Arr A2 c2 cur2 :: L) := (w5.front 2 rfl).swap
  have w7 := wd_rowsPush (hd := (B, m, q)) (by rw [hok.rows.lr, hok.rows.lh]) w6
  have w8 := wd_gridShut w7.swap
  exact ⟨w', v, hrun, A', n', c', cur', _, _, hv, grid_push hok hok' hrow, w8.drop 1 rfl⟩
theorem run_gridLit {t e : TypeId} {B : Option Addr} {m q : Nat} {r : Array Value} {ys : List α} {x : Operand} {zv : Value} (ht : tyElem P t = some e) (hk : tySize P e = some 1) (hz : tyZero P e = some zv) (hz1 : zv.cells.toList = [.slice none 0 0])
    (h : Wd G w f (Arr B q r :: L)) (hrow : ArrOk f E B m q r ys) (hx : (ev ρ x).cells.toList = [.slice B m q]) :
    ∃ w' v, (execOp (ev ρ) ⟨dst, .buildSlice t 1 #[(0, x)], ty, pos, after, guard⟩).run P w = .ok (.value v) w' ∧ ∃ b cur, v = .slice (some ⟨b, 0, none⟩) 1 1 ∧
      GridOk f E (some ⟨b, 0, none⟩) 1 1 cur [(B, m, q)] [some r] [ys] noHole ∧ Wd G w' f (GridH (some ⟨b, 0, none⟩) 1 cur [(B, m, q)] [some r] :: L) := by
  have hb : (madeCells zv.cells (1 * 1)).toList = [.slice none 0 0] := by
    have : zv.cells = #[.slice none 0 0] := by rw [← Array.toArray_toList (xs := zv.cells), hz1]
    rw [this]
    refine List.ext_getElem (by simp [size_madeCells]) fun j h1 h2 => ?_
    have : j = 0 := by simp at h2; omega
    subst this
    simp [madeCells]
  obtain ⟨w', v, hrun, b, hv, hw⟩ := run_buildSliceE (P := P) (ρ := ρ) (dst := dst) (ty := ty) (pos := pos) (after := after) (guard := guard) (parts := [(0, x)]) (cs := [.slice B m q]) (len := 1) (k := 1) ht hk hz (by decide) hb (by
    simp [fillL, partsOf, hx]; rfl) h
  obtain ⟨cur, h1, h2⟩ := wd_arrL (E := fHdr) (ess := [[Value.slice B m q]]) (xs := [((B, m, q) : Hdr)]) ⟨rfl, trivial⟩ rfl (show Nat.ble 1 maxLen = true by decide) hw
  have h3 := wd_rowsNil (hs := []) h2
  have h4 := wd_rowsPush (hd := (B, m, q)) (hs := []) (rs := []) rfl (by simpa using (h3.front 2 rfl))
  refine ⟨w', v, hrun, b, cur, hv, ?_, wd_gridShut h4.swap⟩
  have := grid_push (E := E) (wd_gridZero (E := E) none h).1 (hd := (B, m, q)) (A' := some ⟨b, 0, none⟩) (n' := 1) (c' := 1) (cur' := cur) (by simpa using h1) hrow
  simpa using this
end
end Hd
set_option linter.unusedVariables false
set_option linter.unusedSimpArgs false
namespace Hd
open Go Hk
section
variable {B : Tab} {P : Program} {tt : List (TI B)} {M : Loc → Option (Con B)} {G w : World} {L0 : List HProp} {f0 f : HP} {σ0 σ : Rz B} {E : List (Nat × EH)} {N : Nat → Prop} {ρ : Env}
variable {dst : Option Tmp} {ty : TypeId} {pos : String} {after : Array Edge} {guard : Option (Nat × Bool)} {base : Nat} {rs : List Loc} {out : Out B}
theorem build_grid (hs : SimF G L0 f0 σ0 M E N f σ ρ w) (hb : ∀ j, base ≤ j → j < base + stepW → ¬ N j) {upr : Mem B} {del : List Nat} {E2 : List (Nat × EH)} {L2 : List HProp}
    {A : Option Addr} {n c nn : Nat} {cur : Array Value} {hdl : List Hdr} {rl : List (Option (Array Value))} {e : Ty} {rows : List (List (den B.T e))} {w' : World}
    (hgone : ∀ l q, look upr l = some q → q = .gone ∧ ∃ i, l = .a i ∧ i ∈ del) (hdel : ∀ i, i ∈ del → look upr (.a i) ≠ none ∧ (∃ h, (i, h) ∈ E) ∧ ∀ h, (i, h) ∈ E → keyE i h = .a i)
    (ho : Once E2) (hm : ∀ x, x ∈ E2 ↔ x ∈ E ∧ x.1 ∉ del) (he : Ents f σ M E2 L2) (hw : Wd G w' f (GridH A c cur hdl rl :: (L2 ++ L0))) (hok : GridOk f (relB B e) A n c cur hdl rl rows noHole) (h1 : 1 ≤ nn → A.isSome = true) :
    Goal G L0 f0 σ0 M E N base f σ ρ ⟨some (.one (.own base)), (.a base, .grid e rows (base + 1) (base + 2) none nn) :: upr, [(base, .grid e)], del⟩ (some (.slice A n c)) w' := by
  have fr : ∀ k, k < 64 → σ (base + k) = none := fun k hk => hs.fresh _ (hb _ (by omega) (by simp only [stepW]; omega))
  have b0 : σ base = none := by simpa using fr 0 (by omega)
  have b1 := fr 1 (by omega)
  have b2 := fr 2 (by omega)
  have hne : ∀ i h, (i, h) ∈ E → i ≠ base := fun i h hi e => by subst e; exact ents_some hs hi b0
  have hbd : base ∉ del := fun hd => by obtain ⟨_, ⟨e', he'⟩, _⟩ := hdel _ hd; exact hne _ _ he' rfl
  have hσ1 : Rz.le σ (setR σ base (.hdr A n c)) := setR_le b0
  have hσ2 : Rz.le σ (setR (setR σ base (.hdr A n c)) (base + 1) (.con (.sl e) rows)) := Rz.le_trans hσ1 (setR_le (by rw [setR_ne (by omega)]; exact b1))
  have hσ : Rz.le σ (setR (setR (setR σ base (.hdr A n c)) (base + 1) (.con (.sl e) rows)) (base + 2) (.hdrs hdl)) := Rz.le_trans hσ2 (setR_le (by rw [setR_ne (by omega), setR_ne (by omega)]; exact b2))
  have s0 : setR (setR (setR σ base (.hdr A n c)) (base + 1) (Real.con (B := B) (.sl e) rows)) (base + 2) (.hdrs hdl) base = some (.hdr A n c) := by rw [setR_ne (by omega), setR_ne (by omega)]; exact setR_self _ _ _
  have s1 : setR (setR (setR σ base (.hdr A n c)) (base + 1) (Real.con (B := B) (.sl e) rows)) (base + 2) (.hdrs hdl) (base + 1) = some (.con (.sl e) rows) := by rw [setR_ne (by omega)]; exact setR_self _ _ _
  have s2 : setR (setR (setR σ base (.hdr A n c)) (base + 1) (Real.con (B := B) (.sl e) rows)) (base + 2) (.hdrs hdl) (base + 2) = some (.hdrs hdl) := setR_self _ _ _
  have hmem : ∀ x, x ∈ delsE ([(base, EH.grid e)] ++ E) del ↔ x = (base, EH.grid e) ∨ (x ∈ E ∧ x.1 ∉ del) := fun x => by
    rw [mem_delsE, List.singleton_append, List.mem_cons]
    constructor
    · rintro ⟨rfl | hx, hd⟩
      · exact .inl rfl
      · exact .inr ⟨hx, hd⟩
    · rintro (rfl | ⟨hx, hd⟩)
      · exact ⟨.inl rfl, hbd⟩
      · exact ⟨.inr hx, hd⟩
  refine ⟨f, _, HP.le_refl _, hσ, hs.updS (HP.le_refl _) hσ (fun i hi => ?_) (fun l q hl => ?_) (fun i h hi => ?_) ⟨(base, .grid e) :: E2, GridH A c cur hdl rl :: L2, ho.cons fun k hk => hne _ _ ((hm _).1 hk).1 rfl, fun x => ?_, ⟨?_, ?_⟩, hw⟩, ⟨A, n, c, s0, rfl⟩⟩
  · have : i ≠ base ∧ i ≠ base + 1 ∧ i ≠ base + 2 := ⟨fun e => hi (.inr ⟨by omega, by simp only [stepW]; omega⟩), fun e => hi (.inr ⟨by omega, by simp only [stepW]; omega⟩), fun e => hi (.inr ⟨by omega, by simp only [stepW]; omega⟩)⟩
    rw [setR_ne this.2.2, setR_ne this.2.1, setR_ne this.1]
    exact hs.fresh _ fun h => hi (.inl h)
  · by_cases hlb : (Loc.a base) = l
    · subst hlb
      rw [look_cons_self] at hl
      injection hl with hl; subst hl
      exact (hmem _).2 (.inl rfl)
    · rw [look_cons_ne hlb] at hl
      obtain ⟨rfl, i, rfl, _⟩ := hgone l q hl
      trivial
  · by_cases hd : i ∈ del
    · right
      obtain ⟨k1, _, k3⟩ := hdel i hd
      rw [k3 h hi, look_cons_ne (by simpa using (hne _ _ hi).symm)]
      exact k1
    · exact .inl ((hmem _).2 (.inr ⟨hi, hd⟩))
  · rw [hmem, List.mem_cons, hm]
  · exact ⟨A, n, c, cur, hdl, rl, rows, base + 1, base + 2, none, nn, s0, rfl, ovl_some (look_cons_self _ _ _), s1, s2, hok, h1⟩
  · refine Ents.mono (HP.le_refl _) hσ (fun i h hi => ?_) he
    have hi' := (hm _).1 hi
    have hib := hne _ _ hi'.1
    have hup : ∀ l : Loc, (∀ j, l = .a j → j ≠ base ∧ j ∉ del) → look ((.a base, Con.grid (B := B) e rows (base + 1) (base + 2) none nn) :: upr) l = none := fun l hl => by
      rw [look_cons_ne (fun e => (hl base e.symm).1 rfl)]
      cases hlk : look upr l with
      | none => rfl
      | some q => obtain ⟨_, j, rfl, hj⟩ := hgone l q hlk; exact absurd hj (hl j rfl).2
    cases h with
    | arr e' => exact hup _ fun j e => by injection e with e; subst e; exact ⟨hib, hi'.2⟩
    | grid e' => exact hup _ fun j e => by injection e with e; subst e; exact ⟨hib, hi'.2⟩
    | mp _ _ => exact hup _ fun j e => by injection e with e; subst e; exact ⟨hib, hi'.2⟩
    | blk t m => exact ⟨hup _ (fun j e => (by cases e)), fun j' => hup _ (fun j e => (by cases e))⟩
theorem zcNil_one {zv : Value} {te : TI B} (hz : gridMake.zcNil te.zc = true) (z2 : celsAre te.zc zv.cells.toList = true) : zv.cells.toList = [.slice none 0 0] := by
  have hzc : te.zc = [.nils] := by
    unfold gridMake.zcNil at hz
    split at hz
    · assumption
    · cases hz
  have := (celsAre_rel (f := fun _ => none) (σ := fun _ => none) z2).1
  rw [hzc] at this
  cases hq : zv.cells.toList with
  | nil => rw [hq] at this; exact this.elim
  | cons v r =>
    rw [hq] at this
    obtain ⟨a, b⟩ := this
    cases r with
    | nil => rw [show v = .slice none 0 0 from a]
    | cons _ _ => exact b.elim
theorem gridLit_does (htt : ttOk P tt = true) (hs : SimF G L0 f0 σ0 M E N f σ ρ w) (hb : ∀ j, base ≤ j → j < base + stepW → ¬ N j) {t : TypeId} {n : Nat} {parts : Array (Nat × Operand)} (h : (gridLit tt base t n parts.toList).Ran M out rs) :
    Does P ⟨dst, .buildSlice t n parts, ty, pos, after, guard⟩ ρ w (Goal G L0 f0 σ0 M E N base f σ ρ out) := by
  unfold gridLit at h
  split at h <;> try exact h.elim
  rename_i x hp
  have hparts : parts = #[(0, x)] := by rw [← Array.toArray_toList (xs := parts), hp]
  subst hparts
  obtain ⟨cs, rs1, hc, h⟩ := opdL_ran hs h
  obtain ⟨⟨te, e0⟩, h1, h2⟩ := opt_ran h
  clear h
  cases e0 <;> try exact h2.elim
  rename_i e
  obtain ⟨hz, h3⟩ := chk_ran h2
  obtain ⟨et, fe⟩ := elTy_ok htt h1
  obtain ⟨zv, z1, z2, z3⟩ := fe.zero
  have hcl := zcNil_one hz z2
  have hsz : tySize P et = some 1 := fe.size
  split at h3 <;> try exact h3.elim
  · rename_i k
    obtain ⟨rs2, h4⟩ := read_ran h3
    cases hM : M (.a k) with
    | none => rw [hM] at h4; exact h4.elim
    | some q =>
      rw [hM] at h4
      cases q <;> try exact h4.elim
      rename_i e' ys s nn
      obtain ⟨ys', hcast, h5⟩ := opt_ran h4
      obtain ⟨rfl, rfl⟩ := castSl hcast
      obtain rfl := ret_ran h5
      obtain ⟨E2, L2, A, n, c, cur, k1, k2, k3, k4, k5, k6, k7, k8, k9⟩ := take_arr hs hM
      have hcell : (ev ρ x).cells.toList = [.slice A n c] := by
        have hc := hc rfl
        cases hcl : (ev ρ x).cells.toList with
        | nil => rw [hcl] at hc; exact hc.elim
        | cons v l =>
          rw [hcl] at hc
          obtain ⟨⟨H', n', c', z1, z2⟩, z3⟩ := hc
          cases l with
          | cons _ _ => exact z3.elim
          | nil =>
            rw [k4] at z1
            injection z1 with z1
            injection z1 with b1 b2 b3
            subst b1 b2 b3
            rw [z2]
      obtain ⟨w', v, hrun, b, cur', rfl, hok, hw⟩ := run_gridLit (dst := dst) (ty := ty) (pos := pos) (after := after) (guard := guard) fe.elem hsz z1 hcl k9 k6 hcell
      refine .inl ⟨_, w', hrun, build_grid hs hb (fun l q hl => ?_) (fun i hi => ?_) k1 k2 k3 hw hok (fun _ => rfl)⟩
      · by_cases hlk : Loc.a k = l
        · subst hlk; rw [look_cons_self] at hl; injection hl with hl; exact ⟨hl.symm, k, rfl, by simp⟩
        · rw [look_cons_ne hlk] at hl; cases hl
      · rw [List.mem_singleton.1 hi]
        refine ⟨by rw [look_cons_self]; simp, ⟨_, hs.arrs k _ _ _ _ hM⟩, fun h hh => ?_⟩
        obtain ⟨e2, rfl⟩ := (only_arr hs hM).2 h hh
        rfl
  · obtain rfl := ret_ran h3
    obtain ⟨E1, L1, k1, k2, k3, k4⟩ := hs.ents
    obtain ⟨hrow, hw0⟩ := wd_arrNil (E := relB B e) k4
    have hcell : (ev ρ x).cells.toList = [.slice none 0 0] := by
      have hc := hc rfl
      cases hcl : (ev ρ x).cells.toList with
      | nil => rw [hcl] at hc; exact hc.elim
      | cons v l =>
        rw [hcl] at hc
        obtain ⟨z2, z3⟩ := hc
        cases l with
        | cons _ _ => exact z3.elim
        | nil => rw [show v = .slice none 0 0 from z2]
    obtain ⟨w', v, hrun, b, cur', rfl, hok, hw⟩ := run_gridLit (dst := dst) (ty := ty) (pos := pos) (after := after) (guard := guard) fe.elem hsz z1 hcl hw0 hrow hcell
    exact .inl ⟨_, w', hrun, build_grid hs hb (fun l q hl => by cases hl) (fun i hi => by simp at hi) k1 (fun x => by simp [k2]) k3 hw hok (fun _ => rfl)⟩
theorem gridApp_does (htt : ttOk P tt = true) (hs : SimF G L0 f0 σ0 M E N f σ ρ w) (hb : ∀ j, base ≤ j → j < base + stepW → ¬ N j) {t : TypeId} {x y : Operand} {cx cy : Cel B} (hx : CRel f σ cx (ev ρ x)) (hy : CRel f σ cy (ev ρ y)) (h : (gridApp tt base t cx cy).Ran M out rs) :
    Does P ⟨dst, .call { callee := .builtin .append, args := #[x, y], argTypes := #[t, t] }, ty, pos, after, guard⟩ ρ w (Goal G L0 f0 σ0 M E N base f σ ρ out) := by
  obtain ⟨⟨te, e0⟩, h1, h2⟩ := opt_ran h
  clear h
  obtain ⟨et, fe⟩ := elTy_ok htt h1
  cases cy <;> cases e0 <;> try exact h2.elim
  rename_i j e
  obtain ⟨rs1, h3⟩ := read_ran h2
  clear h2
  cases hMj : M (.a j) with
  | none => rw [hMj] at h3; exact h3.elim
  | some qj =>
  rw [hMj] at h3
  cases qj <;> try exact h3.elim
  rename_i e1 rows1 s1 hh1 hole1 nn1
  cases hole1 with
  | some z => exact h3.elim
  | none =>
  simp only at h3
  split at h3 <;> try exact h3.elim
  rename_i row
  obtain ⟨row', hcast, h4⟩ := opt_ran h3
  obtain ⟨rfl, rfl⟩ := castSl hcast
  clear h3
  obtain ⟨E2, L2, Aj, nj, cj, curj, hdj, rlj, r1, r2, r3, r4, r5, r5', r6, r7, r9⟩ := take_grid hs hMj
  obtain ⟨Aj', nj', cj', p1, hyv⟩ := hy
  rw [r4] at p1
  injection p1 with p1
  injection p1 with a1 a2 a3
  subst a1 a2 a3
  have hT : ApTy P t et 1 te.bytes := fe.ap
  cases cx <;> try exact h4.elim
  case own i =>
    obtain ⟨hij, h5⟩ := chk_ran h4
    have hij : j ≠ i := by
      simp only [Bool.not_eq_true'] at hij
      exact nbeqF hij
    obtain ⟨rs2, h6⟩ := read_ran h5
    cases hMi : M (.a i) with
    | none => rw [hMi] at h6; exact h6.elim
    | some qi =>
    rw [hMi] at h6
    cases qi <;> try exact h6.elim
    rename_i e2 rows s hh hole nn
    cases hole with
    | some z => exact h6.elim
    | none =>
    obtain ⟨rows', hc2, h7⟩ := opt_ran h6
    obtain ⟨rfl, rfl⟩ := castSS hc2
    obtain ⟨r, hr, h8⟩ := bind_ran h7
    obtain rfl := ret_ran h8
    have hiE : (i, EH.grid e2) ∈ E2 := (r2 _).2 ⟨hs.grds i e2 _ s hh none nn hMi, by simpa using Ne.symm hij⟩
    obtain ⟨Ai, L3, hri, he3, hw3⟩ := Ents.take (P := [GridH Aj cj curj hdj rlj]) r1 hiE r3 r9
    obtain ⟨H, n, c, cur, hsx, rsx, rows2, s', h', hole', nn', q1, rfl, q3, q4, q5, q6, q7⟩ := hri
    rw [hMi] at q3
    injection q3 with q3
    injection q3 with _ g2 g3 g4 g5 g6
    subst g2 g3 g4 g5 g6
    obtain ⟨A', n', c', p2, hxv⟩ := hx
    rw [q1] at p2
    injection p2 with p2
    injection p2 with a1 a2 a3
    subst a1 a2 a3
    obtain ⟨w', v, hrun, A', n', c', cur', hs'', rs'', rfl, hok, hw⟩ := run_gridAppG (dst := dst) (ty := ty) (pos := pos) (after := after) (guard := guard) hT hw3 q6 r6 hxv hyv hr
    have hone : ∀ z k h', M (.a z) = some k → (z, h') ∈ E → (∀ e0 h'', (z, h'') ∈ E → h'' = EH.grid e0 → True) → True := fun _ _ _ _ _ _ => trivial
    refine .inl ⟨_, w', hrun, build_grid (upr := [(.a i, .gone), (.a j, .gone)]) (del := [i, j]) hs hb (fun l q hl => ?_) (fun z hz => ?_) r1.delE (fun z => ?_) he3 hw hok (fun h => by omega)⟩
    · by_cases hli : Loc.a i = l
      · subst hli; rw [look_cons_self] at hl; injection hl with hl; exact ⟨hl.symm, i, rfl, by simp⟩
      · rw [look_cons_ne hli] at hl
        by_cases hlj : Loc.a j = l
        · subst hlj; rw [look_cons_self] at hl; injection hl with hl; exact ⟨hl.symm, j, rfl, by simp⟩
        · rw [look_cons_ne hlj] at hl; cases hl
    · simp only [List.mem_cons, List.not_mem_nil, or_false] at hz
      rcases hz with rfl | rfl
      · exact ⟨by rw [look_cons_self]; simp, ⟨_, hs.grds z _ _ _ _ _ _ hMi⟩, fun h hh => by rw [only_grid hs hMi h hh]; rfl⟩
      · exact ⟨by rw [look_cons_ne (by simpa using Ne.symm hij), look_cons_self]; simp, ⟨_, hs.grds z _ _ _ _ _ _ hMj⟩, fun h hh => by rw [only_grid hs hMj h hh]; rfl⟩
    · rw [mem_delE, r2]
      simp only [List.mem_cons, List.not_mem_nil, or_false, not_or]
      exact ⟨fun ⟨⟨u1, u2⟩, u3⟩ => ⟨u1, u3, u2⟩, fun ⟨u1, u2, u3⟩ => ⟨⟨u1, u3⟩, u2⟩⟩
  case nils =>
    obtain ⟨r, hr, h8⟩ := bind_ran h4
    obtain rfl := ret_ran h8
    obtain ⟨hok0, hw0⟩ := wd_gridNil (E := relB B e1) r9
    obtain ⟨w', v, hrun, A', n', c', cur', hs'', rs'', rfl, hok, hw⟩ := run_gridAppG (dst := dst) (ty := ty) (pos := pos) (after := after) (guard := guard) hT hw0 hok0 r6 hx hyv hr
    refine .inl ⟨_, w', hrun, build_grid (upr := [(.a j, .gone)]) (del := [j]) hs hb (fun l q hl => ?_) (fun z hz => ?_) r1 r2 r3 hw hok (fun h => by omega)⟩
    · by_cases hlj : Loc.a j = l
      · subst hlj; rw [look_cons_self] at hl; injection hl with hl; exact ⟨hl.symm, j, rfl, by simp⟩
      · rw [look_cons_ne hlj] at hl; cases hl
    · rw [List.mem_singleton.1 hz]
      exact ⟨by rw [look_cons_self]; simp, ⟨_, hs.grds j _ _ _ _ _ _ hMj⟩, fun h hh => by rw [only_grid hs hMj h hh]; rfl⟩
end
end Hd
set_option linter.unusedVariables false
set_option linter.unusedSimpArgs false
namespace Hd
open Go Hk
section
variable {B : Tab} {P : Program} {tt : List (TI B)} {M : Loc → Option (Con B)} {G w : World} {L0 : List HProp} {f0 f f' : HP} {σ0 σ σ' : Rz B} {E E0 : List (Nat × EH)} {N : Nat → Prop} {ρ : Env}
variable {base : Nat} {dst : Option Tmp} {ty : TypeId} {pos : String} {after : Array Edge} {guard : Option (Nat × Bool)} {out : Out B} {rs : List Loc} {ρr : Type} {o : ρr}
theorem DRels.app : ∀ {a b : List (DV B)} {u v : List Value}, DRels f σ a u → DRels f σ b v → DRels f σ (a ++ b) (u ++ v)
  | [], _, [], _, _, h => h
  | _ :: _, _, _ :: _, _, ⟨h1, h2⟩, h => ⟨h1, DRels.app h2 h⟩
  | [], _, _ :: _, _, h, _ => h.elim
  | _ :: _, _, [], _, h, _ => h.elim
theorem DRels.nth : ∀ {a : List (DV B)} {u : List Value}, DRels f σ a u → ∀ i d, nthL a i = some d → DRel f σ d (u.toArray.getD i undef)
  | [], [], _, i, d, h => by cases h
  | x :: a, v :: u, ⟨h1, h2⟩, 0, d, h => by injection h with h; subst h; exact h1
  | x :: a, v :: u, ⟨h1, h2⟩, i + 1, d, h => by
    have := DRels.nth h2 i d h
    simpa using this
  | [], _ :: _, h, _, _, _ => h.elim
  | _ :: _, [], h, _, _, _ => h.elim
theorem caps_ran (hs : SimF G L0 f0 σ0 M E N f σ ρ w) {cid : Nat} {vals : List Value} (hσ : σ cid = some (.clo vals)) : ∀ {n j : Nat} {k : List (DV B) → RM B ρr} {rs : List Loc}, j + n ≤ vals.length → (callee.caps cid j n k).Ran M o rs →
    ∃ cs rs', DRels f σ cs ((vals.drop j).take n) ∧ (k cs).Ran M o rs'
  | 0, j, k, rs, _, h => ⟨[], rs, by simp [DRels], h⟩
  | n + 1, j, k, rs, hn, h => by
    unfold callee.caps at h
    obtain ⟨rs1, h1⟩ := read_ran h
    clear h
    cases hM : M (.k cid j) with
    | none => rw [hM] at h1; exact h1.elim
    | some q =>
      rw [hM] at h1
      cases q <;> try exact h1.elim
      rename_i c
      obtain ⟨vals', v, a1, a2, a3⟩ := hs.clos cid j c hM
      rw [hσ] at a1
      injection a1 with a1
      injection a1 with a1
      subst a1
      obtain ⟨c', rs2, h2, h3⟩ := resC_ran hs a3 h1
      obtain ⟨cs, rs3, h4, h5⟩ := caps_ran hs hσ (by omega) h3
      refine ⟨.one c' :: cs, rs3, ?_, h5⟩
      have hlt := (List.getElem?_eq_some_iff.1 a2).1
      rw [List.drop_eq_getElem_cons hlt, List.take_succ_cons]
      have : vals[j] = v := (List.getElem?_eq_some_iff.1 a2).2
      rw [this]
      exact ⟨h2, h4⟩
theorem DRels.len : ∀ {ds : List (DV B)} {vs : List Value}, DRels f σ ds vs → ds.length = vs.length
  | [], [], _ => rfl
  | _ :: _, _ :: _, ⟨_, h⟩ => by simp [DRels.len h]
  | [], _ :: _, h => h.elim
  | _ :: _, [], h => h.elim
def SpecsOk (P : Program) (specs : List (Spec B)) : Prop := ∀ S, S ∈ specs → S.Holds P ∧ callOk P S.fid = true
theorem nthL_mem {α : Type _} : ∀ {l : List α} {i : Nat} {x : α}, nthL l i = some x → x ∈ l
  | [], _, _, h => by cases h
  | a :: l, 0, x, h => by injection h with h; subst h; simp
  | a :: l, i + 1, x, h => List.mem_cons_of_mem _ (nthL_mem (l := l) h)
theorem hdrLit_does (htt : ttOk P tt = true) (hs : SimF G L0 f0 σ0 M E N f σ ρ w) (hb : ∀ j, base ≤ j → j < base + stepV → ¬ N j) {t : TypeId} {n : Nat} {parts : Array (Nat × Operand)} (h : (hdrLit tt base t n parts.toList).Ran M out rs) :
    Does P ⟨dst, .buildSlice t n parts, ty, pos, after, guard⟩ ρ w (Goal G L0 f0 σ0 M E N base f σ ρ out) := by
  obtain ⟨ps, rs1, hps, h1⟩ := partsR_ran hs h
  clear h
  obtain ⟨⟨te, e⟩, q1, h⟩ := opt_ran h1
  clear h1
  obtain ⟨hlen, h1⟩ := chk_ran h
  clear h
  obtain ⟨cs, q2, h⟩ := opt_ran h1
  clear h1
  obtain ⟨et, fe⟩ := elTy_ok htt q1
  obtain ⟨z, z1, z2, z3⟩ := fe.zero
  have hz : CRels f σ te.zc z.cells.toList := (celsAre_rel z2).1
  have hbase := madeCells_rel hz n
  have hts : te.size = z.cells.size := by rw [z3]; exact fe.tsize
  obtain ⟨vs, k1, hc⟩ := fillC_ok q2 hbase hps
  obtain ⟨hq, h⟩ := chk_ran h
  simp only [Bool.and_eq_true] at hq
  have hcl := Nat.eq_of_beq_eq_true hq.1
  obtain rfl := ret_ran h
  obtain ⟨E1, L1, m1, m2, m3, m4⟩ := hs.ents
  rw [hts] at k1 hlen
  rw [show parts = parts.toList.toArray by simp]
  obtain ⟨w', v, u1, b, rfl, u2⟩ := run_buildSliceE (dst := dst) (ty := ty) (pos := pos) (after := after) (guard := guard) (parts := parts.toList) fe.elem (by rw [fe.size, z3]) z1 hlen rfl k1 m4
  obtain ⟨f', hl, hf, hw⟩ := wd_freezeB u2
  have b0 : σ base = none := by simpa using base_none hs hb 0 (by decide)
  have hne : ∀ i h, (i, h) ∈ E → i ≠ base := fun i h hi e => by subst e; exact ents_some hs hi b0
  have hσ : Rz.le σ (setR σ base (.clo vs)) := setR_le b0
  have s0 : setR σ base (.clo vs) base = some (.clo vs) := setR_self _ _ _
  have hlk : ∀ l, (∀ j, l ≠ .k base j) → look (upK base 0 cs) l = none := fun l h => look_upK_other h
  refine .inl ⟨_, w', u1, f', _, hl, hσ, hs.updS hl hσ (fun i hi => ?_) (fun l q hq => ?_) (fun i h hi => .inl (by simpa [delsE] using hi)) ⟨E1, L1, m1, fun x => by simp [delsE, m2], Ents.mono hl hσ (fun i h hi => ?_) m3, hw⟩, ⟨b, vs, et, (0, 0), s0, by rw [hc.len]; exact hcl, rfl, hf⟩⟩
  · have : i ≠ base := fun e => hi (.inr ⟨by omega, by simp only [stepW]; omega⟩)
    rw [setR_ne this]
    exact hs.fresh _ fun h => hi (.inl h)
  · cases l with
    | k i j =>
      by_cases hi : i = base
      · subst hi
        rw [look_upK] at hq
        simp only [Nat.zero_le, if_true, Nat.sub_zero, Option.map_eq_some_iff] at hq
        obtain ⟨x, hx, rfl⟩ := hq
        obtain ⟨v, hv, hr⟩ := hc.get j x hx
        exact ⟨vs, v, s0, hv, hr.mono hl hσ⟩
      · rw [hlk _ fun j' e => by injection e with e _; exact hi e] at hq; cases hq
    | _ => rw [hlk _ fun j' e => by cases e] at hq; cases hq
  · cases h with
    | arr e => exact hlk _ fun j e => by cases e
    | grid e => exact hlk _ fun j e => by cases e
    | mp k v => exact hlk _ fun j e => by cases e
    | blk t' m => exact ⟨hlk _ (fun j e => by cases e), fun j => hlk _ (fun j' e => by cases e)⟩
theorem anyProg_does {specs : List (Spec B)} {calls : List (Nat × Nat)} {i : Nat} (htt : ttOk P tt = true) (hS : SpecsOk P specs) (hs : SimF G L0 f0 σ0 M E N f σ ρ w) (hb : ∀ j, base ≤ j → j < base + stepW → ¬ N j) {op : Op} (h : (anyProg tt specs calls i base op).Ran M out rs) :
    Does P ⟨dst, op, ty, pos, after, guard⟩ ρ w (Goal G L0 f0 σ0 M E N base f σ ρ out) := by
  have hbV : ∀ j, base ≤ j → j < base + stepV → ¬ N j := fun j h1 h2 => hb j h1 (by simp only [stepV, stepW] at h2 ⊢; omega)
  have other : (opProg tt base op).Ran M out rs → Does P ⟨dst, op, ty, pos, after, guard⟩ ρ w (Goal G L0 f0 σ0 M E N base f σ ρ out) := opProg_does htt hs hbV
  have call : ∀ (c : Call) (x : Operand), op = .call c → c.callee = .value x → (callee c fun fid ds => match assoc calls i with
      | some s => match nthL specs s with
        | some S => RM.chk (Nat.beq S.fid fid) (callProg S base ds)
        | none => .fail
      | none => .fail).Ran M out rs → Does P ⟨dst, op, ty, pos, after, guard⟩ ρ w (Goal G L0 f0 σ0 M E N base f σ ρ out) := by
    clear h
    intro c x hc hx h
    obtain ⟨cal, cargs, cats⟩ := c
    simp only at hx
    subst hx hc
    have fin : ∀ (fid : Nat) (ds : List (DV B)) (vs : List Value) (rs : List Loc) (cap : List Value), DRels f σ ds (vs ++ cap) → vs = cargs.toList.map (ev ρ) → ev ρ x = .func (.func fid) #[] cap.toArray →
        (match assoc calls i with
      | some s => match nthL specs s with
        | some S => RM.chk (Nat.beq S.fid fid) (callProg S base ds)
        | none => .fail
      | none => .fail : RM B (Out B)).Ran M out rs → Does P ⟨dst, .call ⟨.value x, cargs, cats⟩, ty, pos, after, guard⟩ ρ w (Goal G L0 f0 σ0 M E N base f σ ρ out) := by
      intro fid ds vs rs cap hd hvs hx h
      split at h <;> try exact h.elim
      split at h <;> try exact h.elim
      rename_i s _ S hSs
      obtain ⟨hq, h1⟩ := chk_ran h
      have := Nat.eq_of_beq_eq_true hq
      subst this
      obtain ⟨hH, hok⟩ := hS S (nthL_mem hSs)
      refine .inr (.inr ⟨S.fid, (vs ++ cap).toArray, w, _, run_call hx hok (by subst hvs; simp), callProg_does hH hs hbV (fun i d => DRels.nth hd i d) (by rw [hd.len]; simp) h1, fun v w'' h => h⟩)
    unfold callee at h
    simp only at h
    obtain ⟨cc, rs1, hc, h1⟩ := opd1_ran hs h
    cases cc <;> try exact h1.elim
    case fn0 fid =>
      obtain ⟨ds, rs2, hd, h2⟩ := opds_ran hs h1
      exact fin fid ds _ rs2 [] (by simpa using hd) rfl hc h2
    case fn fid cid n =>
      obtain ⟨ds, rs2, hd, h2⟩ := opds_ran hs h1
      obtain ⟨vals, a1, a2, a3⟩ := hc
      obtain ⟨cs, rs3, hcs, h3⟩ := caps_ran hs a1 (by omega) h2
      rw [List.drop_zero, List.take_of_length_le (by omega)] at hcs
      exact fin fid _ _ rs3 vals (hd.app hcs) rfl a3 h3
  unfold anyProg at h
  split at h
  · split at h
    · rename_i c x hx
      exact call _ _ rfl hx h
    · rename_i c _ hcal
      obtain ⟨cal, args, ats⟩ := c
      have hcal : cal = .builtin .append := hcal
      subst hcal
      split at h
      · rename_i x rest k hxs hk
        cases k with
        | zero => exact rowOp_does htt hs hb h
        | succ k =>
          simp only at h
          split at h <;> try exact h.elim
          rename_i y t t' hts
          have ha : args = #[x, y] := by rw [← Array.toArray_toList (xs := args), hxs]
          have ht : ats = #[t, t'] := by rw [← Array.toArray_toList (xs := ats), hts]
          subst ha ht
          obtain ⟨hq, h1⟩ := chk_ran h
          have := Nat.eq_of_beq_eq_true hq
          subst this
          obtain ⟨cx, rs1, hx, h2⟩ := opd1_ran hs h1
          obtain ⟨cy, rs2, hy, h3⟩ := opd1_ran hs h2
          exact gridApp_does htt hs hb hx hy h3
      · exact other h
    · exact other h
  · split at h
    · exact gridMake_does htt hs hb h
    · exact other h
  · split at h
    · exact hdrLit_does htt hs hbV h
    · exact gridLit_does htt hs hb h
    · exact other h
  · split at h
    · exact allocB_does htt hs hbV h
    · exact other h
  · split at h
    · exact boxB_does hs hbV h
    · exact other h
  · split at h
    · split at h
      · exact view_does htt hs h
      · exact h.elim
    · exact rowOp_does htt hs hb h
    · exact other h
  · exact other h
end
end Hd
set_option linter.unusedVariables false
set_option linter.unusedSimpArgs false
namespace Hd
open Go Hk
class Rd where
  r : Option Nat
def fw [Rd] : Fence := { Fence.wide with round := Rd.r }
def mark (D : Nat) : Deferred := { target := .collected D, args := #[] }
structure AE (n : Nat) (Ds : List Nat) (a : Act) (ρ : Env) : Prop where
  size : a.tmps.size = n
  get : ∀ t, a.tmps.getD t undef = ρ t
  defers : a.defers = Ds.map mark
theorem AE.eval {n : Nat} {Ds : List Nat} {a : Act} {ρ : Env} (h : AE n Ds a ρ) : a.eval = ev ρ := by
  funext x
  cases x with
  | tmp t => exact h.get t
  | const v => rfl
  | global g => rfl
  | func f => rfl
theorem AE.put {n : Nat} {Ds : List Nat} {a : Act} {ρ : Env} (h : AE n Ds a ρ) {d : Nat} (hd : d < n) (v : Value) : AE n Ds (a.put (some d) v) (upd ρ d v) := by
  refine ⟨by simp [Act.put, h.size], fun t => ?_, by simp [Act.put, h.defers]⟩
  have hs := h.size
  have hg := h.get t
  simp only [Act.put, upd, Array.getD_eq_getD_getElem?] at *
  cases hb : Nat.beq t d
  · have hne : d ≠ t := fun e => by subst e; simp at hb
    simp only [cond_false]
    rw [Array.getElem?_setIfInBounds_ne hne]
    exact hg
  · have he : t = d := Nat.eq_of_beq_eq_true hb
    subst he
    simp [hs, hd]
theorem AE.yielded {n : Nat} {Ds : List Nat} {a : Act} {ρ : Env} (h : AE n Ds a ρ) (ops : Array Oper) (j : Nat) : Go.yielded ops a.tmps j = yieldedE ops ρ j := by
  unfold Go.yielded yieldedE
  cases hd : (ops[j]?).bind (·.dst) with
  | none => rfl
  | some d =>
    simp only [Option.bind_some]
    rw [← h.get d]
    simp only [Array.getD_eq_getD_getElem?]
    cases hx : a.tmps[d]? with
    | none => simp [undef]
    | some v => cases v <;> rfl
abbrev EPost := Exit → List Nat → Env → World → Prop
def lift (n : Nat) (Q : EPost) : Exit → Act → World → Prop := fun e a w => ∃ Ds ρ, AE n Ds a ρ ∧ Q e Ds ρ w
def EWp [Rd] (P : Program) (n : Nat) (c : Code) (Q : EPost) (Ds : List Nat) (ρ : Env) (w : World) : Prop := ∀ a, AE n Ds a ρ → c.wpIn fw 0 P (lift n Q) a w
section rules
variable [Rd] {P : Program} {n : Nat} {Q : EPost} {Ds : List Nat} {ρ : Env} {w : World}
omit [Rd] in
theorem lift_mono {n : Nat} {Q Q' : EPost} (h : ∀ e Ds ρ w, Q e Ds ρ w → Q' e Ds ρ w) (e : Exit) (a : Act) (w : World) : lift n Q e a w → lift n Q' e a w :=
  fun ⟨Ds, ρ, ha, hq⟩ => ⟨Ds, ρ, ha, h e Ds ρ w hq⟩
theorem EWp.mono {c : Code} {Q' : EPost} (h : EWp P n c Q Ds ρ w) (hq : ∀ e Ds ρ w, Q e Ds ρ w → Q' e Ds ρ w) : EWp P n c Q' Ds ρ w :=
  fun a ha => wpIn_mono (h a ha) fun e a w => lift_mono hq e a w
theorem ewp_skip (h : Q .normal Ds ρ w) : EWp P n .skip Q Ds ρ w := fun a ha => wpIn_skip ⟨Ds, ρ, ha, h⟩
theorem ewp_exit {id : Nat} (h : Q (.exit id) Ds ρ w) : EWp P n (.exit id) Q Ds ρ w := fun a ha => wpIn_exit ⟨Ds, ρ, ha, h⟩
theorem ewp_ret (h : Q .ret Ds ρ w) : EWp P n .ret Q Ds ρ w := fun a ha => wpIn_ret ⟨Ds, ρ, ha, h⟩
def thenE (K : List Nat → Env → World → Prop) (Q : EPost) : EPost
  | .normal, Ds, ρ, w => K Ds ρ w
  | e, Ds, ρ, w => Q e Ds ρ w
theorem ewp_seq {x y : Code} (h : EWp P n x (thenE (EWp P n y Q) Q) Ds ρ w) : EWp P n (.seq x y) Q Ds ρ w := by
  intro a ha
  refine wpIn_seq (wpIn_mono (h a ha) fun e a w hq => ?_)
  obtain ⟨Ds', ρ', ha', hq'⟩ := hq
  cases e <;> first | exact hq' a ha' | exact ⟨Ds', ρ', ha', hq'⟩
theorem ewp_cond {c : Operand} {x y : Code} (b : Bool) (hc : ev ρ c = .bool b) (ht : b = true → EWp P n x Q Ds ρ w) (hf : b = false → EWp P n y Q Ds ρ w) :
    EWp P n (.cond c x y) Q Ds ρ w := by
  intro a ha
  exact wpIn_cond_split (t := b) (by rw [ha.eval]; exact hc) (fun h => ht h a ha) (fun h => hf h a ha)
def blockE (id : Nat) (Q : EPost) : EPost
  | .exit id', Ds, ρ, w => (cond (Nat.beq id' id) (Q .normal Ds ρ w) (Q (.exit id') Ds ρ w) : Prop)
  | e, Ds, ρ, w => Q e Ds ρ w
theorem ewp_block {id : Nat} {c : Code} (h : EWp P n c (blockE id Q) Ds ρ w) : EWp P n (.block id c) Q Ds ρ w := by
  intro a ha
  refine wpIn_block (wpIn_mono (h a ha) fun e a w hq => ?_)
  obtain ⟨Ds', ρ', ha', hq'⟩ := hq
  cases e with
  | exit id' =>
    simp only [Exit.inBlock, blockE] at *
    by_cases hid : id' = id
    · subst hid; simp at hq' ⊢; exact ⟨Ds', ρ', ha', hq'⟩
    · have : Nat.beq id' id = false := by cases hb : Nat.beq id' id; rfl; exact absurd (Nat.eq_of_beq_eq_true hb) hid
      rw [this] at hq'
      simp [hid]; exact ⟨Ds', ρ', ha', hq'⟩
  | normal => exact ⟨Ds', ρ', ha', hq'⟩
  | goto l => exact ⟨Ds', ρ', ha', hq'⟩
  | ret => exact ⟨Ds', ρ', ha', hq'⟩
  | panic c => exact ⟨Ds', ρ', ha', hq'⟩
  | outgrown => exact ⟨Ds', ρ', ha', hq'⟩
theorem ewp_loop {c : Code} (I : Nat → List Nat → Env → World → Prop) (k : Nat) (h0 : I k Ds ρ w)
    (round : ∀ k Ds ρ w, I k Ds ρ w → EWp P n c (thenE (fun Ds' ρ' w' => ∃ k', k' < k ∧ I k' Ds' ρ' w') Q) Ds ρ w) : EWp P n (.loop c) Q Ds ρ w := by
  intro a ha b kk cs hro hb hr
  have key : ∀ k a Ds ρ w, AE n Ds a ρ → I k Ds ρ w →
      ∃ e a' w', lift n Q e a' w' ∧ ArrivesIn (Machine.fenced P fw) P (lone (b.atR a (.code c :: .inLoop c :: kk)) cs w) b kk cs e a' w' := by
    intro k
    induction k using Nat.strongRecOn with
    | _ k ih =>
      intro a Ds ρ w ha hI
      obtain ⟨e, a₁, w₁, hq, harr⟩ := round k Ds ρ w hI a ha b (.inLoop c :: kk) cs hro hb hr
      obtain ⟨Ds₁, ρ₁, ha₁, hq⟩ := hq
      cases e with
      | normal =>
        obtain ⟨k', hlt, hI₁⟩ := hq
        obtain ⟨e₂, a₂, w₂, hq₂, harr₂⟩ := ih k' hlt a₁ Ds₁ ρ₁ w₁ ha₁ hI₁
        exact ⟨e₂, a₂, w₂, hq₂, .of_steps (StepsIn.trans harr (.one (fenced_calm hb hr rfl) stepR_inLoop)) harr₂⟩
      | exit id => exact ⟨_, a₁, w₁, ⟨Ds₁, ρ₁, ha₁, hq⟩, .pass (x := .inLoop c) rfl (fun _ _ => .inl (by simp)) harr⟩
      | goto l => exact ⟨_, a₁, w₁, ⟨Ds₁, ρ₁, ha₁, hq⟩, .pass (x := .inLoop c) rfl (fun _ _ => .inl (by simp)) harr⟩
      | ret => exact ⟨_, a₁, w₁, ⟨Ds₁, ρ₁, ha₁, hq⟩, .pass (x := .inLoop c) rfl (fun _ _ => .inl (by simp)) harr⟩
      | panic ch => exact ⟨_, a₁, w₁, ⟨Ds₁, ρ₁, ha₁, hq⟩, .pass (x := .inLoop c) rfl (fun _ _ => .inl (by simp)) harr⟩
      | outgrown => exact ⟨_, a₁, w₁, ⟨Ds₁, ρ₁, ha₁, hq⟩, .pass (x := .inLoop c) rfl (fun _ _ => .inl (by simp)) harr⟩
  obtain ⟨e, a', w', hq, harr⟩ := key k a Ds ρ w ha h0
  exact ⟨e, a', w', hq, .of_steps (.one (fenced_calm hb hr rfl) stepR_loop) harr⟩
def outE {σ X : Type} (ct : Ctl σ X) (K : List Nat → Env → World → Prop) (O : X → EPost) : EPost
  | .normal, Ds, ρ, w => K Ds ρ w
  | .exit id, Ds, ρ, w => ∃ y, ct = .out y ∧ O y (.exit id) Ds ρ w
  | .ret, Ds, ρ, w => ∃ y, ct = .out y ∧ O y .ret Ds ρ w
  | _, _, _, _ => False
theorem ewp_forO {c : Code} {α σ X : Type} {body : Nat → α → σ → Option (Ctl σ X)} {xs : List α} {s0 : σ} {fin : Ctl σ X} (I : Nat → σ → List Nat → Env → World → Prop) (hres : forO body 0 xs s0 = some fin) (h0 : I 0 s0 Ds ρ w)
    (hround : ∀ i x s ct Ds ρ w, xs[i]? = some x → body i x s = some ct → I i s Ds ρ w →
      EWp P n c (outE ct (fun Ds' ρ' w' => ∃ s', ct = .go s' ∧ I (i + 1) s' Ds' ρ' w') (fun y e Ds' ρ' w' => fin = .out y → Q e Ds' ρ' w')) Ds ρ w)
    (hend : ∀ s Ds ρ w, fin = .go s → I xs.length s Ds ρ w → EWp P n c (thenE (fun _ _ _ => False) Q) Ds ρ w) : EWp P n (.loop c) Q Ds ρ w := by
  refine ewp_loop (fun k Ds ρ w => ∃ i s, k = xs.length - i ∧ i ≤ xs.length ∧ forO body i (xs.drop i) s = some fin ∧ I i s Ds ρ w) xs.length ⟨0, s0, by simp, by simp, by simpa using hres, h0⟩ ?_
  rintro k Ds ρ w ⟨i, s, rfl, hi, hf, hI⟩
  by_cases hlt : i < xs.length
  · have hd : xs.drop i = xs[i] :: xs.drop (i + 1) := List.drop_eq_getElem_cons hlt
    rw [hd] at hf
    simp only [forO] at hf
    obtain ⟨ct, hb, hf⟩ := bind_some hf
    refine (hround i xs[i] s ct Ds ρ w (List.getElem?_eq_getElem hlt) hb hI).mono fun e Ds' ρ' w' hq => ?_
    cases e with
    | normal =>
      obtain ⟨s', rfl, hI'⟩ := hq
      exact ⟨xs.length - (i + 1), by omega, i + 1, s', rfl, hlt, hf, hI'⟩
    | exit id => obtain ⟨y, rfl, hq⟩ := hq; exact hq (Option.some.inj hf).symm
    | goto l => exact hq.elim
    | ret => obtain ⟨y, rfl, hq⟩ := hq; exact hq (Option.some.inj hf).symm
    | panic ch => exact hq.elim
    | outgrown => exact hq.elim
  · have he : i = xs.length := by omega
    subst he
    rw [List.drop_length] at hf
    simp only [forO, Option.some.injEq] at hf
    refine (hend s Ds ρ w hf.symm hI).mono fun e Ds' ρ' w' hq => ?_
    cases e <;> first | exact hq.elim | exact hq
end rules
theorem semAt_run {P : Program} {r : Option Nat} {o : Oper} {ρ : Env} {w w' : World} {x : Next} (hr : (execOp (ev ρ) o).run P w = .ok x w') (hx : ∀ d, x ≠ .defer d) : (o.semAt r (ev ρ)).run P w = .ok x w' := by
  cases r with
  | none => exact hr
  | some l =>
    rw [Oper.semAt_eq]
    · exact hr
    · intro c hc
      unfold execOp at hr
      rw [hc] at hr
      simp only [Sem.run_bind] at hr
      cases hd : (resolve (ev ρ) c o.type).run P w with
      | ok d w1 => rw [hd] at hr; simp only [Result.andThen_ok, Sem.run_pure] at hr; injection hr with h1 _; exact hx _ h1.symm
      | halt h w1 => rw [hd] at hr; cases hr
def wpListIn (F : Fence) (n : Nat) (P : Program) (ops : Array Oper) (Q : Exit → Act → World → Prop) : List Oper → Act → World → Prop
  | [], a, w => Q .normal a w
  | o :: rest, a, w => if Region.wanted o (yielded ops a.tmps) then o.wpIn F n P a w (wpListIn F n P ops Q rest) Q else (∀ f, o.about P w a.eval = some f → F.fn f) ∧ wpListIn F n P ops Q rest (a.put o.dst undef) w
theorem wpOps_of_list {F : Fence} {n : Nat} {P : Program} {ops : Array Oper} {Q : Exit → Act → World → Prop} : ∀ {l : List Oper} {i : Nat} {a : Act} {w : World}, ops.toList.drop i = l → wpListIn F n P ops Q l a w → wpOpsIn F n P ops Q (List.range' i l.length) a w
  | [], i, a, w, _, h => h
  | o :: l, i, a, w, hd, h => by
    have hlt : i < ops.toList.length := Nat.lt_of_not_le fun hge => by rw [List.drop_eq_nil_of_le hge] at hd; cases hd
    rw [List.drop_eq_getElem_cons hlt] at hd
    injection hd with h1 h2
    have ho : ops[i]? = some o := by rw [← Array.getElem?_toList, List.getElem?_eq_getElem hlt, h1]
    rw [List.length_cons, List.range'_succ, wpOpsIn_cons]
    unfold wpOpIn
    rw [ho]
    unfold wpListIn at h
    simp only
    split
    · rename_i hw
      rw [if_pos hw] at h
      exact Oper.wpIn_mono (fun a w => wpOps_of_list h2) h
    · rename_i hw
      rw [if_neg hw] at h
      exact ⟨h.1, wpOps_of_list h2 h.2⟩
def EL [Rd] (P : Program) (n : Nat) (ops : Array Oper) (Q : EPost) (l : List Oper) (Ds : List Nat) (ρ : Env) (w : World) : Prop := ∀ a, AE n Ds a ρ → wpListIn fw 0 P ops (lift n Q) l a w
section region
variable [Rd] {P : Program} {n : Nat} {ops : Array Oper} {Q : EPost} {Ds : List Nat} {ρ : Env} {w : World} {rest : List Oper} {o : Oper}
theorem ewp_region {id : Nat} {l : List Oper} (h : EL P n l.toArray Q l Ds ρ w) : EWp P n (.region id l.toArray false) Q Ds ρ w :=
  fun a ha => wpIn_region (by
    have := wpOps_of_list (i := 0) (l := l) (ops := l.toArray) (by simp) (h a ha)
    rw [List.range_eq_range']
    simpa using this)
theorem el_nil (h : Q .normal Ds ρ w) : EL P n ops Q [] Ds ρ w := fun a ha => ⟨Ds, ρ, ha, h⟩
theorem el_go {x : Next} {w' : World} (hg : Region.wanted o (yieldedE ops ρ) = true) (hr : (execOp (ev ρ) o).run P w = .ok x w') (hx : ∀ d, x ≠ .defer d)
    (h : ∀ a, AE n Ds a ρ → o.uponIn fw 0 P a (wpListIn fw 0 P ops (lift n Q) rest) (lift n Q) (.ok x w')) : EL P n ops Q (o :: rest) Ds ρ w := by
  intro a ha
  unfold wpListIn
  have hy : Go.yielded ops a.tmps = yieldedE ops ρ := funext fun j => ha.yielded ops j
  rw [hy, if_pos hg]
  refine ⟨fun _ _ => trivial, ?_⟩
  rw [ha.eval, semAt_run hr hx]
  exact h a ha
theorem el_val {d : Nat} {v : Value} {w' : World} (hg : Region.wanted o (yieldedE ops ρ) = true) (hd : o.dst = some d) (hlt : Nat.blt d n = true)
    (hr : (execOp (ev ρ) o).run P w = .ok (.value v) w') (h : EL P n ops Q rest Ds (upd ρ d v) w') : EL P n ops Q (o :: rest) Ds ρ w :=
  el_go hg hr (fun _ e => by cases e) fun a ha => by
    show wpListIn _ _ _ _ _ _ (a.put o.dst v) w'
    rw [hd]
    exact h _ (ha.put (by simpa [Nat.blt_eq] using hlt) v)
theorem el_unit {w' : World} (hg : Region.wanted o (yieldedE ops ρ) = true) (hd : o.dst = none)
    (hr : (execOp (ev ρ) o).run P w = .ok .skip w') (h : EL P n ops Q rest Ds ρ w') : EL P n ops Q (o :: rest) Ds ρ w :=
  el_go hg hr (fun _ e => by cases e) fun a ha => by
    show wpListIn _ _ _ _ _ _ (a.put o.dst undef) w'
    rw [hd]
    exact h _ ha
theorem el_pass {d : Nat} (hg : Region.wanted o (yieldedE ops ρ) = false) (hd : o.dst = some d) (hlt : Nat.blt d n = true)
    (h : EL P n ops Q rest Ds (upd ρ d undef) w) : EL P n ops Q (o :: rest) Ds ρ w := by
  intro a ha
  unfold wpListIn
  have hy : Go.yielded ops a.tmps = yieldedE ops ρ := funext fun j => ha.yielded ops j
  rw [hy, if_neg (by simp [hg]), hd]
  exact ⟨fun _ _ => trivial, h _ (ha.put (by simpa [Nat.blt_eq] using hlt) undef)⟩
theorem calls_fw {f : FuncId} {args : Array Value} {R R' : Ending → World → Prop} (hc : Calls P f args w R) (hr : ∀ e w', R e w' → R' e w') : CallsIn fw 0 P f args w R' :=
  ((callsIn_wide (n := 0)).2 (hc.mono hr) : CallsIn Fence.wide 0 P f args w R')
theorem el_call {f : FuncId} {args : Array Value} {w' : World} {R : Value → World → Prop} (hg : Region.wanted o (yieldedE ops ρ) = true) (hlt : ∀ d, o.dst = some d → d < n)
    (hr : (execOp (ev ρ) o).run P w = .ok (.enter f args) w') (hc : Calls P f args w' (Returns R))
    (h : ∀ v w'', R v w'' → ∃ d, o.dst = some d ∧ EL P n ops Q rest Ds (upd ρ d v) w'') : EL P n ops Q (o :: rest) Ds ρ w :=
  el_go hg hr (fun _ e => by cases e) fun a ha => by
    refine ⟨fun h => (by cases h), calls_fw hc fun e w'' hq => ?_⟩
    obtain ⟨v, rfl, hR⟩ := hq
    obtain ⟨d, hd, hK⟩ := h v w'' hR
    show wpListIn _ _ _ _ _ _ (a.put o.dst v) w''
    rw [hd]
    exact hK _ (ha.put (hlt d hd) v)
end region
def EY [Rd] (P : Program) (n : Nat) (ops : Array Oper) (Q : EPost) (fuel : Nat) (listed : Array Bool) (Ds : List Nat) (ρ : Env) (w : World) : Prop :=
  ∀ a, AE n Ds a ρ → wpAnyIn fw 0 P .any ops (lift n Q) fuel listed a w
def EOp [Rd] (P : Program) (n : Nat) (ops : Array Oper) (i : Nat) (K : Env → World → Prop) (Ds : List Nat) (ρ : Env) (w : World) : Prop :=
  ∀ (Q : Exit → Act → World → Prop) a, AE n Ds a ρ → wpOpIn fw 0 P ops Q i (fun a' w' => ∃ ρ', AE n Ds a' ρ' ∧ K ρ' w') a w
section op
variable [Rd] {P : Program} {n : Nat} {ops : Array Oper} {Ds : List Nat} {ρ : Env} {w : World} {i : Nat} {o : Oper} {K : Env → World → Prop}
theorem eo_go {x : Next} {w' : World} (hi : ops[i]? = some o) (hg : Region.wanted o (yieldedE ops ρ) = true) (hr : (execOp (ev ρ) o).run P w = .ok x w') (hx : ∀ d, x ≠ .defer d)
    (h : ∀ (Q : Exit → Act → World → Prop) a, AE n Ds a ρ → o.uponIn fw 0 P a (fun a' w' => ∃ ρ', AE n Ds a' ρ' ∧ K ρ' w') Q (.ok x w')) : EOp P n ops i K Ds ρ w := by
  intro Q a ha
  unfold wpOpIn
  have hy : Go.yielded ops a.tmps = yieldedE ops ρ := funext fun j => ha.yielded ops j
  rw [hi]
  simp only
  rw [hy, if_pos hg]
  refine ⟨fun _ _ => trivial, ?_⟩
  rw [ha.eval, semAt_run hr hx]
  exact h Q a ha
theorem eo_val {d : Nat} {v : Value} {w' : World} (hi : ops[i]? = some o) (hg : Region.wanted o (yieldedE ops ρ) = true) (hd : o.dst = some d) (hlt : Nat.blt d n = true)
    (hr : (execOp (ev ρ) o).run P w = .ok (.value v) w') (h : K (upd ρ d v) w') : EOp P n ops i K Ds ρ w :=
  eo_go hi hg hr (fun _ e => by cases e) fun Q a ha => by
    show ∃ ρ', AE n Ds (a.put o.dst v) ρ' ∧ K ρ' w'
    rw [hd]
    exact ⟨_, ha.put (by simpa [Nat.blt_eq] using hlt) v, h⟩
theorem eo_unit {w' : World} (hi : ops[i]? = some o) (hg : Region.wanted o (yieldedE ops ρ) = true) (hd : o.dst = none)
    (hr : (execOp (ev ρ) o).run P w = .ok .skip w') (h : K ρ w') : EOp P n ops i K Ds ρ w :=
  eo_go hi hg hr (fun _ e => by cases e) fun Q a ha => by
    show ∃ ρ', AE n Ds (a.put o.dst undef) ρ' ∧ K ρ' w'
    rw [hd]
    exact ⟨ρ, ha, h⟩
theorem eo_pass {d : Nat} (hi : ops[i]? = some o) (hg : Region.wanted o (yieldedE ops ρ) = false) (hd : o.dst = some d) (hlt : Nat.blt d n = true)
    (h : K (upd ρ d undef) w) : EOp P n ops i K Ds ρ w := by
  intro Q a ha
  unfold wpOpIn
  have hy : Go.yielded ops a.tmps = yieldedE ops ρ := funext fun j => ha.yielded ops j
  rw [hi]
  simp only
  rw [hy, if_neg (by simp [hg]), hd]
  exact ⟨fun _ _ => trivial, _, ha.put (by simpa [Nat.blt_eq] using hlt) undef, h⟩
theorem eo_call {f : FuncId} {args : Array Value} {w' : World} {R : Value → World → Prop} (hi : ops[i]? = some o) (hg : Region.wanted o (yieldedE ops ρ) = true) (hlt : ∀ d, o.dst = some d → d < n)
    (hr : (execOp (ev ρ) o).run P w = .ok (.enter f args) w') (hc : Calls P f args w' (Returns R))
    (h : ∀ v w'', R v w'' → ∃ d, o.dst = some d ∧ K (upd ρ d v) w'') : EOp P n ops i K Ds ρ w :=
  eo_go hi hg hr (fun _ e => by cases e) fun Q a ha => by
    refine ⟨fun h => (by cases h), calls_fw hc fun e w'' hq => ?_⟩
    obtain ⟨v, rfl, hR⟩ := hq
    obtain ⟨d, hd, hK⟩ := h v w'' hR
    show ∃ ρ', AE n Ds (a.put o.dst v) ρ' ∧ K ρ' w''
    rw [hd]
    exact ⟨_, ha.put (hlt d hd) v, hK⟩
end op
def Mks (Ds : List Nat) : HProp := ⟨fun _ h S => Ds.Nodup ∧ ∀ D ∈ Ds, S D ∧ h D = some (.deferred (some [])), fun ⟨h1, h2⟩ hs => ⟨h1, fun D hD => ⟨(h2 D hD).1, (hs _ (h2 D hD).1).trans (h2 D hD).2⟩⟩, fun _ h => h⟩
def Held (Ds : List Nat) (w : World) : Prop := Ds.Nodup ∧ ∀ D ∈ Ds, w.heap[D]? = some (.deferred (some []))
def shut : List Nat → World → World
  | [], w => w
  | D :: Ds, w => shut Ds (w.putObj D (.deferred none))
theorem shut_facts : ∀ (Ds : List Nat) (w : World), (shut Ds w).os = w.os ∧ (shut Ds w).tape = w.tape ∧ (shut Ds w).output = w.output ∧ ∀ b, b ∉ Ds → wh (shut Ds w) b = wh w b
  | [], w => ⟨rfl, rfl, rfl, fun _ _ => rfl⟩
  | D :: Ds, w => by
    obtain ⟨h1, h2, h3, h4⟩ := shut_facts Ds (w.putObj D (.deferred none))
    refine ⟨h1, h2, h3, fun b hb => ?_⟩
    have hn : b ∉ Ds ∧ b ≠ D := ⟨fun h => hb (List.mem_cons_of_mem _ h), fun h => hb (h ▸ List.mem_cons_self)⟩
    exact (h4 b hn.1).trans (World.putObj_heap_other hn.2)
theorem held_cons {D : Nat} {Ds : List Nat} {w : World} (h : Held (D :: Ds) w) : w.heap[D]? = some (.deferred (some [])) ∧ Held Ds (w.putObj D (.deferred none)) := by
  obtain ⟨h1, h2⟩ := h
  obtain ⟨h3, h4⟩ := List.nodup_cons.1 h1
  exact ⟨h2 D (by simp), h4, fun D' hD' => (World.putObj_heap_other (fun e => by subst e; exact h3 hD')).trans (h2 D' (by simp [hD']))⟩
theorem wd_shut {G w : World} {f : HP} {L : List HProp} {Ds : List Nat} (h : Wd G w f (Mks Ds :: L)) : Held Ds w ∧ Wd G (shut Ds w) f L := by
  obtain ⟨S, ⟨h1, h2⟩, h3, h4⟩ := h.sep
  obtain ⟨e1, e2, e3, e4⟩ := shut_facts Ds w
  refine ⟨⟨h1, fun D hD => (h2 D hD).2⟩, ⟨e1.trans h.os, e2.trans h.tape, e3.trans h.output, fun b o hb => ?_, ?_⟩⟩
  · by_cases hD : b ∈ Ds
    · have : f b = none := (h3 b (h2 b hD).1).1
      rw [hb] at this; cases this
    · rw [e4 b hD]; exact h.fro b o hb
  · refine h4.keep' (fun b hb _ => e4 b fun hD => hb.2 (h2 b hD).1) fun b hb _ => hb.1
theorem wd_mk0 {G w : World} {f : HP} {L : List HProp} (h : Wd G w f L) : Wd G w f (Mks [] :: L) :=
  ⟨h.os, h.tape, h.output, h.fro, fun _ => False, ⟨by simp, by simp⟩, fun _ h => h.elim, SepL.weaken (fun b hb => ⟨hb, fun h => h⟩) h.sep⟩
theorem sep_mkIn {f h : HP} : ∀ {L1 L : List HProp} {av : Foot}, SepL f h (L1 ++ L) av → SepL f h (L1 ++ (Mks [] :: L)) av
  | [], L, av, hs => ⟨fun _ => False, ⟨by simp, by simp⟩, fun _ h => h.elim, SepL.weaken (fun b hb => ⟨hb, fun h => h⟩) hs⟩
  | A :: L1, L, av, ⟨S, h1, h2, h3⟩ => ⟨S, h1, h2, sep_mkIn h3⟩
theorem wd_mkIn {G w : World} {f : HP} {L1 L : List HProp} (h : Wd G w f (L1 ++ L)) : Wd G w f (L1 ++ (Mks [] :: L)) := ⟨h.os, h.tape, h.output, h.fro, sep_mkIn h.sep⟩
def RetPost (P : Program) (fn : Func) (R : Value → World → Prop) : EPost
  | .normal, Ds, ρ, w => Held Ds w ∧ ∃ v, ResIs P fn ρ (shut Ds w) v ∧ R v (shut Ds w)
  | .ret, Ds, ρ, w => Held Ds w ∧ ∃ v, ResIs P fn ρ (shut Ds w) v ∧ R v (shut Ds w)
  | _, _, _, _ => False
theorem leaves_marks {P : Program} {F : Fence} {n : Nat} {fn : Func} {tmps : Array Value} {R : Value → World → Prop} : ∀ {Ds : List Nat} {w : World}, Held Ds w → (∃ v, (results fn tmps).run P (shut Ds w) = .ok v (shut Ds w) ∧ R v (shut Ds w)) →
    LeavesInM F n P fn tmps (Returns R) (Ds.map mark) .returning w
  | [], w, _, ⟨v, h1, h2⟩ => ⟨v, h1, v, rfl, h2⟩
  | D :: Ds, w, hh, h => by
    obtain ⟨h1, h2⟩ := held_cons hh
    exact ⟨by simp, .inl ⟨D, _, rfl, run_takeDeferred h1, leaves_marks h2 h⟩⟩
theorem ecalls {P : Program} {f : FuncId} {fn : Func} {c : Code} {args : Array Value} {w : World} {R : Value → World → Prop} (n : Nat)
    (hf : P.funcs[f]? = some fn) (hb : fn.body = some c) (hn : args.size + (fn.ntmps - args.size) = n)
    (h : @EWp ⟨none⟩ P n c (RetPost P fn R) [] (fun t => args.getD t undef) w) : Calls P f args w (Returns R) := by
  refine (callsIn_wide (n := 0)).1 (callsIn_of_wp_marks hf hb trivial ?_)
  refine wpIn_mono (h ⟨_, _⟩ ⟨by simpa using hn, fun t => ?_, rfl⟩) fun e a w hq => ?_
  · simp only [Array.getD_eq_getD_getElem?, Array.getElem?_append]
    split
    · rfl
    · rename_i hlt
      simp only [Array.getElem?_replicate]
      have : args[t]? = none := by simp; omega
      rw [this]
      split <;> rfl
  · obtain ⟨Ds, ρ, ha, hq⟩ := hq
    cases e with
    | normal => obtain ⟨hh, v, hr, hR⟩ := hq; show LeavesInM _ _ _ _ _ _ a.defers _ _; rw [ha.defers]; exact leaves_marks hh ⟨v, hr a.tmps ha.get, hR⟩
    | ret => obtain ⟨hh, v, hr, hR⟩ := hq; show LeavesInM _ _ _ _ _ _ a.defers _ _; rw [ha.defers]; exact leaves_marks hh ⟨v, hr a.tmps ha.get, hR⟩
    | exit id => exact hq.elim
    | goto l => exact hq.elim
    | panic c => exact hq.elim
    | outgrown => exact hq.elim
end Hd
set_option linter.unusedVariables false
set_option linter.unusedSimpArgs false
namespace Hd
open Go Hk
section
variable {G w : World} {f h : HP} {L L' : List HProp}
theorem sepL_perm (hp : L.Perm L') : ∀ {av : Foot}, SepL f h L av → SepL f h L' av := by
  induction hp with
  | nil => exact fun h => h
  | cons x _ ih => exact fun h => SepL.cons (fun _ => ih) h
  | swap x y l => exact fun h => SepL.swap h
  | trans _ _ h1 h2 => exact fun h => h2 (h1 h)
theorem wd_perm (hp : L.Perm L') (h : Wd G w f L) : Wd G w f L' := ⟨h.os, h.tape, h.output, h.fro, sepL_perm hp h.sep⟩
theorem wd_putB {b : Nat} {o o' : Obj} (h : Wd G w f (Blk b o :: L)) : Wd G (w.putObj b o') f (Blk b o' :: L) := by
  refine h.step0 (A' := Blk b o') rfl rfl rfl fun S hS _ => ⟨fun x => x = b, ⟨rfl, ?_⟩, ?_, ?_⟩
  · exact World.putObj_heap_same (Array.getElem?_eq_some_iff.1 hS.2).1
  · rintro x rfl
    exact ⟨.inl hS.1, by rw [show wh (w.putObj x o') x = some o' from World.putObj_heap_same (Array.getElem?_eq_some_iff.1 hS.2).1]; simp⟩
  · intro x hx _
    exact World.putObj_heap_other fun e => hx (e ▸ hS.1)
theorem wd_getB {b : Nat} {o : Obj} (h : Wd G w f (Blk b o :: L)) : w.heap[b]? = some o := wd_blk 0 h rfl
theorem wd_mks {D : Nat} {Ds : List Nat} (h : Wd G w f (Blk D (.deferred (some [])) :: Mks Ds :: L)) : Wd G w f (Mks (D :: Ds) :: L) := by
  obtain ⟨S1, ⟨a1, a2⟩, a3, S2, ⟨b1, b2⟩, b3, h3⟩ := h.sep
  refine ⟨h.os, h.tape, h.output, h.fro, fun b => S1 b ∨ S2 b, ⟨List.nodup_cons.2 ⟨fun hD => (b3 D (b2 D hD).1).1.2 a1, b1⟩, fun D' hD' => ?_⟩, fun b hb => ?_, SepL.weaken (fun b hb => ⟨hb.1.1, fun h => h.elim hb.1.2 hb.2⟩) h3⟩
  · rcases List.mem_cons.1 hD' with rfl | hD'
    · exact ⟨.inl a1, a2⟩
    · exact ⟨.inr (b2 D' hD').1, (b2 D' hD').2⟩
  · rcases hb with hb | hb
    · exact a3 b hb
    · exact ⟨(b3 b hb).1.1, (b3 b hb).2⟩
end
def bindE : List Tmp → List Value → Env → Env
  | p :: ps, v :: vs, ρ => bindE ps vs (upd ρ p v)
  | _, _, ρ => ρ
def psLow (n : Nat) : List Tmp → Bool
  | [] => true
  | p :: ps => match Nat.blt p n with | true => psLow n ps | false => false
theorem ae_bind {n : Nat} : ∀ {ps : List Tmp} {vs : List Value} {tmps : Array Value} {ρ : Env}, psLow n ps = true → AE n [] { tmps := tmps, defers := [] } ρ →
    AE n [] { tmps := (ps.zip vs).foldl (fun t (x : Tmp × Value) => t.setIfInBounds x.1 x.2) tmps, defers := [] } (bindE ps vs ρ)
  | [], vs, tmps, ρ, _, h => by cases vs <;> exact h
  | p :: ps, [], tmps, ρ, _, h => h
  | p :: ps, v :: vs, tmps, ρ, hl, h => by
    unfold psLow at hl
    cases hb : Nat.blt p n with
    | false => rw [hb] at hl; cases hl
    | true =>
      rw [hb] at hl
      have := h.put (d := p) (by simpa [Nat.blt_eq] using hb) v
      exact ae_bind (ps := ps) (vs := vs) hl this
def IterOk (P : Program) (gf : FuncId) (lb : Array Value) (f0 : HP) (vss : List (List Value)) : Prop :=
  ∀ (l : Nat) (G w : World) (f : HP) (L : List HProp) (J : Nat → HP → List HProp → Prop) (X : HP → List HProp → Prop), HP.le f0 f → Wd G w f L → J 0 f L →
    (∀ i v w f1 f L L', vss[i]? = some v → HP.le f0 f1 → J i f1 L → HP.le f1 f → Wd G w f (L' ++ L) →
      YieldAt (@fw ⟨none⟩) 0 P l v.toArray w fun e w' => ∃ f' Ln, HP.le f f' ∧ Wd G w' f' (L' ++ Ln) ∧ ((e = .returned (.bool true) ∧ J (i + 1) f' Ln) ∨ (e = .returned (.bool false) ∧ X f' Ln))) →
    Calls P gf (#[.func (.yield l) #[] #[]] ++ lb) w (Returns fun _ w' => ∃ f1 f' L', HP.le f0 f1 ∧ HP.le f1 f' ∧ Wd G w' f' L' ∧ (J vss.length f1 L' ∨ X f1 L'))
def RdPost (G : World) (f0 f : HP) (L' : List HProp) (J : Nat → HP → List HProp → Prop) (X : Code → HP → List HProp → Prop) (i : Nat) (l D : Nat) (rec : Obj) : EPost
  | .normal, _, _, w' => ∃ f' Ln, HP.le f f' ∧ J (i + 1) f' Ln ∧ Wd G w' f' (Blk l rec :: Blk D (.deferred (some [])) :: (L' ++ Ln))
  | .exit id, _, _, w' => ∃ f' Ln, HP.le f f' ∧ X (.exit id) f' Ln ∧ Wd G w' f' (Blk l rec :: Blk D (.deferred (some [])) :: (L' ++ Ln))
  | .ret, _, _, w' => ∃ f' Ln, HP.le f f' ∧ X .ret f' Ln ∧ Wd G w' f' (Blk l rec :: Blk D (.deferred (some [])) :: (L' ++ Ln))
  | _, _, _, _ => False
theorem ewp_rangeFunc {P : Program} {n : Nat} {Q : EPost} {Ds : List Nat} {ρ : Env} {w : World} {g : Operand} {ps : Array Tmp} {assign body : Code} {gf : FuncId} {lb : Array Value} {vss : List (List Value)} {f0 f : HP} {G : World} {L : List HProp}
    (hg : ev ρ g = .func (.func gf) #[] lb) (eg : ∀ args w, (callFunc gf args).run P w = .ok (.enter gf args) w) (hps : ∀ v ∈ vss, v.length = ps.size) (hlow : psLow n ps.toList = true)
    (hit : IterOk P gf lb f0 vss) (hf0 : HP.le f0 f) (hw : Wd G w f L) (J : Nat → HP → List HProp → Prop) (X : Code → HP → List HProp → Prop) (hJ0 : J 0 f L)
    (hround : ∀ (l D : Nat) (rec rec' : Obj) i v w f1 f L1 L', vss[i]? = some v → HP.le f0 f1 → J i f1 L1 → HP.le f1 f → Wd G w f (Blk l rec :: Blk D (.deferred (some [])) :: (L' ++ L1)) →
      @EWp ⟨some l⟩ P n assign (fun e Ds' ρ' w' => e = .normal ∧ ∃ f2 Lr, HP.le f f2 ∧ Wd G w' f2 (Blk l rec :: Lr) ∧ ∀ w'', Wd G w'' f2 (Blk l rec' :: Lr) → @EWp ⟨some l⟩ P n body (RdPost G f0 f L' J X i l D rec') Ds' ρ' w'') [] (bindE ps.toList v ρ) w)
    (hdone : ∀ D f1 f' Ln w', HP.le f0 f1 → J vss.length f1 Ln → HP.le f1 f' → Wd G w' f' (Blk D (.deferred (some [])) :: Ln) → Q .normal (D :: Ds) ρ w')
    (hstop : ∀ c D f1 f' Ln w', HP.le f0 f1 → X c f1 Ln → HP.le f1 f' → Wd G w' f' (Blk D (.deferred (some [])) :: Ln) → @EWp ⟨none⟩ P n c Q (D :: Ds) ρ w') :
    @EWp ⟨none⟩ P n (.rangeFunc g ps assign body) Q Ds ρ w := by
  intro a ha
  refine wpIn_rangeFunc ?_
  intro fn hfn
  obtain ⟨rec, hrec⟩ : ∃ rec : LoopState → Option Code → Loop, rec = fun st pe => { state := st, pending := pe, fn, tmps := a.tmps, params := ps, assign, body, defers := w.heap.size } := ⟨_, rfl⟩
  have hW : Wd G ((w.alloc (.deferred (some []))).alloc (.loop (rec .ready none))) f (Blk (w.heap.size + 1) (.loop (rec .ready none)) :: Blk w.heap.size (.deferred (some [])) :: L) := by
    have h1 := wd_newO (o := .deferred (some [])) hw
    have h2 := wd_newO (o := .loop (rec .ready none)) h1
    rwa [World.size_alloc] at h2
  obtain ⟨W1, hW1⟩ : ∃ W1, (w.alloc (.deferred (some []))).alloc (.loop (rec .ready none)) = W1 := ⟨_, rfl⟩
  rw [hW1] at hW
  obtain ⟨l, hl⟩ : ∃ l, l = w.heap.size + 1 := ⟨_, rfl⟩
  obtain ⟨D, hD⟩ : ∃ D, D = w.heap.size := ⟨_, rfl⟩
  rw [← hl, ← hD] at hW
  have hro : (@fw ⟨none⟩).round = none := rfl
  refine ⟨l, [mark D], W1, { target := .fn (.func gf) lb, args := #[.func (.yield l) #[] #[]] }, W1, gf, #[.func (.yield l) #[] #[]] ++ lb, W1, ?_, ?_, fun _ _ => trivial, ?_, fun h => (by cases h), ?_⟩
  · rw [← hW1, hrec, hl, hD]; exact run_enterLoop_outer _ _ _ _ _
  · simp only [resolve, ha.eval, hg]
    simp [go_sem]
    rfl
  · simp [invoke, go_sem, eg]
  · refine @calls_fw ⟨none⟩ _ _ _ _ _ _ (hit l G W1 f _ (fun i f1 L => ∃ Lu, L = Blk l (.loop (rec .ready none)) :: Blk D (.deferred (some [])) :: Lu ∧ J i f1 Lu)
      (fun f1 L => ∃ c Lu, L = Blk l (.loop (rec .done (some c))) :: Blk D (.deferred (some [])) :: Lu ∧ X c f1 Lu) hf0 hW ⟨L, rfl, hJ0⟩ ?_) ?_
    · rintro i v w2 f1 f2 L2 L' hv hf1 ⟨Lu, rfl, hJ⟩ hle hw2
      have hpm : Wd G w2 f2 (Blk l (.loop (rec .ready none)) :: Blk D (.deferred (some [])) :: (L' ++ Lu)) :=
        wd_perm (List.perm_middle.trans (List.Perm.cons _ List.perm_middle)) hw2
      have hl2 := wd_getB hpm
      have hy := run_yield (P := P) (args := v.toArray) hl2 (by rw [hrec]; simpa using hps v (List.mem_of_getElem? hv))
      rw [hrec] at hy
      refine ⟨fn, _, assign, body, hy, ?_⟩
      refine roundIn_of_wpIn (F := @fw ⟨none⟩) (n := 0) hfn ?_
      have hAE : AE n [] { tmps := (ps.zip v.toArray).foldl (fun t (x : Tmp × Value) => t.setIfInBounds x.1 x.2) a.tmps, defers := [] } (bindE ps.toList v ρ) := by
        have := ae_bind (ps := ps.toList) (vs := v) (tmps := a.tmps) (ρ := ρ) hlow ⟨ha.size, ha.get, rfl⟩
        rw [← Array.foldl_toList, Array.toList_zip]
        exact this
      have hB := hround l D _ (.loop { rec .ready none with state := .busy }) i v w2 f1 f2 Lu L' hv hf1 hJ hle hpm _ hAE
      refine wpIn_mono hB ?_
      rintro e a3 w3 ⟨Ds', ρ', ha3, rfl, f3, Lr, hle3, hw3, hbody⟩
      have hl3 := wd_getB hw3
      refine ⟨_, run_beginRound hl3 (by rw [hrec]), ?_⟩
      refine wpIn_mono (hbody _ (wd_putB hw3) a3 ha3) ?_
      have fin : ∀ (jump : Option Code) (w4 : World) (f4 : HP) (Ln : List HProp), HP.le f2 f4 → Wd G w4 f4 (Blk l (.loop { rec .ready none with state := .busy }) :: Blk D (.deferred (some [])) :: (L' ++ Ln)) →
          (Instr.endRound l jump).run P w4 = .ok (.bool jump.isNone) (w4.putObj l (.loop (rec (if jump.isNone then .ready else .done) jump))) ∧
          Wd G (w4.putObj l (.loop (rec (if jump.isNone then .ready else .done) jump))) f4 (L' ++ (Blk l (.loop (rec (if jump.isNone then .ready else .done) jump)) :: Blk D (.deferred (some [])) :: Ln)) := by
        intro jump w4 f4 Ln h1 h2
        have h3 := run_endRound (P := P) jump (wd_getB h2)
        have h4 := wd_putB (o' := .loop (rec (if jump.isNone then .ready else .done) jump)) h2
        refine ⟨by rw [hrec] at h3 ⊢; exact h3, wd_perm ?_ h4⟩
        exact ((List.Perm.cons _ List.perm_middle.symm).trans List.perm_middle.symm)
      rintro e a4 w4 ⟨Ds4, ρ4, ha4, hq⟩
      cases e with
      | normal =>
        obtain ⟨f4, Ln, g1, g2, g3⟩ := hq
        obtain ⟨g4, g5⟩ := fin none w4 f4 Ln g1 g3
        exact ⟨_, _, g4, f4, _, g1, g5, .inl ⟨rfl, _, rfl, g2⟩⟩
      | ret =>
        obtain ⟨f4, Ln, g1, g2, g3⟩ := hq
        obtain ⟨g4, g5⟩ := fin (some .ret) w4 f4 Ln g1 g3
        exact ⟨_, _, g4, f4, _, g1, g5, .inr ⟨rfl, _, _, rfl, g2⟩⟩
      | exit id =>
        obtain ⟨f4, Ln, g1, g2, g3⟩ := hq
        obtain ⟨g4, g5⟩ := fin (some (.exit id)) w4 f4 Ln g1 g3
        exact ⟨_, _, g4, f4, _, g1, g5, .inr ⟨rfl, _, _, rfl, g2⟩⟩
      | goto t => exact hq.elim
      | panic ch => exact hq.elim
      | outgrown => exact hq.elim
    · rintro e w2 ⟨v, rfl, f1, f2, L2, hf1, hle, hw2, h⟩
      have hAE : ∀ Ds0, Ds0 = D :: Ds → AE n Ds0 { a with defers := [mark D] ++ a.defers } ρ := fun _ h => ⟨ha.size, ha.get, by rw [h]; simp [ha.defers]⟩
      rcases h with ⟨Lu, rfl, hJ⟩ | ⟨c, Lu, rfl, hX⟩
      · have h1 := run_endLoop (P := P) (wd_getB hw2) (by rw [hrec]; simp)
        have hp : (rec .ready none).pending = none := by rw [hrec]
        rw [hp] at h1
        refine ⟨none, _, h1, ?_⟩
        exact ⟨_, ρ, hAE _ rfl, hdone D f1 f2 Lu _ hf1 hJ hle (wd_putB hw2).drop1⟩
      · have h1 := run_endLoop (P := P) (wd_getB hw2) (by rw [hrec]; simp)
        have hp : (rec .done (some c)).pending = some c := by rw [hrec]
        rw [hp] at h1
        refine ⟨some c, _, h1, ?_⟩
        exact hstop c D f1 f2 Lu _ hf1 hX hle (wd_putB hw2).drop1 _ (hAE _ rfl)
theorem el_yield {P : Program} {n : Nat} {ops : Array Oper} {Q : EPost} {Ds : List Nat} {ρ : Env} {w : World} {rest : List Oper} {o : Oper} {l d : Nat} {args : Array Value} {R : Ending → World → Prop}
    (hg : Region.wanted o (yieldedE ops ρ) = true) (hd : o.dst = some d) (hlt : Nat.blt d n = true)
    (hy : YieldAt (@fw ⟨none⟩) 0 P l args w R) (hr : ∀ x, (Instr.yield l args).run P w = .ok x w → (execOp (ev ρ) o).run P w = .ok x w)
    (h : ∀ e w', R e w' → ∃ v, e = .returned v ∧ @EL ⟨none⟩ P n ops Q rest Ds (upd ρ d v) w') : @EL ⟨none⟩ P n ops Q (o :: rest) Ds ρ w := by
  obtain ⟨fn, tmps, assign, body, h1, h2⟩ := hy
  refine @el_go ⟨none⟩ _ _ _ _ _ _ _ _ _ _ _ hg (hr _ h1) (fun _ e => by cases e) fun a ha => ?_
  refine ⟨fun h => (by cases h), h2.mono fun e w' hR => ?_⟩
  obtain ⟨v, rfl, hK⟩ := h e w' hR
  show wpListIn _ _ _ _ _ _ (a.put o.dst v) w'
  rw [hd]
  exact hK _ (ha.put (by simpa [Nat.blt_eq] using hlt) v)
end Hd
set_option linter.unusedVariables false
set_option linter.unusedSimpArgs false
namespace Hd
open Go Hk
structure TrE (B : Tab) where
  um : Mem B
  add : List (Nat × EH)
  del : List Nat
  rs : List Loc
def TrE.row {B : Tab} (i : Nat) (e : TrE B) : Row := ⟨i, e.rs, keysOf e.um ++ idKeys e.add e.del⟩
section
variable {B : Tab} {P : Program} {tt : List (TI B)} {specs : List (Spec B)} {calls : List (Nat × Nat)} {all : List Oper} {base n : Nat} {draw : Bool}
variable {M M' : Loc → Option (Con B)} {G w : World} {L0 : List HProp} {f0 f f' : HP} {σ0 σ σ' : Rz B} {E E0 : List (Nat × EH)} {N : Nat → Prop} {ρ : Env}
def GuardIs (all : List Oper) (o : Oper) (M : Loc → Option (Con B)) (b : Bool) (rs : List Loc) : Prop :=
  (o.guard = none ∧ b = true) ∨ ∃ j want oj d, o.guard = some (j, want) ∧ nthL all j = some oj ∧ oj.dst = some d ∧ Loc.s d ∈ rs ∧
    ((∃ c, M (.s d) = some (.v (.one (.bool c))) ∧ b = (c == want)) ∨ (M (.s d) = some (.v .pas) ∧ b = false))
inductive OpRan (tt : List (TI B)) (specs : List (Spec B)) (calls : List (Nat × Nat)) (all : List Oper) (base : Nat) (i : Nat) (o : Oper) (M : Loc → Option (Con B)) (e : TrE B) : Prop
  | ran (out : Out B) (rs : List Loc) (hg : GuardIs all o M true e.rs) (hr : (anyProg tt specs calls i (base + stepW * i) o.op).Ran M out rs) (hrs : ∀ l, l ∈ rs → l ∈ e.rs)
      (hu : outM o out = some e.um) (ha : e.add = out.add) (hd : e.del = out.del)
  | pass (d : Nat) (hg : GuardIs all o M false e.rs) (hd : o.dst = some d) (hu : e.um = [(.s d, .v .pas)]) (ha : e.add = []) (hx : e.del = [])
theorem GuardIs.congr {o : Oper} {b : Bool} {rs : List Loc} (h : GuardIs all o M b rs) (hl : ∀ l ∈ rs, M' l = M l) : GuardIs all o M' b rs := by
  rcases h with h | ⟨j, want, oj, d, h1, h2, h3, h4, h5⟩
  · exact .inl h
  · exact .inr ⟨j, want, oj, d, h1, h2, h3, h4, by rw [hl _ h4]; exact h5⟩
theorem OpRan.congr {i : Nat} {o : Oper} {e : TrE B} (h : OpRan tt specs calls all base i o M e) (hl : ∀ l ∈ e.rs, M' l = M l) : OpRan tt specs calls all base i o M' e := by
  cases h with
  | ran out rs hg hr hrs hu ha hd => exact .ran out rs (hg.congr hl) (hr.congr fun l h => hl l (hrs l h)) hrs hu ha hd
  | pass d hg hd hu ha hx => exact .pass d (hg.congr hl) hd hu ha hx
def SeqRan (tt : List (TI B)) (specs : List (Spec B)) (calls : List (Nat × Nat)) (all : List Oper) (base : Nat) : List Oper → Nat → (Loc → Option (Con B)) → List (TrE B) → Prop
  | [], _, _, [] => True
  | o :: l, i, M, e :: tr => OpRan tt specs calls all base i o M e ∧ SeqRan tt specs calls all base l (i + 1) (ovl e.um M) tr
  | _, _, _, _ => False
def TrE.act (e : TrE B) (E : List (Nat × EH)) : List (Nat × EH) := delsE (e.add ++ E) e.del
def memSeq : List (TrE B) → (Loc → Option (Con B)) → Loc → Option (Con B)
  | [], M => M
  | e :: tr, M => memSeq tr (ovl e.um M)
def entSeq : List (TrE B) → List (Nat × EH) → List (Nat × EH)
  | [], E => E
  | e :: tr, E => entSeq tr (e.act E)
def rowsR : Nat → List (TrE B) → List Row → List Row
  | _, [], rows => rows
  | i, e :: tr, rows => rowsR (i + 1) tr (e.row i :: rows)
theorem guardOf_is {o : Oper} {b : Bool} {gs : List Loc} (h : guardOf M all o = some (b, gs)) : GuardIs all o M b gs := by
  unfold guardOf at h
  cases hg : o.guard with
  | none => rw [hg] at h; injection h with h; injection h with h1 h2; exact .inl ⟨hg, h1.symm⟩
  | some q =>
    obtain ⟨j, want⟩ := q
    rw [hg] at h
    simp only at h
    right
    split at h <;> try contradiction
    rename_i oj hoj
    split at h <;> try contradiction
    rename_i d hd
    split at h <;> try contradiction
    · rename_i c hc
      cases c <;> cases want <;> simp only [Option.some.injEq, Prod.mk.injEq] at h <;> obtain ⟨h1, h2⟩ := h <;> subst h1 h2 <;> exact ⟨j, _, oj, d, hg, hoj, hd, by simp, .inl ⟨_, hc, by rfl⟩⟩
    · rename_i hc
      simp only [Option.some.injEq, Prod.mk.injEq] at h
      obtain ⟨h1, h2⟩ := h
      subst h1 h2
      exact ⟨j, want, oj, d, hg, hoj, hd, by simp, .inr ⟨hc, rfl⟩⟩
theorem GuardIs.more {o : Oper} {b : Bool} {rs rs' : List Loc} (h : GuardIs all o M b rs) (hl : ∀ l ∈ rs, l ∈ rs') : GuardIs all o M b rs' := by
  rcases h with h | ⟨j, want, oj, d, h1, h2, h3, h4, h5⟩
  · exact .inl h
  · exact .inr ⟨j, want, oj, d, h1, h2, h3, hl _ h4, h5⟩
theorem lkS_up (a0 fr um m : Mem B) : lkS a0 fr (um ++ m) = ovl um (lkS a0 fr m) := by rw [lkS_ovl, lkS_ovl, ovl_app]
theorem runOp_ran {a0 fr m : Mem B} {o : Oper} {i : Nat} {gd : Bool} {rows : List Row} {gs : List Loc} {α : Type} {k : Mem B → List (Nat × EH) → List Row → Option α} {r : α}
    (hg : GuardIs all o (lkS a0 fr m) true gs) (h : runOp tt specs calls a0 fr draw base o i gd m E rows gs k = some r) :
    ∃ (e : TrE B) (m' : Mem B) (rows' : List Row), OpRan tt specs calls all base i o (lkS a0 fr m) e ∧ k m' (e.act E) rows' = some r ∧ lkS a0 fr m' = ovl e.um (lkS a0 fr m) ∧ (draw = true → rows' = e.row i :: rows) := by
  unfold runOp at h
  obtain ⟨out, rs, hr, h1⟩ := RM.go_ran h
  clear h
  split at h1 <;> try contradiction
  rename_i um hum
  have hR : OpRan tt specs calls all base i o (lkS a0 fr m) ⟨um, out.add, out.del, gs ++ (rs.reverse ++ [])⟩ :=
    .ran out rs (hg.more fun l hl => List.mem_append_left _ hl) hr (fun l hl => List.mem_append_right _ (by simpa using hl)) hum rfl rfl
  have fin : ∀ rows', (draw = true → rows' = (⟨i, gs ++ (rs.reverse ++ []), keysOf um ++ idKeys out.add out.del⟩ : Row) :: rows) → ∀ m', lkS a0 fr m' = ovl um (lkS a0 fr m) → k m' (delsE (out.add ++ E) out.del) rows' = some r →
      ∃ (e : TrE B) (m' : Mem B) (rows' : List Row), OpRan tt specs calls all base i o (lkS a0 fr m) e ∧ k m' (e.act E) rows' = some r ∧ lkS a0 fr m' = ovl e.um (lkS a0 fr m) ∧ (draw = true → rows' = e.row i :: rows) :=
    fun rows' hrow m' hm hk => ⟨_, m', rows', hR, hk, hm, hrow⟩
  have hrow : ∀ x : Row, draw = true → addRow draw x rows = x :: rows := fun x hd => by subst hd; rfl
  simp only at h1
  split at h1
  · rename_i b d hv hd
    have hum' : ∃ t, um = (.s d, .v (.one (.bool b))) :: t := by
      unfold outM at hum
      rw [hv, hd] at hum
      injection hum with hum
      exact ⟨_, hum.symm⟩
    have hm : ∀ b', b' = b → lkS a0 fr ((.s d, .v (.one (.bool b'))) :: um ++ m) = ovl um (lkS a0 fr m) := fun b' hb => by
      subst hb
      obtain ⟨t, ht⟩ := hum'
      rw [lkS_up]
      subst ht
      funext l
      unfold ovl look
      cases hq : (Loc.s d).beq l
      · simp [look, hq]
      · simp [look, hq]
    cases b
    · exact fin _ (hrow _) _ (hm false rfl) h1
    · exact fin _ (hrow _) _ (hm true rfl) h1
  · exact fin _ (hrow _) _ (lkS_up _ _ _ _) h1
theorem dops_ran {a0 fr : Mem B} {α : Type} : ∀ {l : List Oper} {i : Nat} {m : Mem B} {E : List (Nat × EH)} {rows : List Row} {k : Mem B → List (Nat × EH) → List Row → Option α} {r : α},
    Dops tt specs calls a0 fr all draw base l i m E rows k = some r →
    ∃ (tr : List (TrE B)) (m' : Mem B) (rows' : List Row), SeqRan tt specs calls all base l i (lkS a0 fr m) tr ∧ k m' (entSeq tr E) rows' = some r ∧ lkS a0 fr m' = memSeq tr (lkS a0 fr m) ∧
      (draw = true → rows' = rowsR i tr rows ∧ ∀ j o, l[j]? = some o → edgesLow (i + j) o.after.toList = true)
  | [], i, m, E, rows, k, r, h => ⟨[], m, rows, trivial, h, rfl, fun _ => ⟨rfl, fun j o hj => by simp at hj⟩⟩
  | o :: l, i, m, E, rows, k, r, h => by
    unfold Dops at h
    split at h <;> try contradiction
    rename_i hed
    have hed' : draw = true → edgesLow i o.after.toList = true := fun hd => by
      subst hd
      simpa using hed
    have fin : ∀ (e : TrE B) (m' : Mem B) (rows' : List Row), OpRan tt specs calls all base i o (lkS a0 fr m) e → Dops tt specs calls a0 fr all draw base l (i + 1) m' (e.act E) rows' k = some r → lkS a0 fr m' = ovl e.um (lkS a0 fr m) → (draw = true → rows' = e.row i :: rows) →
        ∃ (tr : List (TrE B)) (m' : Mem B) (rows' : List Row), SeqRan tt specs calls all base (o :: l) i (lkS a0 fr m) tr ∧ k m' (entSeq tr E) rows' = some r ∧ lkS a0 fr m' = memSeq tr (lkS a0 fr m) ∧
      (draw = true → rows' = rowsR i tr rows ∧ ∀ j o', (o :: l)[j]? = some o' → edgesLow (i + j) o'.after.toList = true) := by
      intro e m' rows' he hk hm hrow
      obtain ⟨tr, m2, rows2, g1, g2, g3, g4⟩ := dops_ran hk
      rw [hm] at g1 g3
      refine ⟨e :: tr, m2, rows2, ⟨he, g1⟩, g2, g3, fun hd => ?_⟩
      obtain ⟨g5, g6⟩ := g4 hd
      rw [hrow hd] at g5
      refine ⟨g5, fun j o' hj => ?_⟩
      cases j with
      | zero => simp only [List.getElem?_cons_zero, Option.some.injEq] at hj; subst hj; exact hed' hd
      | succ j => rw [show i + (j + 1) = i + 1 + j by omega]; exact g6 j o' (by simpa using hj)
    split at h <;> try contradiction
    · rename_i gs hg
      obtain ⟨e, m', rows', g1, g2, g3, g4⟩ := runOp_ran (guardOf_is hg) h
      exact fin e m' rows' g1 g2 g3 g4
    · rename_i gs hg
      split at h <;> try contradiction
      rename_i d hd
      refine fin ⟨[(.s d, .v .pas)], [], [], gs⟩ _ _ (.pass d (guardOf_is hg) hd rfl rfl rfl) h (lkS_up a0 fr [(.s d, .v .pas)] m) fun hdr => ?_
      subst hdr
      rfl
def OPost (G : World) (L0 : List HProp) (f0 : HP) (σ0 : Rz B) (M : Loc → Option (Con B)) (E : List (Nat × EH)) (N : Nat → Prop) (base i : Nat) (e : TrE B) (ρ : Env) (w : World) : Prop :=
  ∃ f σ, SimF G L0 f0 σ0 (ovl e.um M) (e.act E) (Nx N (base + stepW * i)) f σ ρ w
inductive OpDoes (P : Program) (ops : Array Oper) (o : Oper) (ρ : Env) (w : World) (K : Env → World → Prop) : Prop
  | val (d : Nat) (v : Value) (w' : World) (hg : Region.wanted o (yieldedE ops ρ) = true) (hd : o.dst = some d) (hr : (execOp (ev ρ) o).run P w = .ok (.value v) w') (h : K (upd ρ d v) w')
  | unit (w' : World) (hg : Region.wanted o (yieldedE ops ρ) = true) (hd : o.dst = none) (hr : (execOp (ev ρ) o).run P w = .ok .skip w') (h : K ρ w')
  | pass (d : Nat) (hg : Region.wanted o (yieldedE ops ρ) = false) (hd : o.dst = some d) (h : K (upd ρ d undef) w)
  | call (fn : FuncId) (args : Array Value) (w' : World) (R : Value → World → Prop) (hg : Region.wanted o (yieldedE ops ρ) = true)
      (hr : (execOp (ev ρ) o).run P w = .ok (.enter fn args) w') (hc : Calls P fn args w' (Returns R)) (h : ∀ v w'', R v w'' → ∃ d, o.dst = some d ∧ K (upd ρ d v) w'')
theorem OpDoes.wpOp [Rd] {Ds : List Nat} {ops : Array Oper} {i : Nat} {o : Oper} {K : Env → World → Prop} (hi : ops[i]? = some o) (hlt : ∀ d, o.dst = some d → d < n) (h : OpDoes P ops o ρ w K) : EOp P n ops i K Ds ρ w := by
  cases h with
  | val d v w' hg hd hr h => exact eo_val hi hg hd (by rw [Nat.blt_eq]; exact hlt d hd) hr h
  | unit w' hg hd hr h => exact eo_unit hi hg hd hr h
  | pass d hg hd h => exact eo_pass hi hg hd (by rw [Nat.blt_eq]; exact hlt d hd) h
  | call fn args w' R hg hr hc h => exact eo_call hi hg hlt hr hc h
theorem OpDoes.el [Rd] {Ds : List Nat} {ops : Array Oper} {o : Oper} {Q : EPost} {rest : List Oper} (hlt : ∀ d, o.dst = some d → d < n) (h : OpDoes P ops o ρ w (EL P n ops Q rest Ds)) : EL P n ops Q (o :: rest) Ds ρ w := by
  cases h with
  | val d v w' hg hd hr h => exact el_val hg hd (by rw [Nat.blt_eq]; exact hlt d hd) hr h
  | unit w' hg hd hr h => exact el_unit hg hd hr h
  | pass d hg hd h => exact el_pass hg hd (by rw [Nat.blt_eq]; exact hlt d hd) h
  | call fn args w' R hg hr hc h => exact el_call hg hlt hr hc h
theorem OpDoes.mono {ops : Array Oper} {o : Oper} {K K' : Env → World → Prop} (hk : ∀ ρ w, K ρ w → K' ρ w) (h : OpDoes P ops o ρ w K) : OpDoes P ops o ρ w K' := by
  cases h with
  | val d v w' hg hd hr h => exact .val d v w' hg hd hr (hk _ _ h)
  | unit w' hg hd hr h => exact .unit w' hg hd hr (hk _ _ h)
  | pass d hg hd h => exact .pass d hg hd (hk _ _ h)
  | call fn args w' R hg hr hc h => exact .call fn args w' R hg hr hc fun v w'' hR => let ⟨d, h1, h2⟩ := h v w'' hR; ⟨d, h1, hk _ _ h2⟩
theorem nthL_get {α : Type} : ∀ {l : List α} {i : Nat}, nthL l i = l[i]?
  | [], _ => by simp [nthL]
  | a :: l, 0 => rfl
  | a :: l, i + 1 => by simp [nthL, nthL_get (l := l)]
theorem guard_wanted (hs : SimF G L0 f0 σ0 M E N f σ ρ w) {o : Oper} {b : Bool} {rs : List Loc} (h : GuardIs all o M b rs) : Region.wanted o (yieldedE all.toArray ρ) = b := by
  unfold Region.wanted
  rcases h with ⟨h1, h2⟩ | ⟨j, want, oj, d, h1, h2, h3, h4, h5⟩
  · rw [h1, h2]
  · rw [h1]
    simp only
    have hy : yieldedE all.toArray ρ j = (match ρ d with | .bool b => some b | _ => none) := by
      unfold yieldedE
      have : (all.toArray)[j]? = some oj := by rw [← h2, nthL_get]; simp
      rw [this]
      simp only [Option.bind_some, h3]
      cases ρ d <;> rfl
    rw [hy]
    have hsl := hs.slots d
    rcases h5 with ⟨c, h5, h6⟩ | ⟨h5, h6⟩
    · rw [h5] at hsl
      have : ρ d = .bool c := hsl
      rw [this, h6]
      cases c <;> cases want <;> rfl
    · rw [h5] at hsl
      have : ρ d = undef := hsl
      rw [this, h6]
      rfl
theorem opRan_does (htt : ttOk P tt = true) (hS : SpecsOk P specs) (hs : SimF G L0 f0 σ0 M E N f σ ρ w) {i : Nat} (hb : ∀ j, base + stepW * i ≤ j → j < base + stepW * i + stepW → ¬ N j) {o : Oper} {e : TrE B}
    (h : OpRan tt specs calls all base i o M e) : OpDoes P all.toArray o ρ w (OPost G L0 f0 σ0 M E N base i e) := by
  cases h with
  | pass d hg hd hu ha hx =>
    refine .pass d (guard_wanted hs hg) hd ⟨f, σ, ?_⟩
    have h1 := (hs.same (N' := Nx N (base + stepW * i)) fun i h => .inl h).put (d := d) (x := .pas) (v := undef) rfl
    rw [hu]
    have : e.act E = E := by unfold TrE.act; rw [ha, hx]; rfl
    rw [this]
    exact h1
  | ran out rs hg hr hrs hu ha hd =>
    have hw := guard_wanted hs hg
    obtain ⟨dst, op, ty, pos, after, guard⟩ := o
    have hact : e.act E = delsE (out.add ++ E) out.del := by unfold TrE.act; rw [ha, hd]
    have hval : ∀ (v : Value) (w' : World), Goal G L0 f0 σ0 M E N (base + stepW * i) f σ ρ out (some v) w' → ∃ d, dst = some d ∧ OPost G L0 f0 σ0 M E N base i e (upd ρ d v) w' := by
      intro v w' hG
      obtain ⟨f', σ', h1, h2, h3, h4⟩ := hG
      unfold outM at hu
      cases hv : out.v with
      | none => rw [hv] at h4; exact h4.elim
      | some x =>
        rw [hv] at h4 hu
        cases dst with
        | none => cases hu
        | some d =>
          injection hu with hu
          refine ⟨d, rfl, f', σ', ?_⟩
          rw [hact, ← hu]
          have h5 := h3.put (d := d) h4
          rw [show ovl ((Loc.s d, Con.v x) :: out.up) M = ovl [(Loc.s d, Con.v x)] (ovl out.up M) from ovl_app [(Loc.s d, Con.v x)] out.up]
          exact h5
    rcases anyProg_does htt hS hs hb hr with ⟨v, w', h1, h2⟩ | ⟨w', h1, h2⟩ | ⟨fn, args, w', R, h1, h2, h3⟩
    · obtain ⟨d, hd, hp⟩ := hval v w' h2
      exact .val d v w' hw hd h1 hp
    · obtain ⟨f', σ', h4, h5, h6, h7⟩ := h2
      unfold outM at hu
      cases hv : out.v with
      | some x => rw [hv] at h7; exact h7.elim
      | none =>
        rw [hv] at hu
        cases dst with
        | some d => cases hu
        | none =>
          injection hu with hu
          refine .unit w' hw rfl h1 ⟨f', σ', ?_⟩
          rw [hact, ← hu]
          exact h6
    · exact .call fn args w' R hw h1 h2 fun v w'' hR => hval v w'' (h3 v w'' hR)
end
end Hd
set_option linter.unusedVariables false
set_option linter.unusedSimpArgs false
namespace Hd
open Go Hk
section
variable {B : Tab} {P : Program} {tt : List (TI B)} {specs : List (Spec B)} {calls : List (Nat × Nat)} {all : List Oper} {base n : Nat} {draw : Bool}
variable {M M' : Loc → Option (Con B)} {G w : World} {L0 : List HProp} {f0 f f' : HP} {σ0 σ σ' : Rz B} {E E' E0 : List (Nat × EH)} {N N' : Nat → Prop} {ρ : Env}
theorem SimF.drew (hs : SimF G L0 f0 σ0 M E N f σ ρ w) : SimF G L0 f0 σ0 M E N f σ ρ { w with drawn := w.drawn + 1 } :=
  { hs with
    ents := by
      obtain ⟨E1, L1, k1, k2, k3, k4⟩ := hs.ents
      exact ⟨E1, L1, k1, k2, k3, k4.drew⟩ }
def DstLow (n : Nat) (l : List Oper) : Prop := ∀ o, o ∈ l → ∀ d, o.dst = some d → d < n
theorem seqRan_el [Rd] {Ds : List Nat} (htt : ttOk P tt = true) (hS : SpecsOk P specs) {Q : EPost} : ∀ {l : List Oper} {i : Nat} {tr : List (TrE B)} {M : Loc → Option (Con B)} {E : List (Nat × EH)} {f : HP} {σ : Rz B} {ρ : Env} {w : World},
    SeqRan tt specs calls all base l i M tr → DstLow n l → SimF G L0 f0 σ0 M E (fun j => j < base + stepW * i) f σ ρ w →
    (∀ f σ ρ w, SimF G L0 f0 σ0 (memSeq tr M) (entSeq tr E) (fun j => j < base + stepW * (i + l.length)) f σ ρ w → Q .normal Ds ρ w) → EL P n all.toArray Q l Ds ρ w
  | [], i, [], M, E, f, σ, ρ, w, _, _, hs, hQ => el_nil (hQ f σ ρ w hs)
  | o :: l, i, e :: tr, M, E, f, σ, ρ, w, ⟨h1, h2⟩, hd, hs, hQ => by
    refine OpDoes.el (fun d hdd => hd o (by simp) d hdd) ((opRan_does htt hS hs (fun j a b => by omega) h1).mono fun ρ' w' hp => ?_)
    obtain ⟨f', σ', hs'⟩ := hp
    refine seqRan_el htt hS h2 (fun o ho => hd o (by simp [ho])) (hs'.same fun j hj => ?_) fun f σ ρ w hh => hQ f σ ρ w ?_
    · unfold Nx at hj
      have : stepW * (i + 1) = stepW * i + stepW := Nat.mul_succ _ _
      omega
    · rw [show i + (o :: l).length = i + 1 + l.length by simp; omega]; exact hh
  | [], _, _ :: _, _, _, _, _, _, _, h, _, _, _ => h.elim
  | _ :: _, _, [], _, _, _, _, _, _, h, _, _, _ => h.elim
def memB (S : Nat → Bool) : Nat → List (TrE B) → (Loc → Option (Con B)) → Loc → Option (Con B)
  | _, [], M => M
  | i, e :: tr, M => memB S (i + 1) tr (cond (S i) (ovl e.um M) M)
def entB (S : Nat → Bool) : Nat → List (TrE B) → List (Nat × EH) → List (Nat × EH)
  | _, [], E => E
  | i, e :: tr, E => entB S (i + 1) tr (cond (S i) (e.act E) E)
theorem memB_none {S : Nat → Bool} : ∀ {tr : List (TrE B)} {i : Nat} {M : Loc → Option (Con B)}, (∀ j, i ≤ j → S j = false) → memB S i tr M = M
  | [], _, _, _ => rfl
  | e :: tr, i, M, h => by
    unfold memB
    rw [h i (Nat.le_refl _)]
    exact memB_none fun j hj => h j (by omega)
theorem memB_all {S : Nat → Bool} : ∀ {tr : List (TrE B)} {i : Nat} {M : Loc → Option (Con B)}, (∀ j, i ≤ j → j < i + tr.length → S j = true) → memB S i tr M = memSeq tr M
  | [], _, _, _ => rfl
  | e :: tr, i, M, h => by
    unfold memB memSeq
    rw [h i (Nat.le_refl _) (by simp)]
    exact memB_all fun j hj hl => h j (by omega) (by simp only [List.length_cons]; omega)
theorem entB_none {S : Nat → Bool} : ∀ {tr : List (TrE B)} {i : Nat} {E : List (Nat × EH)}, (∀ j, i ≤ j → S j = false) → entB S i tr E = E
  | [], _, _, _ => rfl
  | e :: tr, i, E, h => by
    unfold entB
    rw [h i (Nat.le_refl _)]
    exact entB_none fun j hj => h j (by omega)
theorem entB_all {S : Nat → Bool} : ∀ {tr : List (TrE B)} {i : Nat} {E : List (Nat × EH)}, (∀ j, i ≤ j → j < i + tr.length → S j = true) → entB S i tr E = entSeq tr E
  | [], _, _, _ => rfl
  | e :: tr, i, E, h => by
    unfold entB entSeq
    rw [h i (Nat.le_refl _) (by simp)]
    exact entB_all fun j hj hl => h j (by omega) (by simp only [List.length_cons]; omega)
theorem seqRan_len : ∀ {l : List Oper} {i : Nat} {M : Loc → Option (Con B)} {tr : List (TrE B)}, SeqRan tt specs calls all base l i M tr → tr.length = l.length
  | [], _, _, [], _ => rfl
  | _ :: _, _, _, _ :: _, ⟨_, h⟩ => by simp [seqRan_len h]
  | [], _, _, _ :: _, h => h.elim
  | _ :: _, _, _, [], h => h.elim
theorem blt_self_false (k : Nat) : Nat.blt k k = false := by
  cases h : Nat.blt k k with
  | false => rfl
  | true => rw [Nat.blt_eq] at h; omega
theorem blt_false {a b : Nat} (h : b ≤ a) : Nat.blt a b = false := by
  cases h' : Nat.blt a b with
  | false => rfl
  | true => rw [Nat.blt_eq] at h'; omega
theorem seqRan_at : ∀ {l : List Oper} {k : Nat} {M : Loc → Option (Con B)} {tr : List (TrE B)}, SeqRan tt specs calls all base l k M tr → ∀ j o, l[j]? = some o →
    ∃ e, tr[j]? = some e ∧ OpRan tt specs calls all base (k + j) o (memB (fun x => Nat.blt x (k + j)) k tr M) e
  | [], _, _, _, _, j, o, h => by simp at h
  | o0 :: l, k, M, e :: tr, ⟨h1, h2⟩, 0, o, h => by
    simp only [List.getElem?_cons_zero, Option.some.injEq] at h
    subst h
    refine ⟨e, rfl, ?_⟩
    rw [memB_none fun j hj => blt_false (by omega)]
    exact h1
  | o0 :: l, k, M, e :: tr, ⟨h1, h2⟩, j + 1, o, h => by
    obtain ⟨e', g1, g2⟩ := seqRan_at h2 j o (by simpa using h)
    refine ⟨e', by simpa using g1, ?_⟩
    unfold memB
    have : Nat.blt k (k + (j + 1)) = true := by rw [Nat.blt_eq]; omega
    rw [this, show k + (j + 1) = k + 1 + j by omega]
    exact g2
  | _ :: _, _, _, [], h, _, _, _ => h.elim
theorem memB_agree {S S' : Nat → Bool} {l : Loc} : ∀ {tr : List (TrE B)} {i : Nat} {M M' : Loc → Option (Con B)}, M l = M' l → (∀ j e, tr[j]? = some e → S (i + j) ≠ S' (i + j) → look e.um l = none) → memB S i tr M l = memB S' i tr M' l
  | [], _, _, _, h, _ => h
  | e :: tr, i, M, M', h, hd => by
    unfold memB
    refine memB_agree ?_ fun j e' hj hne => hd (j + 1) e' (by simpa using hj) (by rw [show i + (j + 1) = i + 1 + j by omega]; exact hne)
    have h0 := hd 0 e rfl
    cases hS : S i <;> cases hS' : S' i <;> simp only [Nat.add_zero, hS, hS', cond_true, cond_false] at h0 ⊢
    · exact h
    · rw [ovl_none (h0 (by simp))]; exact h
    · rw [ovl_none (h0 (by simp))]; exact h
    · unfold ovl; rw [h]
def Apart (a b : TrE B) : Prop := (∀ l, look a.um l = none ∨ look b.um l = none) ∧ (∀ x, x ∈ a.add → x.1 ∉ b.del) ∧ (∀ x, x ∈ b.add → x.1 ∉ a.del)
theorem ovl_comm {a b : Mem B} (h : ∀ l, look a l = none ∨ look b l = none) : ovl a (ovl b M) = ovl b (ovl a M) := by
  funext l
  rcases h l with h | h
  · rw [ovl_none h]
    unfold ovl
    rw [h]
  · rw [ovl_none h (M := ovl a M)]
    unfold ovl
    rw [h]
theorem memB_comm {S : Nat → Bool} {u : TrE B} : ∀ {tr : List (TrE B)} {k : Nat} {M : Loc → Option (Con B)}, (∀ j e, tr[j]? = some e → S (k + j) = true → Apart u e) → memB S k tr (ovl u.um M) = ovl u.um (memB S k tr M)
  | [], _, _, _ => rfl
  | e :: tr, k, M, h => by
    unfold memB
    have ih : ∀ M, memB S (k + 1) tr (ovl u.um M) = ovl u.um (memB S (k + 1) tr M) := fun M => memB_comm fun j e' hj hS => h (j + 1) e' (by simpa using hj) (by rw [show k + (j + 1) = k + 1 + j by omega]; exact hS)
    cases hS : S k with
    | false => exact ih M
    | true =>
      simp only [cond_true]
      rw [ovl_comm (fun l => ((h 0 e rfl hS).1 l).symm)]
      exact ih _
theorem mem_act {e : TrE B} {x : Nat × EH} : x ∈ e.act E ↔ (x ∈ e.add ∨ x ∈ E) ∧ x.1 ∉ e.del := by
  unfold TrE.act
  rw [mem_delsE, List.mem_append]
theorem act_iff {e : TrE B} (h : ∀ x, x ∈ E ↔ x ∈ E') (x : Nat × EH) : x ∈ e.act E ↔ x ∈ e.act E' := by rw [mem_act, mem_act, h]
theorem entB_iff {S : Nat → Bool} : ∀ {tr : List (TrE B)} {k : Nat} {E E' : List (Nat × EH)}, (∀ x, x ∈ E ↔ x ∈ E') → ∀ x, x ∈ entB S k tr E ↔ x ∈ entB S k tr E'
  | [], _, _, _, h => h
  | e :: tr, k, E, E', h => by
    unfold entB
    refine entB_iff fun x => ?_
    cases S k
    · exact h x
    · exact act_iff h x
theorem act_comm {a b : TrE B} (h : Apart a b) (x : Nat × EH) : x ∈ a.act (b.act E) ↔ x ∈ b.act (a.act E) := by
  simp only [mem_act]
  constructor
  · rintro ⟨h1 | ⟨h1, h2⟩, h3⟩
    · exact ⟨.inr ⟨.inl h1, h3⟩, h.2.1 x h1⟩
    · rcases h1 with h1 | h1
      · exact ⟨.inl h1, h2⟩
      · exact ⟨.inr ⟨.inr h1, h3⟩, h2⟩
  · rintro ⟨h1 | ⟨h1, h2⟩, h3⟩
    · exact ⟨.inr ⟨.inl h1, h3⟩, h.2.2 x h1⟩
    · rcases h1 with h1 | h1
      · exact ⟨.inl h1, h2⟩
      · exact ⟨.inr ⟨.inr h1, h3⟩, h2⟩
theorem entB_comm {S : Nat → Bool} {u : TrE B} : ∀ {tr : List (TrE B)} {k : Nat} {E : List (Nat × EH)}, (∀ j e, tr[j]? = some e → S (k + j) = true → Apart u e) → ∀ x, x ∈ entB S k tr (u.act E) ↔ x ∈ u.act (entB S k tr E)
  | [], _, _, _, x => Iff.rfl
  | e :: tr, k, E, h, x => by
    unfold entB
    have ih : ∀ E, x ∈ entB S (k + 1) tr (u.act E) ↔ x ∈ u.act (entB S (k + 1) tr E) := fun E => entB_comm (fun j e' hj hS => h (j + 1) e' (by simpa using hj) (by rw [show k + (j + 1) = k + 1 + j by omega]; exact hS)) x
    cases hS : S k with
    | false => exact ih E
    | true =>
      simp only [cond_true]
      rw [← ih (e.act E)]
      exact entB_iff (fun x => (act_comm (h 0 e rfl hS) x).symm) x
def addS (S : Nat → Bool) (i : Nat) : Nat → Bool := fun j => Nat.beq j i || S j
theorem addS_self (S : Nat → Bool) (i : Nat) : addS S i i = true := by simp [addS]
theorem addS_ne {S : Nat → Bool} {i j : Nat} (h : j ≠ i) : addS S i j = S j := by simp [addS, h]
theorem memB_ext {S S' : Nat → Bool} : ∀ {tr : List (TrE B)} {k : Nat} {M : Loc → Option (Con B)}, (∀ j, k ≤ j → S j = S' j) → memB S k tr M = memB S' k tr M
  | [], _, _, _ => rfl
  | e :: tr, k, M, h => by
    unfold memB
    rw [h k (Nat.le_refl _)]
    exact memB_ext fun j hj => h j (by omega)
theorem entB_ext {S S' : Nat → Bool} : ∀ {tr : List (TrE B)} {k : Nat} {E : List (Nat × EH)}, (∀ j, k ≤ j → S j = S' j) → entB S k tr E = entB S' k tr E
  | [], _, _, _ => rfl
  | e :: tr, k, E, h => by
    unfold entB
    rw [h k (Nat.le_refl _)]
    exact entB_ext fun j hj => h j (by omega)
theorem memB_add {S : Nat → Bool} {u : TrE B} : ∀ {tr : List (TrE B)} {k j : Nat} {M : Loc → Option (Con B)}, tr[j]? = some u → S (k + j) = false → (∀ i e, j < i → tr[i]? = some e → S (k + i) = true → Apart u e) →
    memB (addS S (k + j)) k tr M = ovl u.um (memB S k tr M)
  | [], _, _, _, h, _, _ => by simp at h
  | e :: tr, k, 0, M, h, hS, ha => by
    simp only [List.getElem?_cons_zero, Option.some.injEq] at h
    subst h
    simp only [Nat.add_zero] at hS ⊢
    unfold memB
    rw [addS_self, hS]
    simp only [cond_true, cond_false]
    rw [memB_ext (S' := S) fun j hj => addS_ne (by omega)]
    exact memB_comm fun j e' hj hSj => ha (j + 1) e' (by omega) (by simpa using hj) (by rw [show k + (j + 1) = k + 1 + j by omega]; exact hSj)
  | e :: tr, k, j + 1, M, h, hS, ha => by
    unfold memB
    rw [addS_ne (S := S) (show k ≠ k + (j + 1) by omega)]
    rw [show k + (j + 1) = k + 1 + j by omega] at hS ⊢
    exact memB_add (by simpa using h) hS fun i e' hi hj hSj => ha (i + 1) e' (by omega) (by simpa using hj) (by rw [show k + (i + 1) = k + 1 + i by omega]; exact hSj)
theorem entB_add {S : Nat → Bool} {u : TrE B} : ∀ {tr : List (TrE B)} {k j : Nat} {E : List (Nat × EH)}, tr[j]? = some u → S (k + j) = false → (∀ i e, j < i → tr[i]? = some e → S (k + i) = true → Apart u e) →
    ∀ x, x ∈ entB (addS S (k + j)) k tr E ↔ x ∈ u.act (entB S k tr E)
  | [], _, _, _, h, _, _, _ => by simp at h
  | e :: tr, k, 0, E, h, hS, ha, x => by
    simp only [List.getElem?_cons_zero, Option.some.injEq] at h
    subst h
    simp only [Nat.add_zero] at hS ⊢
    unfold entB
    rw [addS_self, hS]
    simp only [cond_true, cond_false]
    rw [entB_ext (S' := S) fun j hj => addS_ne (by omega)]
    exact entB_comm (fun j e' hj hSj => ha (j + 1) e' (by omega) (by simpa using hj) (by rw [show k + (j + 1) = k + 1 + j by omega]; exact hSj)) x
  | e :: tr, k, j + 1, E, h, hS, ha, x => by
    unfold entB
    rw [addS_ne (S := S) (show k ≠ k + (j + 1) by omega)]
    rw [show k + (j + 1) = k + 1 + j by omega] at hS ⊢
    exact entB_add (by simpa using h) hS (fun i e' hi hj hSj => ha (i + 1) e' (by omega) (by simpa using hj) (by rw [show k + (i + 1) = k + 1 + i by omega]; exact hSj)) x
theorem disj_spec : ∀ {a b : List Loc}, disj a b = true → ∀ l, l ∈ a → l ∉ b
  | [], _, _, l, h => by simp at h
  | x :: a, b, h, l, hl => by
    unfold disj at h
    cases hm : memL b x with
    | true => rw [hm] at h; cases h
    | false =>
      rw [hm] at h
      rcases List.mem_cons.1 hl with rfl | hl
      · intro hb; rw [memL_iff.2 hb] at hm; cases hm
      · exact disj_spec h l hl
theorem keysOf_mem {m : Mem B} {l : Loc} (h : look m l ≠ none) : l ∈ keysOf m := by
  induction m with
  | nil => exact absurd rfl h
  | cons x m ih =>
    obtain ⟨k, c⟩ := x
    by_cases hk : k = l
    · subst hk; simp [keysOf]
    · rw [look_cons_ne hk] at h; exact List.mem_cons_of_mem _ (ih h)
theorem addK_mem : ∀ {l : List (Nat × EH)} {x : Nat × EH}, x ∈ l → Loc.a x.1 ∈ addK l
  | (i, h) :: r, x, hx => by
    rcases List.mem_cons.1 hx with rfl | hx
    · simp [addK]
    · exact List.mem_cons_of_mem _ (addK_mem hx)
theorem delK_mem : ∀ {l : List Nat} {i : Nat}, i ∈ l → Loc.a i ∈ delK l
  | j :: r, i, hi => by
    rcases List.mem_cons.1 hi with rfl | hi
    · simp [delK]
    · exact List.mem_cons_of_mem _ (delK_mem hi)
theorem apart_of {a b : TrE B} {i j : Nat} (h : disj (a.row i).ws (b.row j).ws = true) : Apart a b := by
  have h1 := disj_spec h
  simp only [TrE.row, idKeys] at h1
  refine ⟨fun l => ?_, fun x hx hd => ?_, fun x hx hd => ?_⟩
  · cases ha : look a.um l with
    | none => exact .inl rfl
    | some c =>
      right
      cases hb : look b.um l with
      | none => rfl
      | some d => exact absurd (List.mem_append_left _ (keysOf_mem (by rw [hb]; simp))) (h1 l (List.mem_append_left _ (keysOf_mem (by rw [ha]; simp))))
  · exact h1 _ (List.mem_append_right _ (List.mem_append_left _ (addK_mem hx))) (List.mem_append_right _ (List.mem_append_right _ (delK_mem hd)))
  · exact h1 _ (List.mem_append_right _ (List.mem_append_right _ (delK_mem hd))) (List.mem_append_right _ (List.mem_append_left _ (addK_mem hx)))
theorem Apart.symm {a b : TrE B} (h : Apart a b) : Apart b a := ⟨fun l => (h.1 l).symm, h.2.2, h.2.1⟩
def PairOk (b : Nat) (i : Nat) (ei : TrE B) (j : Nat) (ej : TrE B) : Prop :=
  bitOf b j = true ∨ ((∀ l, l ∈ ei.rs → look ej.um l = none) ∧ (∀ l, l ∈ ej.rs → look ei.um l = none) ∧ Apart ei ej)
theorem disj_look {rs ws : List Loc} {um : Mem B} {ids : List Loc} (hw : ws = keysOf um ++ ids) (h : ∀ l, l ∈ rs → l ∉ ws) (l : Loc) (hl : l ∈ rs) : look um l = none := by
  cases hq : look um l with
  | none => rfl
  | some c => subst hw; exact absurd (List.mem_append_left _ (keysOf_mem (by rw [hq]; simp))) (h l hl)
theorem apartRow_spec {b i : Nat} {ei : TrE B} : ∀ {rows : List Row}, apartRow b (ei.row i) rows = true → ∀ j (ej : TrE B), ej.row j ∈ rows → PairOk b i ei j ej
  | [], _, j, ej, h => by simp at h
  | q :: rows, h, j, ej, hj => by
    unfold apartRow at h
    have tail : apartRow b (ei.row i) rows = true := by
      split at h
      · exact h
      · simp only [Bool.and_eq_true] at h; exact h.2
    rcases List.mem_cons.1 hj with rfl | hj
    · split at h
      · rename_i hb; exact .inl hb
      · simp only [Bool.and_eq_true] at h
        refine .inr ⟨disj_look rfl (disj_spec h.1.1.1), fun l hl => ?_, apart_of h.1.2⟩
        have h2 := disj_spec h.1.1.2
        exact disj_look (ws := (ei.row i).ws) rfl (fun l hl hw => h2 l hw hl) l hl
    · exact apartRow_spec tail j ej hj
theorem apartRows_tail {tab : List (Nat × Nat)} : ∀ {tr : List (TrE B)} {k : Nat} {rows : List Row}, apartRows tab (rowsR k tr rows) = true → apartRows tab rows = true
  | [], _, _, h => h
  | e :: tr, k, rows, h => by
    have := apartRows_tail (tr := tr) h
    unfold apartRows at this
    simp only [Bool.and_eq_true] at this
    exact this.2
theorem apartRows_in {tab : List (Nat × Nat)} : ∀ {tr : List (TrE B)} {k : Nat} {rows : List Row}, apartRows tab (rowsR k tr rows) = true → ∀ j e, tr[j]? = some e → ∀ i ei, ei.row i ∈ rows → PairOk ((assoc tab (k + j)).getD 0) (k + j) e i ei
  | [], _, _, _, j, e, h, _, _, _ => by simp at h
  | e0 :: tr, k, rows, h, 0, e, hj, i, ei, hi => by
    simp only [List.getElem?_cons_zero, Option.some.injEq] at hj
    subst hj
    have := apartRows_tail (tr := tr) h
    unfold apartRows at this
    simp only [Bool.and_eq_true] at this
    exact apartRow_spec this.1 i ei hi
  | e0 :: tr, k, rows, h, j + 1, e, hj, i, ei, hi => by
    rw [show k + (j + 1) = k + 1 + j by omega]
    exact apartRows_in (tr := tr) (rows := e0.row k :: rows) h j e (by simpa using hj) i ei (List.mem_cons_of_mem _ hi)
theorem apartRows_spec {tab : List (Nat × Nat)} : ∀ {tr : List (TrE B)} {k : Nat} {rows : List Row}, apartRows tab (rowsR k tr rows) = true → ∀ i j ei ej, j < i → tr[i]? = some ei → tr[j]? = some ej →
    PairOk ((assoc tab (k + i)).getD 0) (k + i) ei (k + j) ej
  | [], _, _, _, i, _, _, _, _, h, _ => by simp at h
  | e :: tr, k, rows, h, 0, j, ei, ej, hlt, hi, hj => by omega
  | e :: tr, k, rows, h, i + 1, 0, ei, ej, hlt, hi, hj => by
    simp only [List.getElem?_cons_zero, Option.some.injEq] at hj
    subst hj
    rw [show k + (i + 1) = k + 1 + i by omega]
    exact apartRows_in (tr := tr) (rows := e.row k :: rows) h i ei (by simpa using hi) k e (by simp)
  | e :: tr, k, rows, h, i + 1, j + 1, ei, ej, hlt, hi, hj => by
    rw [show k + (i + 1) = k + 1 + i by omega, show k + (j + 1) = k + 1 + j by omega]
    exact apartRows_spec (tr := tr) h i j ei ej (by omega) (by simpa using hi) (by simpa using hj)
theorem bindsB_eq (e : Edge) : bindsB e = Region.binds .any e := by
  unfold bindsB Region.binds
  cases e.ground <;> rfl
def Below (l : List Edge) (S : Nat → Bool) : Prop := ∀ e, e ∈ l → bindsB e = true → S e.on = true
theorem befMask_bit {acc : List (Nat × Nat)} {S : Nat → Bool} (hacc : ∀ a b, assoc acc a = some b → S a = true → ∀ j, bitOf b j = true → S j = true) : ∀ {l : List Edge}, Below l S → ∀ j, bitOf (befMask acc l) j = true → S j = true
  | [], _, j, h => by simp [befMask, bitOf] at h
  | e :: l, hb, j, h => by
    unfold befMask at h
    split at h
    · rename_i he
      have hS := hb e (by simp) he
      unfold bitOf at h
      rw [show ∀ a b, Nat.lor a b = a ||| b from fun _ _ => rfl, Nat.testBit_or, show ∀ a b, Nat.lor a b = a ||| b from fun _ _ => rfl, Nat.testBit_or] at h
      simp only [Bool.or_eq_true] at h
      rcases h with (h | h) | h
      · have : j = e.on := by
          rw [show Nat.shiftLeft 1 e.on = 1 <<< e.on from rfl, Nat.shiftLeft_eq, Nat.one_mul, Nat.testBit_two_pow] at h
          have h := of_decide_eq_true h
          omega
        rw [this]; exact hS
      · cases ha : assoc acc e.on with
        | none => rw [ha] at h; simp at h
        | some b => rw [ha] at h; exact hacc _ _ ha hS j h
      · exact befMask_bit hacc (fun e he => hb e (by simp [he])) j h
    · exact befMask_bit hacc (fun e he => hb e (by simp [he])) j h
def Closed (all : List Oper) (S : Nat → Bool) : Prop := ∀ i o, all[i]? = some o → S i = true → Below o.after.toList S
theorem befAll_acc {S : Nat → Bool} : ∀ {l : List Oper} {k : Nat} {acc : List (Nat × Nat)}, (∀ a b, assoc acc a = some b → S a = true → ∀ j, bitOf b j = true → S j = true) → (∀ j o, l[j]? = some o → S (k + j) = true → Below o.after.toList S) →
    ∀ a b, assoc (befAll l k acc) a = some b → S a = true → ∀ j, bitOf b j = true → S j = true
  | [], _, _, h, _ => h
  | o :: l, k, acc, h, hc => by
    unfold befAll
    refine befAll_acc (fun a b hab hS => ?_) fun j o hj hS => hc (j + 1) o (by simpa using hj) (by rw [show k + (j + 1) = k + 1 + j by omega]; exact hS)
    simp only [assoc] at hab
    cases hk : Nat.beq k a with
    | true =>
      rw [hk] at hab
      simp only [cond_true, Option.some.injEq] at hab
      subst hab
      have := Nat.eq_of_beq_eq_true hk
      subst this
      exact fun j => befMask_bit h (hc 0 o rfl hS) j
    | false => rw [hk] at hab; exact h a b hab hS
theorem bef_closed {S : Nat → Bool} (hc : Closed all S) {i : Nat} (hi : S i = true) {j : Nat} (h : bitOf ((assoc (befAll all 0 []) i).getD 0) j = true) : S j = true := by
  cases ha : assoc (befAll all 0 []) i with
  | none => rw [ha] at h; simp [bitOf] at h
  | some b =>
    rw [ha] at h
    exact befAll_acc (S := S) (fun a b h => by cases h) (fun j o hj hS => hc (0 + j) o (by simpa using hj) hS) i b ha hi j h
end
end Hd
set_option linter.unusedVariables false
set_option linter.unusedSimpArgs false
namespace Hd
open Go Hk
section
variable {B : Tab} {P : Program} {tt : List (TI B)} {specs : List (Spec B)} {calls : List (Nat × Nat)} {all : List Oper} {base n : Nat} {draw : Bool}
variable {M M' M0 : Loc → Option (Con B)} {G w : World} {L0 : List HProp} {f0 f f' : HP} {σ0 σ σ' : Rz B} {E E' E0 : List (Nat × EH)} {N N' : Nat → Prop} {ρ : Env} {tr : List (TrE B)}
theorem edgesLow_spec {i : Nat} : ∀ {l : List Edge}, edgesLow i l = true → ∀ e, e ∈ l → bindsB e = true → e.on < i
  | [], _, e, h, _ => by simp at h
  | a :: l, h, e, he, hb => by
    unfold edgesLow at h
    have key : (bindsB a = true → a.on < i) ∧ edgesLow i l = true := by
      split at h
      · simp only [Bool.and_eq_true, Nat.blt_eq] at h; exact ⟨fun _ => h.1, h.2⟩
      · rename_i hf; exact ⟨fun ht => (by rw [ht] at hf; cases hf), h⟩
    rcases List.mem_cons.1 he with rfl | he
    · exact key.1 hb
    · exact edgesLow_spec key.2 e he hb
def left (S : Nat → Bool) : Nat → Nat
  | 0 => 0
  | n + 1 => left S n + cond (S n) 0 1
theorem left_zero {S : Nat → Bool} : ∀ {n : Nat}, left S n = 0 → ∀ j, j < n → S j = true
  | 0, _, j, h => by omega
  | n + 1, h, j, hj => by
    unfold left at h
    by_cases e : j = n
    · subst e
      cases hS : S j with
      | true => rfl
      | false => rw [hS] at h; simp at h
    · exact left_zero (n := n) (by omega) j (by omega)
theorem left_ge {S : Nat → Bool} {i : Nat} : ∀ {n : Nat}, n ≤ i → left (addS S i) n = left S n
  | 0, _ => rfl
  | n + 1, h => by
    unfold left
    rw [left_ge (by omega), addS_ne (by omega)]
theorem left_add {S : Nat → Bool} {i : Nat} : ∀ {n : Nat}, i < n → S i = false → left (addS S i) n + 1 = left S n
  | 0, h, _ => by omega
  | n + 1, h, hS => by
    unfold left
    by_cases e : i = n
    · subst e
      rw [left_ge (Nat.le_refl _), addS_self, hS]
      rfl
    · rw [addS_ne (S := S) (show n ≠ i by omega)]
      have := left_add (n := n) (S := S) (i := i) (by omega) hS
      omega
def SL (listed : Array Bool) : Nat → Bool := fun j => listed.getD j false
theorem SL_set {listed : Array Bool} {i : Nat} (h : i < listed.size) : SL (listed.setIfInBounds i true) = addS (SL listed) i := by
  funext j
  unfold SL
  by_cases e : j = i
  · subst e; rw [addS_self]; simp [h]
  · rw [addS_ne e]; exact getD_set_ne false (Ne.symm e)
theorem SL_true {listed : Array Bool} {i : Nat} (h : i < listed.size) : listed.getD i true = SL listed i := by
  unfold SL
  simp [h]
def NS (base len : Nat) (S : Nat → Bool) : Nat → Prop := fun j => j < base ∨ ∃ i, i < len ∧ S i = true ∧ base + stepW * i ≤ j ∧ j < base + stepW * i + stepW
theorem stepW_disj {i i' j : Nat} (h1 : base + stepW * i ≤ j) (h2 : j < base + stepW * i + stepW) (h3 : base + stepW * i' ≤ j) (h4 : j < base + stepW * i' + stepW) : i = i' := by
  unfold stepW at *
  omega
theorem drawn_any [Rd] {Ds : List Nat} (htt : ttOk P tt = true) (hS : SpecsOk P specs) {Q : EPost} (hseq : SeqRan tt specs calls all base all 0 M0 tr) (hrows : apartRows (befAll all 0 []) (rowsR 0 tr []) = true)
    (hedge : ∀ j o, all[j]? = some o → edgesLow j o.after.toList = true) (hdst : DstLow n all)
    (hQ : ∀ f σ ρ w, SimF G L0 f0 σ0 (memSeq tr M0) (entSeq tr E0) (fun j => j < base + stepW * all.length) f σ ρ w → Q .normal Ds ρ w) :
    ∀ (fuel : Nat) (listed : Array Bool) (f : HP) (σ : Rz B) (ρ : Env) (w : World), listed.size = all.length → Closed all (SL listed) → left (SL listed) all.length ≤ fuel →
      SimF G L0 f0 σ0 (memB (SL listed) 0 tr M0) (entB (SL listed) 0 tr E0) (NS base all.length (SL listed)) f σ ρ w → EY P n all.toArray Q fuel listed Ds ρ w := by
  have hlen := seqRan_len hseq
  have full : ∀ (listed : Array Bool) (f : HP) (σ : Rz B) (ρ : Env) (w : World), (∀ j, j < all.length → SL listed j = true) →
      SimF G L0 f0 σ0 (memB (SL listed) 0 tr M0) (entB (SL listed) 0 tr E0) (NS base all.length (SL listed)) f σ ρ w → Q .normal Ds ρ w := by
    intro listed f σ ρ w hall hs
    rw [memB_all fun j _ hj => hall j (by omega), entB_all fun j _ hj => hall j (by omega)] at hs
    refine hQ f σ ρ w (hs.same fun j hj => ?_)
    rcases hj with hj | ⟨i, h1, _, h2, h3⟩
    · omega
    · have : stepW * i + stepW ≤ stepW * all.length := by rw [← Nat.mul_succ]; exact Nat.mul_le_mul_left _ h1
      omega
  have allIn : ∀ (listed : Array Bool), listed.size = all.length → Region.ready .any all.toArray listed = [] → ∀ j, j < all.length → SL listed j = true := by
    intro listed hsz hr j
    induction j using Nat.strongRecOn with
    | _ j ih =>
      intro hj
      cases hS : SL listed j with
      | true => rfl
      | false =>
        exfalso
        have : j ∈ Region.ready .any all.toArray listed := by
          rw [mem_ready]
          refine ⟨by rw [SL_true (by omega)]; exact hS, all[j], by simp [hj], fun e he hb => ?_⟩
          have := edgesLow_spec (hedge j all[j] (by simp [hj])) e (by simpa using he) (by rw [bindsB_eq]; exact hb)
          exact ih e.on this (by omega)
        rw [hr] at this
        cases this
  intro fuel
  induction fuel with
  | zero =>
    intro listed f σ ρ w hsz hc hl hs a ha
    have hall := left_zero (Nat.le_zero.1 hl)
    refine ⟨?_, Ds, ρ, ha, full listed f σ ρ w hall hs⟩
    cases hr : Region.ready .any all.toArray listed with
    | nil => rfl
    | cons i r =>
      exfalso
      have : i ∈ Region.ready .any all.toArray listed := by rw [hr]; simp
      rw [mem_ready] at this
      obtain ⟨h0, o, ho, _⟩ := this
      have hlt : i < all.length := by simpa using (Array.getElem?_eq_some_iff.1 ho).1
      rw [SL_true (by omega), hall i hlt] at h0
      cases h0
  | succ fuel ih =>
    intro listed f σ ρ w hsz hc hl hs a ha
    refine ⟨fun hr => ⟨Ds, ρ, ha, full listed f σ ρ w (allIn listed hsz hr) hs⟩, fun i hi => ?_⟩
    rw [mem_ready] at hi
    obtain ⟨h0, o, ho, hall⟩ := hi
    have hlt : i < all.length := by simpa using (Array.getElem?_eq_some_iff.1 ho).1
    have ho' : all[i]? = some o := by simpa using ho
    have hSi : SL listed i = false := by rw [← SL_true (by omega)]; exact h0
    have hbelow : Below o.after.toList (SL listed) := fun e he hb => hall e (by simpa using he) (by rw [← bindsB_eq]; exact hb)
    have hc' : Closed all (addS (SL listed) i) := by
      intro k ok hk hSk e he hb
      unfold addS
      rw [Bool.or_eq_true]
      right
      by_cases e' : k = i
      · subst e'
        rw [ho'] at hk
        injection hk with hk
        subst hk
        exact hbelow e he hb
      · rw [addS_ne e'] at hSk; exact hc k ok hk hSk e he hb
    obtain ⟨e, htr, hran⟩ := seqRan_at hseq i o ho'
    rw [Nat.zero_add] at hran
    have far : ∀ j ej, tr[j]? = some ej → (SL listed j ≠ Nat.blt j i) → (∀ l, l ∈ e.rs → look ej.um l = none) ∧ Apart e ej := by
      intro j ej hj hne
      rcases Nat.lt_trichotomy j i with h | h | h
      · have hb : Nat.blt j i = true := by rw [Nat.blt_eq]; exact h
        have hSj : SL listed j = false := by cases hq : SL listed j with | false => rfl | true => rw [hq, hb] at hne; exact absurd rfl hne
        have hp := apartRows_spec hrows i j e ej h htr hj
        rw [Nat.zero_add, Nat.zero_add] at hp
        rcases hp with hp | hp
        · exfalso
          have := bef_closed hc' (addS_self _ _) hp
          rw [addS_ne (by omega), hSj] at this
          cases this
        · exact ⟨hp.1, hp.2.2⟩
      · subst h
        rw [hSi, blt_self_false] at hne
        exact absurd rfl hne
      · have hb : Nat.blt j i = false := blt_false (by omega)
        have hSj : SL listed j = true := by cases hq : SL listed j with | true => rfl | false => rw [hq, hb] at hne; exact absurd rfl hne
        have hp := apartRows_spec hrows j i ej e h hj htr
        rw [Nat.zero_add, Nat.zero_add] at hp
        rcases hp with hp | hp
        · exfalso
          have := bef_closed hc hSj hp
          rw [hSi] at this
          cases this
        · exact ⟨hp.2.1, hp.2.2.symm⟩
    have hran' : OpRan tt specs calls all base i o (memB (SL listed) 0 tr M0) e := hran.congr fun l hl => memB_agree rfl fun j ej hj hne => by
      rw [Nat.zero_add] at hne
      exact (far j ej hj hne).1 l hl
    have hap : ∀ k ek, i < k → tr[k]? = some ek → SL listed (0 + k) = true → Apart e ek := fun k ek hik hk hSk => by
      rw [Nat.zero_add] at hSk
      exact (far k ek hk (by rw [hSk, blt_false (by omega)]; simp)).2
    have hb : ∀ j, base + stepW * i ≤ j → j < base + stepW * i + stepW → ¬ NS base all.length (SL listed) j := by
      rintro j h1 h2 (h3 | ⟨i', h3, h4, h5, h6⟩)
      · omega
      · have := stepW_disj h1 h2 h5 h6
        subst this
        rw [hSi] at h4
        cases h4
    refine wpOpIn_mono (fun a' w' hk => ?_) ((opRan_does htt hS hs hb hran').wpOp ho (fun d hd => hdst o (List.mem_of_getElem? ho') d hd) _ a ha)
    obtain ⟨ρ', ha', f', σ', hs'⟩ := hk
    have hset : SL (listed.setIfInBounds i true) = addS (SL listed) i := SL_set (by omega)
    refine ih (listed.setIfInBounds i true) f' σ' ρ' w' (by simp [hsz]) (by rw [hset]; exact hc') (by rw [hset]; have := left_add hlt hSi; omega) ?_ a' ha'
    rw [hset]
    have hm := memB_add (M := M0) htr (k := 0) (by rw [Nat.zero_add]; exact hSi) hap
    have he := entB_add (E := E0) htr (k := 0) (by rw [Nat.zero_add]; exact hSi) hap
    rw [Nat.zero_add] at hm he
    rw [hm]
    refine (hs'.ents_iff fun x => (he x).symm).same fun j hj => ?_
    rcases hj with (hj | ⟨i', h1, h2, h3⟩) | hj
    · exact .inl hj
    · refine .inr ⟨i', h1, ?_, h3⟩
      unfold addS
      rw [h2, Bool.or_true]
    · exact .inr ⟨i, hlt, addS_self _ _, hj⟩
theorem region_draw [Rd] {Ds : List Nat} (htt : ttOk P tt = true) (hS : SpecsOk P specs) (hm : P.follows .mixedOrders = true) {id : Nat} {Q : EPost} (hseq : SeqRan tt specs calls all base all 0 M0 tr) (hrows : apartRows (befAll all 0 []) (rowsR 0 tr []) = true)
    (hedge : ∀ j o, all[j]? = some o → edgesLow j o.after.toList = true) (hdst : DstLow n all) (hs : SimF G L0 f0 σ0 M0 E0 (fun j => j < base) f σ ρ w)
    (hQ : ∀ f σ ρ w, SimF G L0 f0 σ0 (memSeq tr M0) (entSeq tr E0) (fun j => j < base + stepW * all.length) f σ ρ w → Q .normal Ds ρ w) : EWp P n (.region id all.toArray true) Q Ds ρ w := by
  have hz : ∀ j, SL (Array.replicate all.length false) j = false := fun j => by
    unfold SL
    simp only [Array.getD_eq_getD_getElem?, Array.getElem?_replicate]
    split <;> rfl
  have hle : ∀ (S : Nat → Bool) (n : Nat), left S n ≤ n := by
    intro S n
    induction n with
    | zero => exact Nat.le_refl _
    | succ n ih => unfold left; cases S n <;> simp only [cond_true, cond_false] <;> omega
  intro a ha
  refine wpIn_region_any hm ?_
  have hsz : all.toArray.size = all.length := by simp
  rw [hsz]
  refine drawn_any htt hS hseq hrows hedge hdst hQ all.length _ f σ ρ _ (by simp) (fun i o hi hSi => by rw [hz] at hSi; cases hSi) (hle _ _) ?_ a ha
  rw [memB_none fun j _ => hz j, entB_none fun j _ => hz j]
  exact hs.drew.same fun j hj => .inl hj
theorem region_list [Rd] {Ds : List Nat} (htt : ttOk P tt = true) (hS : SpecsOk P specs) {id : Nat} {Q : EPost} (hseq : SeqRan tt specs calls all base all 0 M0 tr) (hdst : DstLow n all) (hs : SimF G L0 f0 σ0 M0 E0 (fun j => j < base) f σ ρ w)
    (hQ : ∀ f σ ρ w, SimF G L0 f0 σ0 (memSeq tr M0) (entSeq tr E0) (fun j => j < base + stepW * all.length) f σ ρ w → Q .normal Ds ρ w) : EWp P n (.region id all.toArray false) Q Ds ρ w := by
  refine ewp_region (seqRan_el htt hS hseq hdst (hs.same fun j hj => by simpa using hj) fun f σ ρ w h => hQ f σ ρ w ?_)
  rw [Nat.zero_add] at h
  exact h
end
end Hd
