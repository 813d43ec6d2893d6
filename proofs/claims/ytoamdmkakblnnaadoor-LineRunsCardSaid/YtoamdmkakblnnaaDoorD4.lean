/- Stores; all operations but calls of functions. -/
import Derived.Test.YtoamdmkakblnnaaDoorD3
set_option linter.unusedVariables false
set_option linter.unusedSimpArgs false
namespace Hd
open Go Hk
section
variable {B : Tab} {P : Program} {tt : List (TI B)} {M : Loc → Option (Con B)} {G w : World} {L0 : List HProp} {f0 f : HP} {σ0 σ : Rz B} {E : List (Nat × EH)} {N : Nat → Prop} {ρ : Env}
variable {base : Nat} {dst : Option Tmp} {ty : TypeId} {pos : String} {after : Array Edge} {guard : Option (Nat × Bool)} {out : Out B} {rs : List Loc} {ρr : Type} {o : ρr}
theorem set_arr (hs : SimF G L0 f0 σ0 M E N f σ ρ w) (hb : ∀ j, base ≤ j → j < base + stepV → ¬ N j) {a : Nat} {e : Ty} {ys zs : List (den B.T e)} {s nn : Nat} (hM : M (.a a) = some (.arr e ys s nn)) {E2 : List (Nat × EH)} {L2 : List HProp} {A : Option Addr} {n c : Nat} {cur : Array Value} {w' : World}
    (ho : Once E2) (hm : ∀ x, x ∈ E2 ↔ x ∈ E ∧ x.1 ∉ [a]) (he : Ents f σ M E2 L2) (hσa : σ a = some (.hdr A n c)) (hw : Wd G w' f (Arr A c cur :: (L2 ++ L0))) (hok : ArrOk f (relB B e) A n c cur zs) (h1 : 1 ≤ nn → A.isSome = true) (h2 : 2 ≤ nn → zs ≠ []) :
    Goal G L0 f0 σ0 M E N base f σ ρ ⟨none, [(.a a, .arr e zs base nn)], [], []⟩ none w' := by
  have b0 : σ base = none := by simpa using base_none hs hb 0 (by decide)
  have hne : ∀ i h, (i, h) ∈ E → i ≠ base := fun i h hi e => by subst e; exact ents_some hs hi b0
  have hσ : Rz.le σ (setR σ base (.con e zs)) := setR_le b0
  have haE := hs.arrs a e ys s nn hM
  have hup : ∀ l, l ≠ .a a → look [(Loc.a a, Con.arr e zs base nn)] l = none := fun l hl => by rw [look_cons_ne (Ne.symm hl)]; rfl
  refine ⟨f, _, HP.le_refl _, hσ, hs.updS (HP.le_refl _) hσ (fun i hi => ?_) (fun l q hl => ?_) (fun i h hi => .inl (by simpa [delsE] using hi)) ⟨(a, .arr e) :: E2, Arr A c cur :: L2, ho.cons fun k hk => by have := ((hm _).1 hk).2; simp at this, fun x => ?_, ⟨?_, ?_⟩, hw⟩, trivial⟩
  · have : i ≠ base := fun e => hi (.inr ⟨by omega, by simp only [stepW]; omega⟩)
    rw [setR_ne this]
    exact hs.fresh _ fun h => hi (.inl h)
  · by_cases hla : Loc.a a = l
    · subst hla
      rw [look_cons_self] at hl
      injection hl with hl; subst hl
      show (a, EH.arr e) ∈ delsE _ _
      simpa [delsE] using haE
    · rw [hup l (Ne.symm hla)] at hl; cases hl
  · simp only [delsE, List.nil_append, List.mem_cons, hm]
    constructor
    · rintro (rfl | ⟨h, _⟩)
      · exact haE
      · exact h
    · intro h
      by_cases hx : x.1 = a
      · left
        have := only_one hs (i := a) (h := x.2) (h' := .arr e) (by rw [← hx]; exact h) haE
        rw [← this, ← hx]
      · exact .inr ⟨h, by simpa using hx⟩
  · exact ⟨A, n, c, cur, zs, base, nn, hσ _ _ hσa, rfl, ovl_some (look_cons_self _ _ _), setR_self _ _ _, hok, h1, h2⟩
  · refine Ents.mono (HP.le_refl _) hσ (fun i h hi => ?_) he
    have hia : i ≠ a := by have := ((hm _).1 hi).2; simpa using this
    cases h with
    | arr e' => exact hup _ (by simpa using hia)
    | grid e' => exact hup _ (by simpa using hia)
    | mp _ _ => exact hup _ (by simpa using hia)
    | blk t m => exact ⟨hup _ (by simp), fun j => hup _ (by simp)⟩
theorem setI_ne {α : Type} {xs : List α} {i : Int} {y : α} (h : xs ≠ []) : setI xs i y ≠ [] := by
  intro h0
  have : (setI xs i y).length = 0 := by rw [h0]; rfl
  simp only [setI, List.length_set] at this
  exact h (List.eq_nil_of_length_eq_zero this)
theorem nbeqF {a b : Nat} (h : Nat.beq a b = false) : a ≠ b := fun e => by subst e; simp at h
theorem set_grid (hs : SimF G L0 f0 σ0 M E N f σ ρ w) (hb : ∀ j, base ≤ j → j < base + stepV → ¬ N j) {g : Nat} {e : Ty} {rows rows' : List (List (den B.T e))} {s h nn : Nat} {hole hole' : Option Int} (hM : M (.a g) = some (.grid e rows s h hole nn))
    {E2 : List (Nat × EH)} {L2 : List HProp} {A : Option Addr} {n c : Nat} {cur : Array Value} {hdl : List Hdr} {rl : List (Option (Array Value))} {w' : World}
    (ho : Once E2) (hm : ∀ x, x ∈ E2 ↔ x ∈ E ∧ x.1 ∉ [g]) (he : Ents f σ M E2 L2) (hσa : σ g = some (.hdr A n c)) (hσh : σ h = some (.hdrs hdl)) (hw : Wd G w' f (GridH A c cur hdl rl :: (L2 ++ L0))) (hok : GridOk f (relB B e) A n c cur hdl rl rows' (holeP hole')) (h1 : 1 ≤ nn → A.isSome = true) :
    Goal G L0 f0 σ0 M E N base f σ ρ ⟨none, [(.a g, .grid e rows' base h hole' nn)], [], []⟩ none w' := by
  have b0 : σ base = none := by simpa using base_none hs hb 0 (by decide)
  have hne : ∀ i h, (i, h) ∈ E → i ≠ base := fun i h hi e => by subst e; exact ents_some hs hi b0
  have hσ : Rz.le σ (setR σ base (.con (.sl e) rows')) := setR_le b0
  have haE := hs.grds g e rows s h hole nn hM
  have hup : ∀ l, l ≠ .a g → look [(Loc.a g, Con.grid e rows' base h hole' nn)] l = none := fun l hl => by rw [look_cons_ne (Ne.symm hl)]; rfl
  refine ⟨f, _, HP.le_refl _, hσ, hs.updS (HP.le_refl _) hσ (fun i hi => ?_) (fun l q hl => ?_) (fun i h hi => .inl (by simpa [delsE] using hi)) ⟨(g, .grid e) :: E2, GridH A c cur hdl rl :: L2, ho.cons fun k hk => by have := ((hm _).1 hk).2; simp at this, fun x => ?_, ⟨?_, ?_⟩, hw⟩, trivial⟩
  · have : i ≠ base := fun e => hi (.inr ⟨by omega, by simp only [stepW]; omega⟩)
    rw [setR_ne this]
    exact hs.fresh _ fun h => hi (.inl h)
  · by_cases hla : Loc.a g = l
    · subst hla
      rw [look_cons_self] at hl
      injection hl with hl; subst hl
      show (g, EH.grid e) ∈ delsE _ _
      simpa [delsE] using haE
    · rw [hup l (Ne.symm hla)] at hl; cases hl
  · simp only [delsE, List.nil_append, List.mem_cons, hm]
    constructor
    · rintro (rfl | ⟨h, _⟩)
      · exact haE
      · exact h
    · intro h
      by_cases hx : x.1 = g
      · left
        have := only_one hs (i := g) (h := x.2) (h' := .grid e) (by rw [← hx]; exact h) haE
        rw [← this, ← hx]
      · exact .inr ⟨h, by simpa using hx⟩
  · exact ⟨A, n, c, cur, hdl, rl, rows', base, h, hole', nn, hσ _ _ hσa, rfl, ovl_some (look_cons_self _ _ _), setR_self _ _ _, hσ _ _ hσh, hok, h1⟩
  · refine Ents.mono (HP.le_refl _) hσ (fun i h hi => ?_) he
    have hia : i ≠ g := by have := ((hm _).1 hi).2; simpa using this
    cases h with
    | arr e' => exact hup _ (by simpa using hia)
    | grid e' => exact hup _ (by simpa using hia)
    | mp _ _ => exact hup _ (by simpa using hia)
    | blk t m => exact ⟨hup _ (by simp), fun j => hup _ (by simp)⟩
theorem run_gridPutC {α : Type} {E : FRel α} {A : Option Addr} {n c : Nat} {cur : Array Value} {hs : List Hdr} {rs : List (Option (Array Value))} {xss : List (List α)} {hole : Nat → Prop} {L : List HProp}
    {B : Option Addr} {m q : Nat} {r' : Array Value} {i : Int} {xs ys : List α} {t : TypeId} {a o : Operand} (h : Wd G w f (GridH A c cur hs rs :: Arr B q r' :: L)) (hok : GridOk f E A n c cur hs rs xss hole) (hh : ∀ k, hole k → k = i.toNat)
    (hrow : ArrOk f E B m q r' ys) (hx : idx xss i = some xs) (ha : ev ρ a = .pointer (some (eAdr A (i.toNat * 1)))) (ho : (ev ρ o).cells.toList = [.slice B m q]) (hs' : tySize P t = some (ev ρ o).cells.size) :
    ∃ w', (execOp (ev ρ) ⟨dst, .store t a o, ty, pos, after, guard⟩).run P w = .ok .skip w' ∧ ∃ cur' hs' rs', GridOk f E A n c cur' hs' rs' (setI xss i ys) noHole ∧ Wd G w' f (GridH A c cur' hs' rs' :: L) := by
  obtain ⟨h0, h1, h2⟩ := idx_spec hx
  have hhl : i.toNat < hs.length := by rw [hok.rows.lh]; exact h1
  have hidx : idx hs i = some (hs[i.toNat]) := by unfold idx; rw [if_pos h0]; exact List.getElem?_eq_getElem hhl
  obtain ⟨w', hrun, cur', hok', hw'⟩ := run_arrSet (E := fHdr) (y := ((B, m, q) : Hdr)) (dst := dst) (ty := ty) (pos := pos) (after := after) (guard := guard) (wd_gridOpen h) hok.arr hidx ha rfl hs' (news := [.slice B m q]) ho rfl
  have hw1 := wd_rowsHole i.toNat (by rw [hok.rows.lr, hok.rows.lh]) hw'.swap
  have hw2 := wd_rowsPut (hd := (B, m, q)) hhl (fun r'' hr'' => by
    rw [List.getElem?_set_self (by rw [hok.rows.lr]; exact h1)] at hr''; cases hr'') hw1.front2
  rw [List.set_set] at hw2
  refine ⟨w', hrun, cur', _, _, ⟨hok', rows_set hok.rows h1 (hd := (B, m, q)) hrow rfl, fun k hk _ => ?_⟩, wd_gridShut hw2.swap⟩
  by_cases hki : k = i.toNat
  · subst hki
    exact ⟨r', List.getElem?_set_self (by rw [hok.rows.lr]; exact h1)⟩
  · rw [List.getElem?_set_ne (fun e => hki e.symm)]
    exact hok.full k (by simpa [setI] using hk) (fun hf => hki (hh k hf))
theorem putRow_does (hs : SimF G L0 f0 σ0 M E N f σ ρ w) (hb : ∀ j, base ≤ j → j < base + stepV → ¬ N j) {t : TypeId} {size g : Nat} {e0 : Ty} {i : Int} {a x : Operand} {cs : List (Cel B)} (ha : CRel f σ (.gop g e0 i) (ev ρ a)) (hc : CRels f σ cs (ev ρ x).cells.toList)
    (hsz : tySize P t = some (ev ρ x).cells.size) (h : (putRow base g i size cs).Ran M out rs) : Does P ⟨dst, .store t a x, ty, pos, after, guard⟩ ρ w (Goal G L0 f0 σ0 M E N base f σ ρ out) := by
  unfold putRow at h
  split at h <;> try exact h.elim
  rename_i k
  obtain ⟨rs1, h1⟩ := read_ran h
  cases hM : M (.a g) with
  | none => rw [hM] at h1; exact h1.elim
  | some q =>
  rw [hM] at h1
  cases q <;> try exact h1.elim
  rename_i e rows s hh hole nn
  obtain ⟨rs2, h2⟩ := read_ran h1
  cases hMk : M (.a k) with
  | none => rw [hMk] at h2; exact h2.elim
  | some q =>
  rw [hMk] at h2
  cases q <;> try exact h2.elim
  rename_i e' ys s2 nn2
  obtain ⟨hq, h3⟩ := chk_ran h2
  obtain ⟨ys', hcast, h4⟩ := opt_ran h3
  obtain ⟨rfl, rfl⟩ := castSl hcast
  obtain ⟨u, hu, h5⟩ := bind_ran h4
  obtain ⟨row, hrow, h6⟩ := bind_ran h5
  obtain rfl := ret_ran h6
  clear h h1 h2 h3 h4 h5 h6
  simp only [Bool.and_eq_true, Bool.not_eq_true'] at hq
  have hkg : k ≠ g := nbeqF hq.2
  obtain ⟨E2, L2, A, n, c, cur, hdl, rl, r1, r2, r3, r4, r5, r5', r6, r7, r9⟩ := take_grid hs hM
  have hkE : (k, EH.arr e') ∈ E2 := (r2 _).2 ⟨hs.arrs k e' _ s2 nn2 hMk, by simpa using hkg⟩
  obtain ⟨Ak, L3, hrk, he3, hw3⟩ := Ents.take (P := [GridH A c cur hdl rl]) r1 hkE r3 r9
  obtain ⟨H, nk, ck, curk, xs', s', nn', q1, rfl, q3, q4, q5, q6, q7⟩ := hrk
  rw [hMk] at q3
  injection q3 with q3
  injection q3 with _ e2 e3 e4
  subst e2 e3 e4
  obtain ⟨b, o, n', c', p1, hv⟩ := ha
  rw [p1] at r4
  injection r4 with r4
  injection r4 with a1 a2 a3
  subst a1 a2 a3
  have hcell : (ev ρ x).cells.toList = [.slice H nk ck] := by
    cases hcl : (ev ρ x).cells.toList with
    | nil => rw [hcl] at hc; exact hc.elim
    | cons v l =>
      rw [hcl] at hc
      obtain ⟨⟨H', n', c', z1, z2⟩, z3⟩ := hc
      cases l with
      | cons _ _ => exact z3.elim
      | nil =>
        rw [q1] at z1
        injection z1 with z1
        injection z1 with b1 b2 b3
        subst b1 b2 b3
        rw [z2]
  have hhole : ∀ z, holeP hole z → z = i.toNat := fun z hz => by
    cases hole with
    | none => exact hz.elim
    | some j =>
      have hu : (if j = i then some () else none) = some u := hu
      split at hu
      · rename_i hji; subst hji; exact hz
      · cases hu
  obtain ⟨w', hrun, cur', hdl', rl', hok', hw'⟩ := run_gridPutC (dst := dst) (ty := ty) (pos := pos) (after := after) (guard := guard) hw3.swap r6 hhole q5 hrow hv hcell hsz
  have b0 : σ base = none := by simpa using base_none hs hb 0 (by decide)
  have b1 : σ (base + 1) = none := base_none hs hb 1 (by decide)
  have hne : ∀ i h, (i, h) ∈ E → i ≠ base := fun i h hi e => by subst e; exact ents_some hs hi b0
  have hσ1 : Rz.le σ (setR σ base (.con (.sl e') (setI rows i ys'))) := setR_le b0
  have hσ : Rz.le σ (setR (setR σ base (.con (.sl e') (setI rows i ys'))) (base + 1) (.hdrs hdl')) := Rz.le_trans hσ1 (setR_le (by rw [setR_ne (by omega)]; exact b1))
  have haE := hs.grds g e' rows s hh hole nn hM
  have hkE' := hs.arrs k e' _ _ _ hMk
  have hup : ∀ l, l ≠ .a g → l ≠ .a k → look [(Loc.a g, Con.grid e' (setI rows i ys') base (base + 1) none nn), (Loc.a k, Con.gone)] l = none := fun l hl hl2 => by rw [look_cons_ne (Ne.symm hl), look_cons_ne (Ne.symm hl2)]; rfl
  refine .inr (.inl ⟨w', hrun, f, _, HP.le_refl _, hσ, hs.updS (HP.le_refl _) hσ (fun i hi => ?_) (fun l q hl => ?_) (fun i h hi => ?_) ⟨(g, .grid e') :: delE E2 k, GridH _ _ cur' hdl' rl' :: L3, (r1.delE).cons fun k hk => by have := ((r2 _).1 (mem_delE.1 hk).1).2; simp at this, fun z => ?_, ⟨?_, ?_⟩, hw'⟩, trivial⟩)
  · have : i ≠ base ∧ i ≠ base + 1 := ⟨fun e => hi (.inr ⟨by omega, by simp only [stepW]; omega⟩), fun e => hi (.inr ⟨by omega, by simp only [stepW]; omega⟩)⟩
    rw [setR_ne this.2, setR_ne this.1]
    exact hs.fresh _ fun h => hi (.inl h)
  · by_cases hla : Loc.a g = l
    · subst hla
      rw [look_cons_self] at hl
      injection hl with hl; subst hl
      show (g, EH.grid e') ∈ delsE _ _
      rw [mem_delsE]
      exact ⟨haE, by simpa using Ne.symm hkg⟩
    · by_cases hlk : Loc.a k = l
      · subst hlk
        rw [look_cons_ne hla, look_cons_self] at hl
        injection hl with hl; subst hl
        trivial
      · rw [hup l (Ne.symm hla) (Ne.symm hlk)] at hl; cases hl
  · by_cases hik : i = k
    · subst hik
      right
      obtain ⟨e2, rfl⟩ := (only_arr hs hMk).2 h hi
      rw [show keyE i (EH.arr e2) = Loc.a i from rfl, look_cons_ne (by simpa using Ne.symm hkg), look_cons_self]; simp
    · left
      rw [mem_delsE]
      exact ⟨hi, by simpa using hik⟩
  · rw [mem_delsE, List.mem_cons, mem_delE, r2]
    constructor
    · rintro (rfl | ⟨⟨h, _⟩, h2⟩)
      · exact ⟨haE, by simpa using Ne.symm hkg⟩
      · exact ⟨h, by simpa using h2⟩
    · rintro ⟨h, h2⟩
      have h2 : z.1 ≠ k := by simpa using h2
      by_cases hx : z.1 = g
      · left
        have := only_one hs (i := g) (h := z.2) (h' := .grid e') (by rw [← hx]; exact h) haE
        rw [← this, ← hx]
      · exact .inr ⟨⟨h, by simpa using hx⟩, h2⟩
  · exact ⟨_, _, _, cur', hdl', rl', _, base, base + 1, none, nn, hσ _ _ p1, rfl, ovl_some (look_cons_self _ _ _), by rw [setR_ne (by omega)]; exact setR_self _ _ _, setR_self _ _ _, hok', r7⟩
  · refine Ents.mono (HP.le_refl _) hσ (fun i h hi => ?_) he3
    obtain ⟨h1, h2⟩ := mem_delE.1 hi
    have hia : i ≠ g := by have := ((r2 _).1 h1).2; simpa using this
    have h2 : i ≠ k := h2
    cases h with
    | arr e' => exact hup _ (by simpa using hia) (by simpa using h2)
    | grid e' => exact hup _ (by simpa using hia) (by simpa using h2)
    | mp _ _ => exact hup _ (by simpa using hia) (by simpa using h2)
    | blk t m => exact ⟨hup _ (by simp) (by simp), fun j => hup _ (by simp) (by simp)⟩
theorem run_arrAll {α : Type} {E : FRel α} {n c : Nat} {cur : Array Value} {xs ys : List α} {ess : List (List Value)} {b o : Nat} {t : TypeId} {a x : Operand} {L : List HProp} (h : Wd G w f (Arr (some ⟨b, o, none⟩) c cur :: L)) (hok : ArrOk f E (some ⟨b, o, none⟩) n c cur xs)
    (hlen : ys.length = xs.length) (hpos : 0 < xs.length) (hE : RelAll E f ess ys) (ha : ev ρ a = .pointer (some ⟨b, o, none⟩)) (hsz : tySize P t = some (ev ρ x).cells.size) (hv : (ev ρ x).cells.toList = ess.flatten) :
    ∃ w', (execOp (ev ρ) ⟨dst, .store t a x, ty, pos, after, guard⟩).run P w = .ok .skip w' ∧ ∃ cur', ArrOk f E (some ⟨b, o, none⟩) n c cur' ys ∧ Wd G w' f (Arr (some ⟨b, o, none⟩) c cur' :: L) := by
  obtain ⟨S0, g1, _⟩ := (h.front 0 rfl).sep
  have hle := hok.le
  rcases g1 with ⟨g, _⟩ | ⟨a', ha', g2, bt, g3⟩
  · omega
  injection ha' with ha'
  subst ha'
  have hb : w.heap[b]? = some (.cells cur bt (0, 0)) := g3
  obtain ⟨r1, r2, r3⟩ := RelAll.get hE
  have hfit : o + ess.flatten.length ≤ cur.size := by
    rcases hok.or with k | ⟨b', o', k1, k2⟩
    · omega
    · injection k1 with k1
      injection k1 with _ k1
      subst k1
      rw [r2, hlen]
      have := Nat.mul_le_mul_right E.n hle
      omega
  obtain ⟨k1, k2⟩ := wh_setRow w b cur (splice cur o ess.flatten) bt (0, 0) hb
  have hcs : (ev ρ x).cells.size = ess.flatten.length := by rw [← hv]; simp
  refine ⟨_, run_store ha rfl hsz hb (by rw [hcs]; exact hfit) (by rw [hv]; exact relAll_one hE), splice cur o ess.flatten, ⟨by rw [hlen]; exact hok.len, by omega, hok.max, ?_, fun i y hy => ?_⟩, ?_⟩
  · rcases hok.or with k | ⟨b', o', k1, k2⟩
    · omega
    · exact .inr ⟨b', o', k1, by rw [splice_size hfit]; exact k2⟩
  · obtain ⟨es, e1, e2⟩ := r3 i y hy
    refine ⟨es, fun j v hj => ?_, e2⟩
    show (splice cur o ess.flatten)[o + i * E.n + j]? = some v
    rw [Nat.add_assoc]
    exact splice_in hfit (e1 j v hj)
  · rw [hv]
    refine h.step0 rfl rfl rfl fun S hS hne => ?_
    have hSb : S b := by
      rcases hS with ⟨g, _⟩ | ⟨a', ha', g2, _⟩
      · omega
      · injection ha' with ha'; subst ha'; exact g2
    refine ⟨S, .inr ⟨⟨b, o, none⟩, rfl, hSb, bt, k1⟩, fun d hd => ⟨.inl hd, ?_⟩, fun d hd _ => k2 d (fun e => hd (e ▸ hSb))⟩
    by_cases e : d = b
    · subst e; rw [k1]; simp
    · rw [k2 d e]; exact hne d hd
theorem stA_does (htt : ttOk P tt = true) (hs : SimF G L0 f0 σ0 M E N f σ ρ w) (hb : ∀ j, base ≤ j → j < base + stepV → ¬ N j) {t i : Nat} {off : Int} {a x : Operand} (ha : CRel f σ (.pa i off : Cel B) (ev ρ a)) (h : (stA tt base t i off x).Ran M out rs) :
    Does P ⟨dst, .store t a x, ty, pos, after, guard⟩ ρ w (Goal G L0 f0 σ0 M E N base f σ ρ out) := by
  unfold stA at h
  cases hti : tfind tt t with
  | none => rw [hti] at h; exact h.elim
  | some ti =>
    rw [hti] at h
    dsimp only at h
    obtain ⟨k1, rfl⟩ := tfind_ok htt hti
    have ft := tiOk_facts k1
    obtain ⟨b, o, n, c, q1, hv, q2⟩ := ha
    split at h
    · obtain ⟨cs, rs1, hcs, h1⟩ := opdL_ran hs h
      obtain ⟨hq, h2⟩ := chk_ran h1
      simp only [Bool.and_eq_true] at hq
      have hsz := Nat.eq_of_beq_eq_true hq.1
      obtain ⟨rs2, h3⟩ := read_ran h2
      cases hM : M (.a i) with
      | none => rw [hM] at h3; exact h3.elim
      | some q =>
      rw [hM] at h3
      cases q <;> try exact h3.elim
      rename_i e xs s nn
      obtain ⟨hn, h4⟩ := chk_ran h3
      have hn := Nat.eq_of_beq_eq_true hn
      obtain ⟨y, hy, h5⟩ := bind_ran h4
      obtain ⟨z, hz, h6⟩ := opt_ran h5
      obtain rfl := ret_ran h6
      obtain ⟨E2, L2, A, n', c', cur, r1, r2, r3, r4, r5, r6, r7, r8, r9⟩ := take_arr hs hM
      rw [q1] at r4
      injection r4 with r4
      injection r4 with a1 a2 a3
      subst a1 a2 a3
      have hc := hcs hq.2
      have hp := dataOf_ok hz hc
      have hl := (relB B e).len hp
      obtain ⟨w', u1, cur', u2, u3⟩ := run_arrSet (dst := dst) (ty := ty) (pos := pos) (after := after) (guard := guard) (a := a) (o := x) (t := ti.id) r9 r6 hy (by rw [hv, hn, Nat.mul_one]; rfl) rfl (by rw [ft.size, hsz, ← hn, ← hl]; simp) rfl hp
      refine .inr (.inl ⟨w', u1, set_arr hs hb hM r1 r2 r3 q1 u3 u2 r7 fun hnn => ?_⟩)
      exact setI_ne (r8 hnn)
    · obtain ⟨d, rs1, hd, h1⟩ := opd_ran hs h
      cases d <;> try exact h1.elim
      case agg cs =>
        obtain ⟨hq, h1⟩ := chk_ran h1
        simp only [Bool.and_eq_true] at hq
        have hpos := hq.1
        unfold stAgg at h1
        split at h1 <;> try exact h1.elim
        obtain ⟨rs2, h3⟩ := read_ran h1
        cases hM : M (.a i) with
        | none => rw [hM] at h3; exact h3.elim
        | some q =>
        rw [hM] at h3
        cases q <;> try exact h3.elim
        rename_i e xs s nn
        obtain ⟨hn, h4⟩ := chk_ran h3
        simp only [Bool.and_eq_true] at hn
        obtain ⟨hn, hcl2⟩ := hn
        have hn := Nat.eq_of_beq_eq_true hn
        have hcl2 := Nat.eq_of_beq_eq_true hcl2
        obtain ⟨ys, hys, h5⟩ := opt_ran h4
        obtain ⟨u, hg1, h6⟩ := bind_ran h5
        obtain rfl := ret_ran h6
        have hg1 := glen_spec hg1
        obtain ⟨E2, L2, A, n', c', cur, r1, r2, r3, r4, r5, r6, r7, r8, r9⟩ := take_arr hs hM
        rw [q1] at r4
        injection r4 with r4
        injection r4 with a1 a2 a3
        subst a1 a2 a3
        obtain ⟨vs, hve, hcs⟩ := hd
        obtain ⟨ess, rfl, hE, hlen⟩ := elems_ok hys hcs
        have hg2 : ys.length = ti.size := by rw [hlen, hcl2]
        have hfl : ess.flatten.length = ys.length * (relB B e).n := relAll_len hE
        have hcl : (ev ρ x).cells = ess.flatten.toArray := by rw [hve]; rfl
        obtain ⟨w', u1, cur', u2, u3⟩ := run_arrAll (dst := dst) (ty := ty) (pos := pos) (after := after) (guard := guard) (a := a) (x := x) (t := ti.id) r9 r6 (hg2.trans hg1.symm) (by rw [hg1]; exact Nat.le_of_ble_eq_true hpos) hE (by rw [hv]; rfl) (by rw [ft.size, hcl, List.size_toArray, hfl, hg2, hn, Nat.mul_one]) (by rw [hcl])
        exact .inr (.inl ⟨w', u1, set_arr hs hb hM r1 r2 r3 q1 u3 u2 r7 fun hnn => by
          have := Nat.le_of_ble_eq_true hpos
          intro e0
          rw [e0] at hg2
          simp at hg2
          omega⟩)
      rename_i e' ys
      obtain ⟨hpos, h1⟩ := chk_ran h1
      split at h1 <;> try exact h1.elim
      obtain ⟨rs2, h3⟩ := read_ran h1
      cases hM : M (.a i) with
      | none => rw [hM] at h3; exact h3.elim
      | some q =>
      rw [hM] at h3
      cases q <;> try exact h3.elim
      rename_i e xs s nn
      obtain ⟨hn, h4⟩ := chk_ran h3
      have hn := Nat.eq_of_beq_eq_true hn
      obtain ⟨ys', hcast, h5⟩ := opt_ran h4
      obtain ⟨rfl, rfl⟩ := castSl hcast
      obtain ⟨u, hg1, h6⟩ := bind_ran h5
      obtain ⟨u', hg2, h7⟩ := bind_ran h6
      obtain rfl := ret_ran h7
      have hg1 := glen_spec hg1
      have hg2 := glen_spec hg2
      obtain ⟨E2, L2, A, n', c', cur, r1, r2, r3, r4, r5, r6, r7, r8, r9⟩ := take_arr hs hM
      rw [q1] at r4
      injection r4 with r4
      injection r4 with a1 a2 a3
      subst a1 a2 a3
      obtain ⟨vs, hve, hl, ess, rfl, hE⟩ := hd
      have hfl : ess.flatten.length = ys'.length * (relB B e').n := relAll_len hE
      have hcl : (ev ρ x).cells = ess.flatten.toArray := by rw [hve]; rfl
      obtain ⟨w', u1, cur', u2, u3⟩ := run_arrAll (dst := dst) (ty := ty) (pos := pos) (after := after) (guard := guard) (a := a) (x := x) (t := ti.id) r9 r6 (hg2.trans hg1.symm) (by rw [hg1]; exact Nat.le_of_ble_eq_true hpos) hE (by rw [hv]; rfl) (by rw [ft.size, hcl, List.size_toArray, hfl, hn, Nat.mul_one, hg2]) (by rw [hcl])
      exact .inr (.inl ⟨w', u1, set_arr hs hb hM r1 r2 r3 q1 u3 u2 r7 fun hnn => by
        have := Nat.le_of_ble_eq_true hpos
        intro e0
        rw [e0] at hg2
        simp at hg2
        omega⟩)
theorem store_does (htt : ttOk P tt = true) (hs : SimF G L0 f0 σ0 M E N f σ ρ w) (hb : ∀ j, base ≤ j → j < base + stepV → ¬ N j) {t : TypeId} {a x : Operand} (h : (opProg tt base (.store t a x)).Ran M out rs) :
    Does P ⟨dst, .store t a x, ty, pos, after, guard⟩ ρ w (Goal G L0 f0 σ0 M E N base f σ ρ out) := by
  obtain ⟨ca, rs1, ha, h1⟩ := opd1_ran hs h
  clear h
  by_cases hpa : ∃ i off, ca = .pa i off
  · obtain ⟨i, off, rfl⟩ := hpa
    exact stA_does htt hs hb ha h1
  obtain ⟨cs, rs2, hcs, h2⟩ := opdL_ran hs (show (opdL x fun cs => match (generalizing := false) tfind tt t with
    | some ti => RM.chk (Nat.beq cs.length ti.size && noUnd cs) <| match (generalizing := false) ca with
      | .ptr i o => .read (.b i) fun
        | some (.blk _ n) => RM.chk (Nat.ble (o + cs.length) n) (.ret ⟨none, upC i o cs, [], []⟩)
        | _ => .fail
      | .gop g _ i => putRow base g i ti.size cs
      | .gel g e i j y o s h => curG B g e i j y s h fun rows row h' hole nn z => dataC ⟨[], [], [], base, []⟩ cs fun cs ov => RM.chk (noLook ov.up (.a g)) (storeG base g e i j o nn h' hole rows row cs ov)
      | .oel a e i y o s => curEl B a e i y s fun ys nn z => dataC ⟨[], [], [], base, []⟩ cs fun cs ov => RM.chk (noLook ov.up (.a a)) (storeEl base a e i o nn ys z cs ov)
      | _ => .fail
    | none => .fail : RM B (Out B)).Ran M out rs1 by cases ca <;> first | exact h1 | exact absurd ⟨_, _, rfl⟩ hpa)
  clear h1
  cases hti : tfind tt t with
  | none => rw [hti] at h2; exact h2.elim
  | some ti =>
    rw [hti] at h2
    obtain ⟨k1, rfl⟩ := tfind_ok htt hti
    have ft := tiOk_facts k1
    obtain ⟨hq, h3⟩ := chk_ran h2
    clear h2
    simp only [Bool.and_eq_true] at hq
    have hlen := Nat.eq_of_beq_eq_true hq.1
    have hc := hcs hq.2
    have hl := hc.len
    have hsz : tySize P ti.id = some (ev ρ x).cells.size := by rw [ft.size, ← hlen, ← hl]; simp
    have hone := noUnd_one hc hq.2
    cases ca <;> try exact h3.elim
    case ptr i off =>
      obtain ⟨rs3, h4⟩ := read_ran h3
      clear h3
      cases hM : M (.b i) with
      | none => rw [hM] at h4; exact h4.elim
      | some q =>
        rw [hM] at h4
        cases q <;> try exact h4.elim
        rename_i bt n
        obtain ⟨hle, h5⟩ := chk_ran h4
        have hle := Nat.le_of_ble_eq_true hle
        obtain rfl := ret_ran h5
        obtain ⟨E2, L2, b, vals, q1, q2, q3, q4, q5, q6, q7⟩ := take_blk hs hM
        obtain ⟨b', r1, hv⟩ := ha
        rw [q4] at r1
        injection r1 with r1
        injection r1 with r1
        subst r1
        have hfit : off + (ev ρ x).cells.toList.length ≤ vals.toArray.size := by simp only [List.size_toArray, q5]; omega
        obtain ⟨w', u1, u2⟩ := run_blkSetE (dst := dst) (ty := ty) (pos := pos) (after := after) (guard := guard) q7 hv rfl hsz (by rw [Nat.ble_eq]; simpa using hfit) (List.all_eq_true.2 hone) rfl
        have hup : ∀ l, (∀ j, l ≠ .c i j) → look (upC i off cs) l = none := fun l h => look_upC_other h
        refine .inr (.inl ⟨w', u1, f, σ, HP.le_refl _, Rz.le_refl _, hs.updS (HP.le_refl _) (Rz.le_refl _) (fun j hj => hs.fresh j fun h => hj (.inl h)) (fun l q hl => ?_) (fun j h hj => .inl (by simpa [delsE] using hj))
          ⟨(i, .blk bt n) :: E2, _ :: L2, q1.cons fun k hk => ((q2 _).1 hk).2 rfl, fun z => ?_, ⟨⟨b, (splice vals.toArray off (ev ρ x).cells.toList).toList, q4, rfl, ?_, ?_, fun j v hv => ?_⟩, ?_⟩, by simpa using u2⟩, trivial⟩)
        · cases l with
          | c i' j =>
            by_cases hi : i' = i
            · subst hi
              rw [look_upC] at hl
              split at hl
              · simp only [Option.map_eq_some_iff] at hl
                obtain ⟨y, _, rfl⟩ := hl
                trivial
              · cases hl
            · rw [hup _ fun j' e => by injection e with e _; exact hi e] at hl; cases hl
          | _ => rw [hup _ fun j' e => by cases e] at hl; cases hl
        · simp only [delsE, List.nil_append, List.mem_cons, q2]
          constructor
          · rintro (rfl | ⟨h, _⟩)
            · exact hs.blks i bt n hM
            · exact h
          · intro h
            by_cases hz : z.1 = i
            · left
              have := only_one hs (i := i) (h := z.2) (h' := .blk bt n) (by rw [← hz]; exact h) (hs.blks i bt n hM)
              rw [← this, ← hz]
            · exact .inr ⟨h, hz⟩
        · rw [Array.length_toList, splice_size hfit]; simpa using q5
        · rw [ovl_none (hup _ fun j e => by cases e)]; exact hM
        · by_cases hj : off ≤ j ∧ j < off + cs.length
          · have hv' : (ev ρ x).cells.toList[j - off]? = some v := by
              obtain ⟨u, hu, _⟩ := hc.get (j - off) (cs[j - off]'(by omega)) (List.getElem?_eq_getElem (by omega))
              have := splice_in hfit hu
              rw [show off + (j - off) = j by omega, ← Array.getElem?_toList, hv] at this
              rw [hu]
              exact this.symm
            refine ⟨hone v (List.mem_of_getElem? hv'), ?_⟩
            obtain ⟨u, hu, hcr⟩ := hc.get (j - off) (cs[j - off]'(by omega)) (List.getElem?_eq_getElem (by omega))
            rw [hv'] at hu
            injection hu with hu
            subst hu
            refine ⟨_, ovl_some ?_, hcr⟩
            rw [look_upC, if_pos hj.1, List.getElem?_eq_getElem (show j - off < cs.length by omega)]
            rfl
          · have hv' : vals[j]? = some v := by
              have := splice_out (cur := vals.toArray) (news := (ev ρ x).cells.toList) (a := off) hfit (j := j) (by omega)
              rw [← Array.getElem?_toList, hv] at this
              simpa using this.symm
            obtain ⟨r1, c, r2, r3⟩ := q6 j v hv'
            refine ⟨r1, c, ?_, r3⟩
            rw [ovl_none]
            · exact r2
            · rw [look_upC]
              split
              · have : cs.length ≤ j - off := by omega
                rw [List.getElem?_eq_none this]; rfl
              · rfl
        · refine Ents.mono (HP.le_refl _) (Rz.le_refl _) (fun j h hj => ?_) q3
          have hji : j ≠ i := ((q2 _).1 hj).2
          cases h with
          | arr e => exact hup _ fun j' e => by cases e
          | grid e => exact hup _ fun j' e => by cases e
          | mp k v => exact hup _ fun j' e => by cases e
          | blk t m => exact ⟨hup _ (fun j' e => by cases e), fun k => hup _ (fun j' e => by injection e with e _; exact hji e)⟩
    case gop g e i => exact putRow_does hs hb ha hc hsz h3
    case gel g e i j y off s hh =>
      have hx := ha
      obtain ⟨rows, row, s', nn, z, rs3, hM, hrow, hz, h4⟩ := curG_ran ha hs h3
      obtain ⟨cs', ov, f1, rs4, p1, p2, p3, p4, p5, p6, pd, h5⟩ := dataC_ran (simO_nil (n := base) (mu := []) hs) hc h4
      obtain ⟨hno, h6⟩ := chk_ran h5
      have hno' : look ov.up (.a g) = none := by
        unfold noLook at hno
        split at hno
        · assumption
        · cases hno
      unfold storeG at h6
      obtain ⟨hk, h7⟩ := chk_ran h6
      simp only [Bool.and_eq_true] at hk
      have e1 := Nat.eq_of_beq_eq_true hk.1
      have e2 := Nat.eq_of_beq_eq_true hk.2
      subst e1
      obtain ⟨y', hy, h8⟩ := opt_ran h7
      obtain rfl := ret_ran h8
      have hM2 : ovl ov.up M (.a g) = some (.grid e rows s' hh none nn) := by rw [ovl_none hno']; exact hM
      obtain ⟨E2, L2, A, n, c, cur, hdl, rl, r1, r2, r3, r4, r5, r5', r6, r7, r9⟩ := take_grid p2 hM2
      obtain ⟨_, l, b, oo, m, q, rows0, row0, a1, a2, a3, a4, a5, a6⟩ := hx
      rw [a1] at r5'
      injection r5' with r5'
      injection r5' with r5'
      subst r5'
      obtain ⟨b', o', B', m', q', r, hA, hce, hhd, hrr, hok⟩ := grid_el r6 hrow (fun hf => hf)
      have hhd0 := hhd
      rw [a2] at hhd
      injection hhd with hhd
      injection hhd with e1 e2
      injection e2 with e2 e3
      subst e1 e2 e3
      obtain ⟨w', u1, rl', r', u2, u3, u4, u5⟩ := run_gridSet (dst := dst) (ty := ty) (pos := pos) (after := after) (guard := guard) r9 r6 hrow hhd0 hrr hok hz a3 rfl hsz rfl (dataOf_ok hy p6)
      refine .inr (.inl ⟨w', u1, ?_⟩)
      exact goal_after (up := [(.a g, .grid e (setI rows i (setI row j y')) base hh none nn)]) (add := []) p1 (fun _ _ _ h => by simp at h) (set_grid p2 hb hM2 r1 r2 r3 r4 a1 u5 u2 r7)
    case oel aa e i y off s =>
      obtain ⟨b, oo, n, c, xs0, q1, hv, q2, q3⟩ := ha
      obtain ⟨rs3, h4⟩ := read_ran h3
      clear h3
      cases hM : M (.a aa) with
      | none => rw [hM] at h4; exact h4.elim
      | some q =>
        rw [hM] at h4
        cases q <;> try exact h4.elim
        rename_i e' ys s' nn
        obtain ⟨ys', hcast, h5⟩ := opt_ran h4
        clear h4
        obtain ⟨rfl, rfl⟩ := castSl hcast
        have go : ∀ z rs, idx ys' i = some z → ((dataC ⟨[], [], [], base, []⟩ cs fun cs ov => RM.chk (noLook ov.up (.a aa)) (storeEl base aa e' i off nn ys' z cs ov) : RM B (Out B))).Ran M out rs →
            Does P ⟨dst, .store ti.id a x, ty, pos, after, guard⟩ ρ w (Goal G L0 f0 σ0 M E N base f σ ρ out) := by
          intro z rs hz h
          obtain ⟨cs', ov, f1, rs2, p1, p2, p3, p4, p5, p6, pd, h6⟩ := dataC_ran (simO_nil (n := base) (mu := []) hs) hc h
          obtain ⟨hno, h7⟩ := chk_ran h6
          have hno' : look ov.up (.a aa) = none := by
            unfold noLook at hno
            split at hno
            · assumption
            · cases hno
          have hM2 : ovl ov.up M (.a aa) = some (.arr e' ys' s' nn) := by rw [ovl_none hno']; exact hM
          obtain ⟨E2, L2, A, n', c', cur, r1, r2, r3, r4, r5, r6, r7, r8, r9⟩ := take_arr p2 hM2
          rw [q1] at r4
          injection r4 with r4
          injection r4 with a1 a2 a3
          subst a1 a2 a3
          have hvl : (ev ρ x).cells.toList.length = cs'.length := p6.len
          have fin : ∀ y' : den B.T e', (∀ es, (relB B e').p f1 es z → (relB B e').p f1 (es.take off ++ (ev ρ x).cells.toList ++ es.drop (off + (ev ρ x).cells.toList.length)) y') → off + (ev ρ x).cells.toList.length ≤ (relB B e').n →
              Does P ⟨dst, .store ti.id a x, ty, pos, after, guard⟩ ρ w (Goal G L0 f0 σ0 M E N base f σ ρ (elOut base aa e' i ys' nn y' ov)) := by
            intro y' hy hfit
            obtain ⟨w', u1, cur', u2, u3⟩ := run_arrSetP (dst := dst) (ty := ty) (pos := pos) (after := after) (guard := guard) r9 r6 hz rfl hv rfl hsz hfit hone hy
            refine .inr (.inl ⟨w', u1, ?_⟩)
            exact goal_after (up := [(.a aa, .arr e' (setI ys' i y') base nn)]) (add := []) p1 (fun _ _ _ h => by simp at h) (set_arr p2 hb hM2 r1 r2 r3 q1 u3 u2 r7 (fun h => setI_ne (r8 h)))
          unfold storeEl at h7
          cases hbb : (Nat.beq off 0 && Nat.beq cs'.length (relB B e').n) with
          | true =>
            rw [hbb] at h7
            simp only [Bool.and_eq_true] at hbb
            have e1 := Nat.eq_of_beq_eq_true hbb.1
            have e2 := Nat.eq_of_beq_eq_true hbb.2
            subst e1
            obtain ⟨y', hy, h8⟩ := opt_ran h7
            obtain rfl := ret_ran h8
            refine fin y' (fun es hes => ?_) (by omega)
            have hp := dataOf_ok hy p6
            have hel := (relB B e').len hes
            have : es.drop (0 + (ev ρ x).cells.toList.length) = [] := List.drop_eq_nil_of_le (by omega)
            rw [this, List.take_zero, List.nil_append, List.append_nil]
            exact hp
          | false =>
            rw [hbb] at h7
            obtain ⟨hk, h8⟩ := chk_ran h7
            simp only [Bool.and_eq_true] at hk
            obtain ⟨y', hy, h9⟩ := opt_ran h8
            obtain rfl := ret_ran h9
            have hle := Nat.le_of_ble_eq_true hk.2
            exact fin y' (fun es hes => dataOf_ok hy ((cellsOf_ok hk.1 hes).splice p6)) (by omega)
        cases hss : Nat.beq s s' with
        | true =>
          rw [hss] at h5
          have := Nat.eq_of_beq_eq_true hss
          subst this
          obtain ⟨E2, L2, A, n', c', cur, r1, r2, r3, r4, r5, r6, r7, r8, r9⟩ := take_arr hs hM
          rw [q2] at r5
          injection r5 with r5
          injection r5 with _ r5
          subst r5
          exact go _ _ q3 h5
        | false =>
          rw [hss] at h5
          obtain ⟨z, hz, h6⟩ := bind_ran h5
          exact go z _ hz h6
theorem opdI_ran (hs : SimF G L0 f0 σ0 M E N f σ ρ w) : ∀ {l : List Operand} {k : List (IntKind × Int) → RM B ρr} {rs : List Loc}, (opdI l k).Ran M o rs → ∃ ps rs', ps.map (fun p => Value.int p.1 p.2) = l.map (ev ρ) ∧ (k ps).Ran M o rs'
  | [], k, rs, h => ⟨[], rs, rfl, h⟩
  | x :: l, k, rs, h => by
    obtain ⟨c, rs1, hc, h1⟩ := opd1_ran hs h
    obtain ⟨⟨kk, n⟩, e1, h2⟩ := opt_ran h1
    obtain ⟨ps, rs2, e2, h3⟩ := opdI_ran hs h2
    exact ⟨(kk, n) :: ps, rs2, by simp [e2, asI_rel e1 hc], h3⟩
theorem run_indexAddrA {t e : TypeId} {x ix : Operand} {m k b o : Nat} {i : Int} (hu : P.underlying t = some (.array m e)) (hs : tySize P e = some k) (hx : ev ρ x = .pointer (some ⟨b, o, none⟩)) (hi : ev ρ ix = .int .i64 i) (h0 : 0 ≤ i) (h1 : i < (m : Int)) :
    (execOp (ev ρ) ⟨dst, .indexAddr t x ix, ty, pos, after, guard⟩).run P w = .ok (.value (.pointer (some ⟨b, o + i.toNat * k, none⟩))) w := by
  obtain ⟨g, hg, rfl⟩ := tySize_spec hs
  simp [execOp, Instr.indexAt, hi, hx, asIntOf, underlying, hu, h0, h1, Go.sizeOf, typeInfo, hg, add_none, Instr.sureAddr, go_sem]
theorem arrTy_ok (htt : ttOk P tt = true) {t m sz : Nat} (h : arrTy tt t = some (m, sz)) : ∃ e, P.underlying t = some (.array m e) ∧ tySize P e = some sz := by
  unfold arrTy at h
  cases hti : tfind tt t with
  | none => rw [hti] at h; cases h
  | some ti =>
    rw [hti] at h
    dsimp only at h
    obtain ⟨k1, rfl⟩ := tfind_ok htt hti
    split at h <;> try contradiction
    rename_i m' e' htd
    split at h <;> try contradiction
    rename_i te hte
    simp only [Option.some.injEq, Prod.mk.injEq] at h
    obtain ⟨rfl, rfl⟩ := h
    obtain ⟨k2, rfl⟩ := tfind_ok htt hte
    have hd := (tiOk_facts k1).td
    rw [htd] at hd
    simp only [tdOk] at hd
    split at hd <;> try contradiction
    rename_i n' e'' hu
    simp only [Bool.and_eq_true, decide_eq_true_eq] at hd
    obtain ⟨rfl, rfl⟩ := hd
    exact ⟨_, hu, (tiOk_facts k2).size⟩
theorem idxC_does (hs : SimF G L0 f0 σ0 M E N f σ ρ w) {t e : TypeId} {x ix : Operand} {m sz : Nat} {n : Int} {c : Cel B} (hu : P.underlying t = some (.array m e)) (hsz : tySize P e = some sz) (hx : CRel f σ c (ev ρ x)) (hi : ev ρ ix = .int .i64 n)
    (h : (idxC m sz n c).Ran M out rs) : Does P ⟨dst, .indexAddr t x ix, ty, pos, after, guard⟩ ρ w (Goal G L0 f0 σ0 M E N base f σ ρ out) := by
  cases n with
  | negSucc q => exact h.elim
  | ofNat q =>
    obtain ⟨hlt, h1⟩ := chk_ran (show (RM.chk (Nat.blt q m) (match c with
      | .ptr j o => vals (.ptr j (o + q * sz))
      | .fpt e y => vals (.fel e y (q * sz))
      | .fel e y o => vals (.fel e y (o + q * sz))
      | .oel a e i y o s => vals (.oel a e i y (o + q * sz) s)
      | _ => .fail)).Ran M out rs from h)
    rw [Nat.blt_eq] at hlt
    have run : ∀ {b o : Nat}, ev ρ x = .pointer (some ⟨b, o, none⟩) → (execOp (ev ρ) ⟨dst, .indexAddr t x ix, ty, pos, after, guard⟩).run P w = .ok (.value (.pointer (some ⟨b, o + q * sz, none⟩))) w := fun hv => run_indexAddrA hu hsz hv hi (Int.natCast_nonneg _) (by show (q : Int) < (m : Int); omega)
    cases c <;> try exact h1.elim
    case ptr j a =>
      obtain rfl := ret_ran h1
      obtain ⟨b, q1, hv⟩ := hx
      exact does_pure hs (run hv) ⟨b, q1, rfl⟩
    case fpt e y =>
      obtain rfl := ret_ran h1
      obtain ⟨b, ds, bt, fr, hv, q1, q2⟩ := hx
      exact does_pure hs (run hv) ⟨b, 0, ds, rfl, fun j u hj => by rw [Nat.zero_add]; exact fblk q1 hj, q2⟩
    case fel e y a =>
      obtain rfl := ret_ran h1
      obtain ⟨b, oo, ds, hv, q1, q2⟩ := hx
      exact does_pure hs (run hv) ⟨b, oo, ds, by rw [Nat.add_assoc], q1, q2⟩
    case oel a e m y oo s =>
      obtain rfl := ret_ran h1
      obtain ⟨b, o1, n1, c1, xs, q1, hv, q2, q3⟩ := hx
      exact does_pure hs (run hv) ⟨b, o1, n1, c1, xs, q1, by rw [Nat.add_assoc], q2, q3⟩
theorem idx_does (htt : ttOk P tt = true) (hs : SimF G L0 f0 σ0 M E N f σ ρ w) {t : TypeId} {x ix : Operand} (h : (opProg tt base (.indexAddr t x ix)).Ran M out rs) :
    Does P ⟨dst, .indexAddr t x ix, ty, pos, after, guard⟩ ρ w (Goal G L0 f0 σ0 M E N base f σ ρ out) := by
  obtain ⟨cx, rs1, hx, h1⟩ := opd1_ran hs h
  obtain ⟨ci, rs2, hi, h2⟩ := opd1_ran hs h1
  obtain ⟨⟨k, n⟩, e1, h3⟩ := opt_ran h2
  cases hat : arrTy tt t with
  | some q =>
    obtain ⟨m, sz⟩ := q
    simp only [hat] at h3
    obtain ⟨hk, h4⟩ := chk_ran h3
    have hk := of_decide_eq_true hk
    subst hk
    obtain ⟨te, hu, hsz⟩ := arrTy_ok htt hat
    have hi := asI_rel e1 hi
    have hadd : ∀ {off : Int}, 0 ≤ off → 0 ≤ n → (off + n * (sz : Int)).toNat = off.toNat + n.toNat * sz ∧ 0 ≤ off + n * (sz : Int) := fun {off} h1 h2 => by
      obtain ⟨a, rfl⟩ := Int.eq_ofNat_of_zero_le h1
      obtain ⟨c, rfl⟩ := Int.eq_ofNat_of_zero_le h2
      have e : (a : Int) + (c : Int) * (sz : Int) = ((a + c * sz : Nat) : Int) := by rw [Int.natCast_add, Int.natCast_mul]
      rw [e]
      exact ⟨by simp only [Int.toNat_natCast], Int.natCast_nonneg _⟩
    cases cx
    case pf e xs off =>
      obtain ⟨u, hg, h5⟩ := bind_ran h4
      obtain ⟨g0, g1⟩ := gix_spec hg
      obtain rfl := ret_ran h5
      obtain ⟨b, o, hv, q1, q2⟩ := hx
      have := hadd q1 g0
      refine does_pure hs (run_indexAddrA hu hsz hv hi g0 g1) ⟨b, o, ?_, this.2, q2⟩
      rw [this.1, Nat.add_assoc]
    case pa i off =>
      obtain ⟨u, hg, h5⟩ := bind_ran h4
      obtain ⟨g0, g1⟩ := gix_spec hg
      obtain rfl := ret_ran h5
      obtain ⟨b, o, nn, c, hσ, hv, q1⟩ := hx
      have := hadd q1 g0
      refine does_pure hs (run_indexAddrA hu hsz hv hi g0 g1) ⟨b, o, nn, c, hσ, ?_, this.2⟩
      rw [this.1, Nat.add_assoc]
    all_goals exact idxC_does hs hu hsz hx hi h4
  | none =>
  simp only [hat] at h3
  obtain ⟨⟨te, e0⟩, e2, h4⟩ := opt_ran h3
  obtain ⟨hk, h5⟩ := chk_ran h4
  have hk := of_decide_eq_true hk
  clear h h1 h2 h3 h4
  subst hk
  obtain ⟨et, fe⟩ := elTy_ok htt e2
  have hiv := asI_rel e1 hi
  replace hx := unN_rel hx
  generalize unN cx = cx at hx h5
  cases cx <;> try exact h5.elim
  case sl e xs =>
    obtain ⟨hq, h6⟩ := chk_ran h5
    clear h5
    have hq := Ty.eqb_eq hq
    subst hq
    obtain ⟨y, hy, h7⟩ := bind_ran h6
    obtain rfl := ret_ran h7
    obtain ⟨A, m, c, hv, hsl⟩ := hx
    obtain ⟨b, oo, es, hA, hc, hE⟩ := sl_el hsl hy
    refine does_pure hs (run_idx fe.elem fe.size hv hsl.len hiv hy hA) ⟨b, oo + n.toNat * (relB B e).n, es, by subst hA; simp [eAdr], fun j u hj => ?_, hE⟩
    have := hc j u hj
    rwa [eAdr_add hA] at this
  case own i =>
    obtain ⟨rs3, h6⟩ := read_ran h5
    clear h5
    cases hM : M (.a i) with
    | none => rw [hM] at h6; exact h6.elim
    | some q =>
      rw [hM] at h6
      cases q <;> try exact h6.elim
      case arr e xs s nn =>
        obtain ⟨hq, h7⟩ := chk_ran h6
        clear h6
        have hq := Ty.eqb_eq hq
        subst hq
        obtain ⟨y, hy, h8⟩ := bind_ran h7
        obtain rfl := ret_ran h8
        obtain ⟨E2, L2, A, m, c, cur, r1, r2, r3, r4, r5, r6, r7, r8, r9⟩ := take_arr hs hM
        obtain ⟨A', m', c', r10, hv⟩ := hx
        rw [r4] at r10
        injection r10 with r10
        injection r10 with a1 a2 a3
        subst a1 a2 a3
        obtain ⟨b, oo, es, hA, hc, hE⟩ := arr_el r6 hy
        subst hA
        exact does_pure hs (run_idx fe.elem fe.size hv r6.len hiv hy rfl) ⟨b, oo, m, c, xs, r4, by simp [eAdr], r5, hy⟩
      case grid e rows s hh hole nn =>
        obtain ⟨hq, h7⟩ := chk_ran h6
        clear h6
        have hq := Ty.eqb_eq hq
        subst hq
        obtain ⟨y, hy, h8⟩ := bind_ran h7
        obtain rfl := ret_ran h8
        obtain ⟨E2, L2, A, m, c, cur, hdl, rl, r1, r2, r3, r4, r5, r5', r6, r7, r9⟩ := take_grid hs hM
        obtain ⟨A', m', c', r10, hv⟩ := hx
        rw [r4] at r10
        injection r10 with r10
        injection r10 with a1 a2 a3
        subst a1 a2 a3
        obtain ⟨b, oo, hA⟩ := grid_at r6 hy
        subst hA
        exact does_pure hs (run_idx (xs := rows) fe.elem fe.size hv r6.len hiv hy rfl) ⟨b, oo, m, c, r4, by rw [show (relB B (.sl e)).n = 1 from rfl]; simp [eAdr]⟩
  case grow g e i hh =>
    obtain ⟨rs3, h6⟩ := read_ran h5
    clear h5
    cases hM : M (.a g) with
    | none => rw [hM] at h6; exact h6.elim
    | some q =>
      rw [hM] at h6
      cases q <;> try exact h6.elim
      rename_i e' rows s h' hole nn
      cases hole with
      | some j => exact h6.elim
      | none =>
      obtain ⟨hq, h7⟩ := chk_ran h6
      clear h6
      simp only [Bool.and_eq_true] at hq
      have hq1 := Ty.eqb_eq hq.1
      subst hq1
      have := Nat.eq_of_beq_eq_true hq.2
      subst this
      obtain ⟨row, hrow, h8⟩ := bind_ran h7
      obtain ⟨y, hy, h9⟩ := bind_ran h8
      obtain rfl := ret_ran h9
      obtain ⟨E2, L2, A, m, c, cur, hdl, rl, r1, r2, r3, r4, r5, r5', r6, r7, r9⟩ := take_grid hs hM
      obtain ⟨z0, l, hd, z1, z2, hv⟩ := hx
      rw [z1] at r5'
      injection r5' with r5'
      injection r5' with r5'
      subst r5'
      obtain ⟨b, oo, B', m', q', r, hA, hce, hhd, hrr, hok⟩ := grid_el r6 hrow (fun hf => hf)
      have z3 := z2
      rw [hhd] at z3
      injection z3 with z3
      subst z3
      obtain ⟨b2, o2, es, hB, hce2, hE⟩ := arr_el hok hy
      subst hB
      exact does_pure hs (run_idx (xs := row) fe.elem fe.size hv hok.len hiv hy rfl) ⟨z0, l, b2, o2, m', q', rows, row, z1, hhd, by simp [eAdr], r5, hrow, hy⟩
theorem field_does (htt : ttOk P tt = true) (hs : SimF G L0 f0 σ0 M E N f σ ρ w) {t : TypeId} {x : Operand} {i : Nat} (h : (opProg tt base (.fieldAddr t x i)).Ran M out rs) :
    Does P ⟨dst, .fieldAddr t x i, ty, pos, after, guard⟩ ρ w (Goal G L0 f0 σ0 M E N base f σ ρ out) := by
  obtain ⟨cx, rs1, hx, h1⟩ := opd1_ran hs h
  clear h
  cases hti : tfind tt t with
  | none => rw [hti] at h1; exact h1.elim
  | some ti =>
    rw [hti] at h1
    obtain ⟨k1, rfl⟩ := tfind_ok htt hti
    have htd := (tiOk_facts k1).td
    dsimp only at h1
    split at h1 <;> try exact h1.elim
    rename_i fs qs e1
    rw [e1] at htd
    simp only [tdOk, Bool.and_eq_true] at htd
    replace htd := htd.1
    split at h1 <;> try exact h1.elim
    rename_i off n ft e2
    have hfo : ∀ (l : List (Nat × Nat × Nat)) (a i : Nat), fieldsOk P ti.id a l = true → nthL l i = some (off, n, ft) → tyField P ti.id (a + i) = some (off, ft) := by
      intro l
      induction l with
      | nil => intro a i _ h; cases h
      | cons y l ih =>
        intro a i hf hn
        obtain ⟨o1, n1, f1⟩ := y
        simp only [fieldsOk, Bool.and_eq_true, decide_eq_true_eq] at hf
        cases i with
        | zero => simp only [nthL, Option.some.injEq, Prod.mk.injEq] at hn; obtain ⟨rfl, _, rfl⟩ := hn; exact hf.1
        | succ i => have := ih (a + 1) i hf.2 hn; rwa [show a + 1 + i = a + (i + 1) by omega] at this
    have htf : tyField P ti.id i = some (off, ft) := by have := hfo fs 0 i htd.1 e2; rwa [Nat.zero_add] at this
    cases cx <;> try exact h1.elim
    case ptr j a =>
      obtain rfl := ret_ran h1
      obtain ⟨b, q1, hv⟩ := hx
      exact does_pure hs (run_fieldAddr htf hv) ⟨b, q1, rfl⟩
    case opt e y0 =>
      obtain ⟨y, hy, h2⟩ := bind_ran h1
      obtain rfl := ret_ran h2
      obtain ⟨b, ds, bt, fr, hv, q1, q2⟩ := fOpt_some hx hy
      exact does_pure hs (run_fieldAddr htf hv) ⟨b, 0, ds, rfl, fun j u hj => by rw [Nat.zero_add]; exact fblk q1 hj, q2⟩
    case fpt e y =>
      obtain rfl := ret_ran h1
      obtain ⟨b, ds, bt, fr, hv, q1, q2⟩ := hx
      exact does_pure hs (run_fieldAddr htf hv) ⟨b, 0, ds, rfl, fun j u hj => by rw [Nat.zero_add]; exact fblk q1 hj, q2⟩
    case fel e y a =>
      obtain rfl := ret_ran h1
      obtain ⟨b, oo, ds, hv, q1, q2⟩ := hx
      exact does_pure hs (run_fieldAddr htf hv) ⟨b, oo, ds, by rw [Nat.add_assoc], q1, q2⟩
    case oel a e m y oo s =>
      obtain rfl := ret_ran h1
      obtain ⟨b, o1, n1, c1, xs, q1, hv, q2, q3⟩ := hx
      exact does_pure hs (run_fieldAddr htf hv) ⟨b, o1, n1, c1, xs, q1, by rw [Nat.add_assoc], q2, q3⟩
    case gel g e m j y oo s hh =>
      obtain rfl := ret_ran h1
      obtain ⟨q0, l, b, o1, n1, c1, rows, row, q1, q2, hv, q3⟩ := hx
      exact does_pure hs (run_fieldAddr htf hv) ⟨q0, l, b, o1, n1, c1, rows, row, q1, q2, by rw [Nat.add_assoc], q3⟩
end
end Hd
set_option linter.unusedVariables false
set_option linter.unusedSimpArgs false
namespace Hd
open Go Hk
section
variable {B : Tab} {P : Program} {tt : List (TI B)} {M : Loc → Option (Con B)} {G w : World} {L0 : List HProp} {f0 f : HP} {σ0 σ : Rz B} {E : List (Nat × EH)} {N : Nat → Prop} {ρ : Env}
variable {dst : Option Tmp} {ty : TypeId} {pos : String} {after : Array Edge} {guard : Option (Nat × Bool)} {base : Nat} {rs : List Loc} {out : Out B} {ρr : Type} {o : ρr}
theorem goal_val {d : DV B} {v : Value} {up : Mem B} {add : List (Nat × EH)} {del : List Nat} {w' : World} (h : Goal G L0 f0 σ0 M E N base f σ ρ ⟨none, up, add, del⟩ none w') (hd : ∀ f' σ', HP.le f f' → Rz.le σ σ' → DRel f' σ' d v) :
    Goal G L0 f0 σ0 M E N base f σ ρ ⟨some d, up, add, del⟩ (some v) w' := by
  obtain ⟨f', σ', h1, h2, h3, _⟩ := h
  exact ⟨f', σ', h1, h2, h3, hd f' σ' h1 h2⟩
theorem srcR_ran (hs : SimF G L0 f0 σ0 M E N f σ ρ w) {e : Ty} (h1 : (relB B e).n = 1) {cy : Cel B} {v : Value} (hy : CRel f σ cy v) {k : List (den B.T e) → RM B ρr} (h : (srcR e cy k).Ran M o rs) :
    ∃ ys rs' Bq nb cb, (k ys).Ran M o rs' ∧ v = .slice Bq nb cb ∧ nb = ys.length ∧ Src w f (relB B e) Bq ys := by
  obtain ⟨E1, L1, _, _, _, kw⟩ := hs.ents
  cases cy <;> try exact h.elim
  case sl e' ws =>
    obtain ⟨ys, hc, h2⟩ := opt_ran h
    obtain ⟨rfl, rfl⟩ := castSl hc
    obtain ⟨A, n, c, hv, hsl⟩ := hy
    exact ⟨_, _, A, n, c, h2, hv, hsl.len, src_fz h1 kw hsl⟩
  case nsl e' x =>
    obtain ⟨ys, hc, h2⟩ := opt_ran h
    obtain ⟨rfl, rfl⟩ := castSl hc
    cases x with
    | none =>
      obtain ⟨c, hv, _⟩ := hy
      simp only [List.cons.injEq, and_true] at hv
      exact ⟨_, _, none, 0, c, h2, hv, rfl, .inl rfl⟩
    | some xs =>
      obtain ⟨a, n, c, hv, hsl⟩ := hy
      simp only [List.cons.injEq, and_true] at hv
      exact ⟨_, _, some a, n, c, h2, hv, hsl.len, src_fz h1 kw hsl⟩
  case nils => exact ⟨_, _, none, 0, 0, h, hy, rfl, .inl rfl⟩
  case own j =>
    obtain ⟨rs2, h2⟩ := read_ran h
    cases hM : M (.a j) with
    | none => rw [hM] at h2; exact h2.elim
    | some q =>
      rw [hM] at h2
      cases q <;> try exact h2.elim
      rename_i e' ws s nn
      obtain ⟨ys, hc, h3⟩ := opt_ran h2
      obtain ⟨rfl, rfl⟩ := castSl hc
      obtain ⟨E2, L2, A, n, c, cur, k1, k2, k3, k4, k5, k6, k7, k8, k9⟩ := take_arr hs hM
      obtain ⟨A', n', c', r1, hv⟩ := hy
      rw [k4] at r1
      injection r1 with r1
      injection r1 with a1 a2 a3
      subst a1 a2 a3
      exact ⟨_, _, A, n, c, h3, hv, k6.len, src_arr 0 h1 k9 rfl k6⟩
  case vw j e0 l z =>
    obtain ⟨hq, h⟩ := chk_ran h
    obtain rfl := Ty.eqb_eq hq
    obtain ⟨rs2, h2⟩ := read_ran h
    cases hM : M (.a j) with
    | none => rw [hM] at h2; exact h2.elim
    | some q =>
      rw [hM] at h2
      cases q <;> try exact h2.elim
      rename_i e' ws s nn
      obtain ⟨ys, hc, h3⟩ := opt_ran h2
      obtain ⟨rfl, rfl⟩ := castSl hc
      obtain ⟨r, hr, h4⟩ := bind_ran h3
      obtain ⟨E2, L2, A, n, c, cur, k1, k2, k3, k4, k5, k6, k7, k8, k9⟩ := take_arr hs hM
      obtain ⟨A', n', c', r1, hv⟩ := hy
      rw [k4] at r1
      injection r1 with r1
      injection r1 with a1 a2 a3
      subst a1 a2 a3
      exact ⟨_, _, _, _, _, h4, hv, (gcut_spec hr).2.2.2.2.symm, src_view 0 h1 k9 rfl k6 hr⟩
theorem gcopy_len {α : Type} (xs : List α) (l n : Nat) (ys : List α) (h : l + n ≤ xs.length) : (gcopy xs l n ys).length = xs.length := by
  simp only [gcopy, List.length_append, List.length_take, List.length_drop]
  omega
theorem copy_does (htt : ttOk P tt = true) (hs : SimF G L0 f0 σ0 M E N f σ ρ w) (hb : ∀ j, base ≤ j → j < base + stepV → ¬ N j) {t : TypeId} {x y : Operand} {cx cy : Cel B} (hx : CRel f σ cx (ev ρ x)) (hy : CRel f σ cy (ev ρ y)) (h : (copyR tt base t cx cy).Ran M out rs) :
    Does P ⟨dst, .call { callee := .builtin .copy, args := #[x, y], argTypes := #[t, t] }, ty, pos, after, guard⟩ ρ w (Goal G L0 f0 σ0 M E N base f σ ρ out) := by
  obtain ⟨⟨te, e⟩, h1, h2⟩ := opt_ran h
  obtain ⟨et, fe⟩ := elTy_ok htt h1
  obtain ⟨hq, h3⟩ := chk_ran h2
  have hn : (relB B e).n = 1 := by
    have := Nat.eq_of_beq_eq_true hq
    have := fe.tsize
    omega
  obtain ⟨ys, rs', Bq, nb, cb, h4, hyv, hyl, hsrc⟩ := srcR_ran hs hn hy h3
  clear h h2 h3
  have fin : ∀ {i : Nat} {xs zs : List (den B.T e)} {s nn : Nat} {E2 : List (Nat × EH)} {L2 : List HProp} {A : Option Addr} {n c : Nat} {cur : Array Value} {w' : World} {m : Nat} {v : Value}, M (.a i) = some (.arr e xs s nn) → Once E2 → (∀ x, x ∈ E2 ↔ x ∈ E ∧ x.1 ∉ [i]) → Ents f σ M E2 L2 → σ i = some (.hdr A n c) →
      Wd G w' f (Arr A c cur :: (L2 ++ L0)) → ArrOk f (relB B e) A n c cur zs → (1 ≤ nn → A.isSome = true) → (2 ≤ nn → xs ≠ []) → zs.length = xs.length → v = .int .i64 (min (m : Int) ys.length) →
      Goal G L0 f0 σ0 M E N base f σ ρ (copyOut base i e m ys.length zs nn) (some v) w' := by
    intro i xs zs s nn E2 L2 A n c cur w' m v hM q1 q2 q3 q4 q5 q6 q7 q8 q9 hv
    exact goal_val (set_arr hs hb hM q1 q2 q3 q4 q5 q6 q7 fun h => fun e => q8 h (List.eq_nil_of_length_eq_zero (by rw [← q9, e]; rfl))) fun _ _ _ _ => hv
  cases cx <;> try exact h4.elim
  case own i =>
    obtain ⟨rs2, h5⟩ := read_ran h4
    cases hM : M (.a i) with
    | none => rw [hM] at h5; exact h5.elim
    | some q =>
      rw [hM] at h5
      cases q <;> try exact h5.elim
      rename_i e' xs s nn
      obtain ⟨xs', hc, h6⟩ := opt_ran h5
      obtain ⟨rfl, rfl⟩ := castSl hc
      obtain rfl := ret_ran h6
      obtain ⟨E2, L2, A, n, c, cur, k1, k2, k3, k4, k5, k6, k7, k8, k9⟩ := take_arr hs hM
      obtain ⟨A', n', c', r1, hxv⟩ := hx
      rw [k4] at r1
      injection r1 with r1
      injection r1 with a1 a2 a3
      subst a1 a2 a3
      obtain ⟨w', v, hr, cur', hv, hok, hw⟩ := run_arrCopy0 (ty := ty) (dst := dst) (pos := pos) (after := after) (guard := guard) hn fe.elem fe.size k9 k6 hxv hyv hyl hsrc
      exact .inl ⟨v, w', hr, fin hM k1 k2 k3 k4 hw hok k7 k8 (gcopy_len _ _ _ _ (by omega)) hv⟩
  case vw i e0 l z =>
    obtain ⟨hq, h4⟩ := chk_ran h4
    obtain rfl := Ty.eqb_eq hq
    obtain ⟨rs2, h5⟩ := read_ran h4
    cases hM : M (.a i) with
    | none => rw [hM] at h5; exact h5.elim
    | some q =>
      rw [hM] at h5
      cases q <;> try exact h5.elim
      rename_i e' xs s nn
      obtain ⟨xs', hc, h6⟩ := opt_ran h5
      obtain ⟨rfl, rfl⟩ := castSl hc
      obtain ⟨dx, hdx, h7⟩ := bind_ran h6
      obtain rfl := ret_ran h7
      obtain ⟨E2, L2, A, n, c, cur, k1, k2, k3, k4, k5, k6, k7, k8, k9⟩ := take_arr hs hM
      obtain ⟨A', n', c', r1, hxv⟩ := hx
      rw [k4] at r1
      injection r1 with r1
      injection r1 with a1 a2 a3
      subst a1 a2 a3
      obtain ⟨w', v, hr, cur', hv, hok, hw⟩ := run_arrCopy (ty := ty) (dst := dst) (pos := pos) (after := after) (guard := guard) hn fe.elem fe.size k9 k6 hdx hxv hyv hyl hsrc
      obtain ⟨_, g1, g2, g3, g4⟩ := gcut_spec hdx
      exact .inl ⟨v, w', hr, fin hM k1 k2 k3 k4 hw hok k7 k8 (gcopy_len _ _ _ _ (by omega)) hv⟩
theorem isZ_eq {i : Int} (h : isZ i = true) : i = 0 := by
  cases i with
  | ofNat n => cases n with
    | zero => rfl
    | succ n => cases h
  | negSucc n => cases h
theorem run_slicePaN {t e : TypeId} {x : Operand} {lo hi : Option Operand} {b o m k l h : Nat} (hu : P.underlying t = some (.array m e)) (hk : tySize P e = some k) (hx : ev ρ x = .pointer (some ⟨b, o, none⟩))
    (hlo : (lo = none ∧ l = 0) ∨ ∃ o, lo = some o ∧ ev ρ o = .int .i64 (l : Int)) (hhi : (hi = none ∧ h = m) ∨ ∃ o, hi = some o ∧ ev ρ o = .int .i64 (h : Int)) (h1 : l ≤ h) (h2 : h ≤ m) :
    (execOp (ev ρ) ⟨dst, .slice t x lo hi none, ty, pos, after, guard⟩).run P w = .ok (.value (.slice (cutA (some ⟨b, o, none⟩) k l m) (h - l) (m - l))) w := by
  obtain ⟨ie, hie, rfl⟩ := tySize_spec hk
  have hl1 : (l : Int) ≤ h := by omega
  have hl2 : (h : Int) ≤ m := by omega
  rcases hlo with ⟨rfl, rfl⟩ | ⟨o, rfl, ho⟩ <;> rcases hhi with ⟨rfl, rfl⟩ | ⟨o', rfl, ho'⟩
  all_goals simp [execOp, Instr.sliceAt, Instr.sliceBounds, Instr.sliceBound, asIntOf, underlying, hu, hx, Instr.sureAddr, Go.sizeOf, typeInfo, hie, cutA, go_sem, *]
  all_goals split <;> rfl
theorem run_slicePa {α : Type} {t e : TypeId} {x : Operand} {lo hi : Option Operand} {b o m k : Nat} {l h : Int} {xs r : List α} (hu : P.underlying t = some (.array m e)) (hk : tySize P e = some k) (hx : ev ρ x = .pointer (some ⟨b, o, none⟩))
    (hm : xs.length = m) (hr : gcut xs l h = some r) (hlo : (lo = none ∧ l = 0) ∨ ∃ o, lo = some o ∧ ev ρ o = .int .i64 l) (hhi : (hi = none ∧ h = (m : Int)) ∨ ∃ o, hi = some o ∧ ev ρ o = .int .i64 h) :
    (execOp (ev ρ) ⟨dst, .slice t x lo hi none, ty, pos, after, guard⟩).run P w = .ok (.value (.slice (cutA (some ⟨b, o, none⟩) k l.toNat m) (h.toNat - l.toNat) (m - l.toNat))) w := by
  obtain ⟨_, h0, h1, h2, h3⟩ := gcut_spec hr
  have hk0 : 0 ≤ h := by
    unfold gcut at hr; split at hr
    · rename_i hc; omega
    · cases hr
  refine run_slicePaN hu hk hx ?_ ?_ h1 (by omega)
  · rcases hlo with ⟨rfl, rfl⟩ | ⟨o, rfl, ho⟩
    · exact .inl ⟨rfl, rfl⟩
    · exact .inr ⟨o, rfl, by rw [ho, Int.toNat_of_nonneg h0]⟩
  · rcases hhi with ⟨rfl, rfl⟩ | ⟨o, rfl, ho⟩
    · exact .inl ⟨rfl, by omega⟩
    · exact .inr ⟨o, rfl, by rw [ho, Int.toNat_of_nonneg hk0]⟩
theorem glen_spec' {α : Type} {xs : List α} {n : Nat} {u : Unit} (h : glen xs n = some u) : xs.length = n := by
  unfold glen at h
  split at h
  · assumption
  · cases h
theorem arr_tight {α : Type} {Er : FRel α} {A : Option Addr} {n c : Nat} {cur : Array Value} {xs : List α} {L : List HProp} (h : ArrOk f Er A n c cur xs) (hw : Wd G w f (Arr A c cur :: L)) : ArrOk f Er A n n cur xs ∧ Wd G w f (Arr A n cur :: L) := by
  have h1 := h.len; have h2 := h.le; have h3 := h.max
  refine ⟨⟨h1, by omega, by omega, ?_, h.get⟩, ⟨hw.os, hw.tape, hw.output, hw.fro, ?_⟩⟩
  · rcases h.or with h0 | ⟨b, o, e, hz⟩
    · exact .inl (by omega)
    · exact .inr ⟨b, o, e, Nat.le_trans (Nat.add_le_add_left (Nat.mul_le_mul_right _ (by omega)) _) hz⟩
  · obtain ⟨S, p1, p2, p3⟩ := hw.sep
    refine ⟨S, ?_, p2, p3⟩
    rcases p1 with ⟨q1, q2⟩ | q
    · exact .inl ⟨by omega, q2⟩
    · exact .inr q
theorem cutP_does (htt : ttOk P tt = true) (hs : SimF G L0 f0 σ0 M E N f σ ρ w) (hb : ∀ j, base ≤ j → j < base + stepV → ¬ N j) {t : TypeId} {x : Operand} {lo hi : Option Operand} {i : Nat} {off : Int} (hx : CRel (B := B) f σ (.pa i off) (ev ρ x)) (hz : isZ off = true)
    (h : (cutP tt base t i lo hi).Ran M out rs) : Does P ⟨dst, .slice t x lo hi none, ty, pos, after, guard⟩ ρ w (Goal G L0 f0 σ0 M E N base f σ ρ out) := by
  obtain rfl := isZ_eq hz
  obtain ⟨⟨m, sz⟩, h1, h2⟩ := opt_ran h
  clear h
  obtain ⟨et, hu, hsz⟩ := arrTy_ok htt h1
  obtain ⟨rs', h⟩ := read_ran h2
  clear h2
  cases hM : M (.a i) with
  | none => rw [hM] at h; exact h.elim
  | some q =>
    rw [hM] at h
    cases q <;> try exact h.elim
    rename_i e xs s nn
    obtain ⟨hq, h2⟩ := chk_ran h
    clear h
    have hq := Nat.eq_of_beq_eq_true hq
    subst hq
    obtain ⟨u0, hgl, h⟩ := bind_ran h2
    have hlen := glen_spec' hgl
    obtain ⟨l, rs1, hl, h⟩ := optOpd_ran hs h
    obtain ⟨k, rs2, hk, h⟩ := optOpd_ran hs h
    obtain ⟨ys, hy, h⟩ := bind_ran h
    obtain rfl := ret_ran h
    obtain ⟨E2, L2, A, n, c, cur, k1, k2, k3, k4, k5, k6, k7, k8, k9⟩ := take_arr hs hM
    obtain ⟨b', o', n', c', r1, hxv, _⟩ := hx
    rw [k4] at r1
    injection r1 with r1
    injection r1 with a1 a2 a3
    subst a1 a2 a3
    obtain ⟨t1, t2⟩ := arr_tight k6 k9
    obtain ⟨cur', hok', hw'⟩ := arr_cut t1 hy t2
    have hnm : n = m := by have := k6.len; omega
    subst hnm
    refine .inl ⟨_, w, run_slicePa hu hsz (by simpa using hxv) hlen hy hl hk, repl_arr hs hb hM k1 k2 k3 hw' hok' (fun h => ?_) (fun h => absurd h (by decide))⟩
    simp [cutA]; split <;> rfl
theorem geqI_spec {a b : Int} {u : Unit} (h : geqI a b = some u) : a = b := by
  unfold geqI at h
  split at h
  · assumption
  · cases h
theorem run_cut3 {t e : TypeId} {x hi mx : Operand} {A : Option Addr} {n c sz h : Nat} (ht : tyElem P t = some e) (hk : tySize P e = some sz) (hx : ev ρ x = .slice A n c) (hh : ev ρ hi = .int .i64 (h : Int)) (hm : ev ρ mx = .int .i64 (h : Int)) (h2 : h ≤ c) :
    (execOp (ev ρ) ⟨dst, .slice t x none (some hi) (some mx), ty, pos, after, guard⟩).run P w = .ok (.value (.slice A h h)) w := by
  have hu := tyElem_spec ht
  obtain ⟨ie, hie, rfl⟩ := tySize_spec hk
  have hl2 : (h : Int) ≤ c := by omega
  have hA : A.map (fun a => a.add 0) = A := by
    cases A with
    | none => rfl
    | some a => simp [Addr.add]
  simp [execOp, Instr.sliceAt, Instr.slice, Instr.sliceBounds, Instr.sliceBound, asIntOf, run_underlying hu, hx, hh, hm, Go.sizeOf, typeInfo, hie, go_sem, hl2]
  intro hlt; omega
theorem cut3_does (htt : ttOk P tt = true) (hs : SimF G L0 f0 σ0 M E N f σ ρ w) (hb : ∀ j, base ≤ j → j < base + stepV → ¬ N j) {t : TypeId} {x hi mx : Operand}
    (h : (cut3R tt base t x hi mx).Ran M out rs) : Does P ⟨dst, .slice t x none (some hi) (some mx), ty, pos, after, guard⟩ ρ w (Goal G L0 f0 σ0 M E N base f σ ρ out) := by
  obtain ⟨cx, rs0, hx, h⟩ := opd1_ran hs h
  obtain ⟨⟨te, e0⟩, h1, h2⟩ := opt_ran h
  clear h
  obtain ⟨et, fe⟩ := elTy_ok htt h1
  replace hx := unN_rel hx
  simp only at h2
  generalize unN cx = cx at hx h2
  cases cx <;> try exact h2.elim
  case own i =>
    obtain ⟨rs', h⟩ := read_ran h2
    clear h2
    cases hM : M (.a i) with
    | none => rw [hM] at h; exact h.elim
    | some q =>
      rw [hM] at h
      cases q <;> try exact h.elim
      rename_i e xs s nn
      obtain ⟨hq, h2⟩ := chk_ran h
      clear h
      have hq := Ty.eqb_eq hq
      subst hq
      obtain ⟨k, rs1, hk, h⟩ := optOpd_ran hs h2
      obtain ⟨m, rs2, hm, h⟩ := optOpd_ran hs h
      obtain ⟨u, hge, h⟩ := bind_ran h
      obtain ⟨ys, hy, h⟩ := bind_ran h
      obtain rfl := ret_ran h
      obtain rfl := geqI_spec hge
      have fix : ∀ {q : Operand} {n : Int}, (some q = none ∧ n = 0 ∨ ∃ r, some q = some r ∧ ev ρ r = .int .i64 n) → ev ρ q = .int .i64 n := by
        rintro q n (⟨h, _⟩ | ⟨r, hr, h⟩)
        · cases h
        · injection hr with hr; subst hr; exact h
      have hk := fix hk
      have hm := fix hm
      obtain ⟨E2, L2, A, n, c, cur, k1, k2, k3, k4, k5, k6, k7, k8, k9⟩ := take_arr hs hM
      obtain ⟨A', n', c', r1, hxv⟩ := hx
      rw [k4] at r1
      injection r1 with r1
      injection r1 with a1 a2 a3
      subst a1 a2 a3
      obtain ⟨_, g0, g1, g2, g3⟩ := gcut_spec hy
      have hk0 : 0 ≤ k := by
        unfold gcut at hy; split at hy
        · rename_i hc; omega
        · cases hy
      obtain ⟨k', rfl⟩ := Int.eq_ofNat_of_zero_le hk0
      obtain ⟨cur', hok', hw'⟩ := arr_cut k6 hy k9
      obtain ⟨hok2, hw2⟩ := arr_tight hok' hw'
      have hA : cutA A (relB B e).n (0 : Int).toNat c = A := by
        unfold cutA
        cases A with
        | none => split <;> rfl
        | some a => simp [Addr.add]
      have e0 : ((k' : Int).toNat - (0 : Int).toNat) = k' := by simp
      rw [hA, e0] at hok2 hw2
      have hlen := k6.len
      have hle := k6.le
      have hnn : ∀ m, m ≤ (match nn with | 0 => 0 | _ => 1) → 1 ≤ m → 1 ≤ nn := fun m h1 h2 => by
        cases nn with
        | zero => simp at h1; omega
        | succ k => omega
      refine .inl ⟨_, w, run_cut3 fe.elem fe.size hxv hk hm (by simp at g2; omega), repl_arr hs hb hM k1 k2 k3 hw2 hok2 (fun h => k7 (hnn _ (Nat.le_refl _) h)) (fun h => ?_)⟩
      cases nn <;> simp at h
theorem view_does (htt : ttOk P tt = true) (hs : SimF G L0 f0 σ0 M E N f σ ρ w) {t : TypeId} {x : Operand} {lo hi : Option Operand} (h : (viewR tt t x lo hi).Ran M out rs) :
    Does P ⟨dst, .slice t x lo hi none, ty, pos, after, guard⟩ ρ w (Goal G L0 f0 σ0 M E N base f σ ρ out) := by
  obtain ⟨cx, rs0, hx, h⟩ := opd1_ran hs h
  cases cx <;> try exact h.elim
  case own i =>
    obtain ⟨⟨te, e0⟩, h1, h2⟩ := opt_ran h
    clear h
    obtain ⟨et, fe⟩ := elTy_ok htt h1
    obtain ⟨rs', h⟩ := read_ran h2
    clear h2
    cases hM : M (.a i) with
    | none => rw [hM] at h; exact h.elim
    | some q =>
      rw [hM] at h
      cases q <;> try exact h.elim
      rename_i e xs s nn
      obtain ⟨hq, h2⟩ := chk_ran h
      clear h
      have hq := Ty.eqb_eq hq
      subst hq
      obtain ⟨l, rs1, hl, h⟩ := optOpd_ran hs h2
      obtain ⟨k, rs2, hk, h⟩ := optOpd_ran hs h
      obtain ⟨ys, hy, h⟩ := bind_ran h
      obtain rfl := ret_ran h
      obtain ⟨E2, L2, A, n, c, cur, k1, k2, k3, k4, k5, k6, k7, k8, k9⟩ := take_arr hs hM
      obtain ⟨A', n', c', r1, hxv⟩ := hx
      rw [k4] at r1
      injection r1 with r1
      injection r1 with a1 a2 a3
      subst a1 a2 a3
      exact does_pure hs (run_cut fe.elem fe.size hxv k6.len k6.le hy hl hk) ⟨A, n, c, k4, rfl⟩
  case pa i off =>
    obtain ⟨⟨m, sz⟩, h1, h2⟩ := opt_ran h
    clear h
    obtain ⟨et, hu, hsz⟩ := arrTy_ok htt h1
    obtain ⟨hz, h4⟩ := chk_ran h2
    clear h2
    obtain rfl := isZ_eq hz
    obtain ⟨rs', h⟩ := read_ran h4
    clear h4
    cases hM : M (.a i) with
    | none => rw [hM] at h; exact h.elim
    | some q =>
      rw [hM] at h
      cases q <;> try exact h.elim
      rename_i e xs s nn
      obtain ⟨hq, h5⟩ := chk_ran h
      clear h
      have hq := Nat.eq_of_beq_eq_true hq
      subst hq
      obtain ⟨u0, hgl, h⟩ := bind_ran h5
      have hlen := glen_spec' hgl
      obtain ⟨l, rs1, hl, h⟩ := optOpd_ran hs h
      obtain ⟨k, rs2, hk, h⟩ := optOpd_ran hs h
      obtain ⟨ys, hy, h⟩ := bind_ran h
      obtain rfl := ret_ran h
      obtain ⟨E2, L2, A, n, c, cur, k1, k2, k3, k4, k5, k6, k7, k8, k9⟩ := take_arr hs hM
      obtain ⟨b', o', n', c', r1, hxv, _⟩ := hx
      rw [k4] at r1
      injection r1 with r1
      injection r1 with a1 a2 a3
      subst a1 a2 a3
      have hnm : n = m := by have := k6.len; omega
      subst hnm
      exact does_pure hs (run_slicePa hu hsz (by simpa using hxv) hlen hy hl hk) ⟨b', o', n, c, k4, rfl⟩
theorem nthL_at {α : Type} : ∀ {l : List α} {n : Nat} {x : α}, nthL l n = some x → l[n]? = some x
  | [], _, _, h => by cases h
  | a :: l, 0, x, h => by simpa [nthL] using h
  | a :: l, n + 1, x, h => by simpa using nthL_at (l := l) h
theorem index_does (htt : ttOk P tt = true) (hs : SimF G L0 f0 σ0 M E N f σ ρ w) {t : TypeId} {x ix : Operand} (h : (indexR tt t x ix).Ran M out rs) :
    Does P ⟨dst, .index t x ix, ty, pos, after, guard⟩ ρ w (Goal G L0 f0 σ0 M E N base f σ ρ out) := by
  obtain ⟨d, rs0, hx, h⟩ := opd_ran hs h
  cases d <;> try exact h.elim
  case one c =>
    cases c <;> try exact h.elim
    rename_i s
    obtain ⟨ci, rs1, hi, h⟩ := opd1_ran hs h
    obtain ⟨⟨k, n⟩, h1, h2⟩ := opt_ran h
    obtain ⟨hq, h3⟩ := chk_ran h2
    obtain ⟨b, hb, h4⟩ := bind_ran h3
    obtain rfl := ret_ran h4
    have hiv := asI_rel h1 hi
    have hxv : ev ρ x = .string s := hx
    unfold sidx at hb
    split at hb <;> try contradiction
    rename_i hn
    injection hb with hb
    have hlt : n.toNat < s.size := by omega
    have e1 : execOp (ev ρ) ⟨dst, .index t x ix, ty, pos, after, guard⟩ = (Instr.index t (ev ρ x) (ev ρ ix)).bind (fun v => .pure (.value v)) := rfl
    refine does_pure hs (v := .int .u8 b) ?_ rfl
    have hb2 : ((s[n.toNat]'hlt).toNat : Int) = b := by
      rw [← hb]
      have : (sl8 s).getD n.toNat 0 = s[n.toNat]'hlt := by
        unfold sl8
        rw [List.getD_eq_getElem?_getD, Array.getElem?_toList, Array.getElem?_eq_getElem hlt]
        rfl
      rw [this]
    rw [e1, Sem.run_bind', hxv, hiv, run_index_string w t s k n (isStr_ok htt hq), dif_pos hn, hb2]
    rfl
  case lst u xs =>
    obtain ⟨ci, rs1, hi, h⟩ := opd1_ran hs h
    obtain ⟨⟨k, n⟩, h1, h2⟩ := opt_ran h
    clear h
    obtain ⟨hk, h3⟩ := chk_ran h2
    clear h2
    simp only [decide_eq_true_eq] at hk
    subst hk
    have hiv := asI_rel h1 hi
    split at h3 <;> try exact h3.elim
    rename_i ti hti
    obtain ⟨ki, rfl⟩ := tfind_ok htt hti
    have fi := tiOk_facts ki
    split at h3 <;> try exact h3.elim
    rename_i m e htd
    split at h3 <;> try exact h3.elim
    rename_i te hte
    obtain ⟨ke, rfl⟩ := tfind_ok htt hte
    have fe := tiOk_facts ke
    obtain ⟨hq, h5⟩ := chk_ran h3
    simp only [Bool.and_eq_true, Bool.not_eq_true'] at hq
    obtain ⟨⟨⟨q1, q2⟩, q3⟩, q4⟩ := hq
    have q1 := Nat.eq_of_beq_eq_true q1
    have q3 := Nat.eq_of_beq_eq_true q3
    obtain ⟨_, hgl, h5⟩ := bind_ran h5
    have hl := glen_spec hgl
    obtain ⟨y, hy, h7⟩ := bind_ran h5
    obtain ⟨vs, hv, _, ess, rfl, hE⟩ := hx
    obtain ⟨es, g0, g1, g2, g3, g4⟩ := relall_idx hE hy
    have ht := fi.td
    rw [htd] at ht
    simp only [tdOk] at ht
    split at ht
    case h_2 => cases ht
    rename_i n' e' hund
    simp only [Bool.and_eq_true, decide_eq_true_eq] at ht
    obtain ⟨rfl, rfl⟩ := ht
    rw [q3] at g2 g3
    have hagg := fe.agg
    rw [q2] at hagg
    have hsz := fe.size
    rw [q1] at hsz
    split at h7
    · rename_i c hcc
      obtain rfl := ret_ran h7
      have hcr := cellsOf_ok (f := f) (σ := σ) q4 g4
      rw [hcc] at hcr
      obtain ⟨v, rfl⟩ := List.length_eq_one_iff.1 g3
      exact does_pure hs (run_indexV (vs := [v]) (v := v) false hund hagg hsz hv hiv g0 (by rw [← hl]; exact g1) g2 rfl rfl fun _ => rfl) hcr.1
    · exact h7.elim
  rename_i cs
  obtain ⟨ci, rs1, hi, h⟩ := opd1_ran hs h
  obtain ⟨⟨k, n⟩, h1, h2⟩ := opt_ran h
  clear h
  obtain ⟨hk, h3⟩ := chk_ran h2
  clear h2
  simp only [decide_eq_true_eq] at hk
  subst hk
  have hiv := asI_rel h1 hi
  split at h3 <;> try exact h3.elim
  rename_i ti hti
  obtain ⟨ki, rfl⟩ := tfind_ok htt hti
  have fi := tiOk_facts ki
  split at h3 <;> try exact h3.elim
  rename_i m e htd
  split at h3 <;> try exact h3.elim
  rename_i te hte
  obtain ⟨ke, rfl⟩ := tfind_ok htt hte
  have fe := tiOk_facts ke
  cases hu : tyTD te.td with
  | none =>
    rw [hu] at h3
    simp only at h3
    split at h3 <;> try exact h3.elim
    rename_i q
    obtain ⟨hq, h5⟩ := chk_ran h3
    simp only [Bool.and_eq_true, Bool.not_eq_true', Nat.blt_eq] at hq
    obtain ⟨⟨q1, q2⟩, q3⟩ := hq
    have q1 := Nat.eq_of_beq_eq_true q1
    obtain ⟨c, hc, h6⟩ := opt_ran h5
    obtain rfl := ret_ran h6
    obtain ⟨vs, hv, hcs⟩ := hx
    obtain ⟨v, hv2, hcr⟩ := hcs.get q c (nthL_at hc)
    have ht := fi.td
    rw [htd] at ht
    simp only [tdOk] at ht
    split at ht <;> try contradiction
    rename_i m' e' hun
    simp only [Bool.and_eq_true, decide_eq_true_eq] at ht
    obtain ⟨rfl, rfl⟩ := ht
    have hlt := (List.getElem?_eq_some_iff.1 hv2).1
    refine does_pure hs (run_indexV (k := 1) (vs := [v]) (v := v) false hun (by have h8 := fe.agg; rw [q2] at h8; exact h8) (by have h8 := fe.size; rw [q1] at h8; exact h8) hv hiv (Int.natCast_nonneg q) (Int.ofNat_lt.2 q3) ?_ rfl rfl (fun _ => rfl)) hcr
    rw [show (Int.ofNat q).toNat * 1 = q by simp, List.drop_eq_getElem_cons hlt, List.take_succ_cons, List.take_zero]
    rw [(List.getElem?_eq_some_iff.1 hv2).2]
  | some u =>
  rw [hu] at h3
  simp only at h3
  obtain ⟨hq, h5⟩ := chk_ran h3
  simp only [Bool.and_eq_true, Bool.not_eq_true'] at hq
  obtain ⟨⟨⟨q1, q2⟩, q3⟩, q4⟩ := hq
  have q1 := Nat.eq_of_beq_eq_true q1
  have q3 := Nat.eq_of_beq_eq_true q3
  obtain ⟨xs, hxs, h6⟩ := opt_ran h5
  obtain ⟨y, hy, h7⟩ := bind_ran h6
  obtain ⟨vs, hv, hc⟩ := hx
  obtain ⟨ess, rfl, hE, hl⟩ := elems_ok hxs hc
  obtain ⟨es, g0, g1, g2, g3, g4⟩ := relall_idx hE hy
  have ht := fi.td
  rw [htd] at ht
  simp only [tdOk] at ht
  split at ht
  case h_2 => cases ht
  rename_i n' e' hund
  simp only [Bool.and_eq_true, decide_eq_true_eq] at ht
  obtain ⟨rfl, rfl⟩ := ht
  rw [q3] at g2 g3
  have hagg := fe.agg
  rw [q2] at hagg
  have hsz := fe.size
  rw [q1] at hsz
  split at h7
  · rename_i c hcc
    obtain rfl := ret_ran h7
    have hcr := cellsOf_ok (f := f) (σ := σ) q4 g4
    rw [hcc] at hcr
    obtain ⟨v, rfl⟩ := List.length_eq_one_iff.1 g3
    exact does_pure hs (run_indexV (vs := [v]) (v := v) false hund hagg hsz hv hiv g0 (by rw [← hl]; exact g1) g2 rfl rfl fun _ => rfl) hcr.1
  · exact h7.elim
end
end Hd
set_option linter.unusedVariables false
set_option linter.unusedSimpArgs false
namespace Hd
open Go Hk
section
variable {B : Tab} {f f' : HP} {σ : Rz B}
theorem castKV {k v k' v' : Ty} {m : List (den B.T k × den B.T v)} {m' : List (den B.T k' × den B.T v')} (h : castD B (.kv k v) (.kv k' v') m = some m') : ∃ (_ : k = k') (_ : v = v'), HEq m m' := by
  obtain ⟨q, rfl⟩ := castD_eq h
  injection q with a b
  subst a b
  exact ⟨rfl, rfl, HEq.rfl⟩
theorem kind_one {t : Ty} {k : KT} (h : kindT t = some k) {us : List Value} {x : den B.T t} (hx : (relB B t).p f us x) : ∃ v, us = [v] ∧ KV k v := by
  cases t <;> simp only [kindT, Option.some.injEq] at h <;> try contradiction
  all_goals subst h
  · exact ⟨_, hx, _, rfl⟩
  · exact ⟨_, hx, _, rfl⟩
  · exact ⟨_, hx, _, rfl⟩
theorem kind_eq {t : Ty} {k : KT} (h : kindT t = some k) {v v' : Value} {x x' : den B.T t} (hx : (relB B t).p f [v] x) (hx' : (relB B t).p f [v'] x') : vEq v v' = keq1 t x x' := by
  cases t <;> simp only [kindT, Option.some.injEq] at h <;> try contradiction
  all_goals subst h
  · have e1 : [v] = [Value.int _ x] := hx
    have e2 : [v'] = [Value.int _ x'] := hx'
    injection e1 with e1 _; injection e2 with e2 _
    subst e1 e2; rfl
  · have e1 : [v] = [Value.bool x] := hx
    have e2 : [v'] = [Value.bool x'] := hx'
    injection e1 with e1 _; injection e2 with e2 _
    subst e1 e2; rfl
  · have e1 : [v] = [Value.string x] := hx
    have e2 : [v'] = [Value.string x'] := hx'
    injection e1 with e1 _; injection e2 with e2 _
    subst e1 e2; rfl
theorem kinds_cons {t : Ty} {l : List Ty} {ks : List KT} (h : kindsT (t :: l) = some ks) : ∃ k r, ks = k :: r ∧ kindT t = some k ∧ kindsT l = some r := by
  unfold kindsT at h
  cases h1 : kindT t with
  | none => simp [h1] at h
  | some k =>
    cases h2 : kindsT l with
    | none => simp [h1, h2] at h
    | some r => simp only [h1, h2, Option.some.injEq] at h; exact ⟨k, r, h.symm, rfl, rfl⟩
theorem kinds_rel : ∀ {l : List Ty} {ks : List KT}, kindsT l = some ks → ∀ {us : List Value} {p : Tup B.T l}, (fTup B.R l).p f us p → KVs ks us
  | [], ks, h, us, p, hx => by
    simp only [kindsT, Option.some.injEq] at h
    subst h
    rw [show us = [] from hx]; trivial
  | [t], ks, h, us, p, hx => by
    obtain ⟨k, r, rfl, h1, h2⟩ := kinds_cons h
    simp only [kindsT, Option.some.injEq] at h2
    subst h2
    obtain ⟨v, rfl, hv⟩ := kind_one (B := B) h1 hx
    exact ⟨hv, trivial⟩
  | t :: u :: l, ks, h, us, p, hx => by
    obtain ⟨k, r, rfl, h1, h2⟩ := kinds_cons h
    obtain ⟨c1, c2, rfl, hx1, hx2⟩ := hx
    obtain ⟨v, rfl, hv⟩ := kind_one (B := B) h1 hx1
    exact ⟨hv, kinds_rel h2 hx2⟩
theorem kinds_eq : ∀ {l : List Ty} {ks : List KT}, kindsT l = some ks → ∀ {us us' : List Value} {p p' : Tup B.T l}, (fTup B.R l).p f us p → (fTup B.R l).p f us' p' → vsEq us us' = keqL l (toHL l p) (toHL l p')
  | [], ks, h, us, us', p, p', hx, hx' => by
    rw [show us = [] from hx, show us' = [] from hx']; rfl
  | [t], ks, h, us, us', p, p', hx, hx' => by
    obtain ⟨k, r, rfl, h1, h2⟩ := kinds_cons h
    obtain ⟨v, rfl, hv⟩ := kind_one (B := B) h1 hx
    obtain ⟨v', rfl, hv'⟩ := kind_one (B := B) h1 hx'
    show (vEq v v' && true) = (keq1 t p p' && true)
    rw [kind_eq h1 hx hx']
  | t :: u :: l, ks, h, us, us', p, p', hx, hx' => by
    obtain ⟨k, r, rfl, h1, h2⟩ := kinds_cons h
    obtain ⟨c1, c2, rfl, hx1, hx2⟩ := hx
    obtain ⟨c1', c2', rfl, hx1', hx2'⟩ := hx'
    obtain ⟨v, rfl, hv⟩ := kind_one (B := B) h1 hx1
    obtain ⟨v', rfl, hv'⟩ := kind_one (B := B) h1 hx1'
    show (vEq v v' && vsEq c2 c2') = (keq1 t p.1 p'.1 && keqL (u :: l) (toHL (u :: l) p.2) (toHL (u :: l) p'.2))
    rw [kind_eq h1 hx1 hx1', kinds_eq h2 hx2 hx2']
theorem kinds_sing {t : Ty} {ks : List KT} (h : kindsT [t] = some ks) : ∃ k, ks = [k] ∧ kindT t = some k := by
  obtain ⟨k, r, rfl, h1, h2⟩ := kinds_cons h
  simp only [kindsT, Option.some.injEq] at h2
  subst h2
  exact ⟨k, rfl, h1⟩
theorem keq1_congr {t : Ty} {k : KT} (h : kindT t = some k) {x x' : den B.T t} (hx : keq1 t x x' = true) (p : den B.T t) : keq1 t x p = keq1 t x' p := by
  cases t <;> simp only [kindT, Option.some.injEq] at h <;> try contradiction
  · have key : ∀ a b : Int, ieq a b = true → a = b := fun a b h => eq_of_beq h
    rw [key x x' hx]
  · have key : ∀ a b : Bool, beqB a b = true → a = b := fun a b h => eq_of_beq h
    rw [key x x' hx]
  · have hx : (sl8 x == sl8 x') = true := hx
    have := eq_of_beq hx
    show (sl8 x == sl8 p) = (sl8 x' == sl8 p)
    rw [this]
theorem keqL_congr : ∀ {l : List Ty} {ks : List KT}, kindsT l = some ks → ∀ {a b : HL B.T l}, keqL l a b = true → ∀ p, keqL l a p = keqL l b p
  | [], _, _, _, _, _, _ => rfl
  | t :: l, ks, h, a, b, hab, p => by
    obtain ⟨k, r, rfl, h1, h2⟩ := kinds_cons h
    have hab : (keq1 t a.1 b.1 && keqL l a.2 b.2) = true := hab
    simp only [Bool.and_eq_true] at hab
    show (keq1 t a.1 p.1 && keqL l a.2 p.2) = (keq1 t b.1 p.1 && keqL l b.2 p.2)
    rw [keq1_congr (B := B) h1 hab.1, keqL_congr h2 hab.2]
structure KOk (B : Tab) (P : Program) (kt : TypeId) (k : Ty) (T : Value → Prop) : Prop where
  key : KeyT P kt T
  vis : ∀ {f : HP} {v : Value} {x : den B.T k}, VIs f k v x → T v
  eq : ∀ {f : HP} {v v' : Value} {x x' : den B.T k}, VIs f k v x → VIs f k v' x' → kEq v v' = keqD B k x x'
  congr : ∀ {x x' : den B.T k}, keqD B k x x' = true → ∀ p, keqD B k x p = keqD B k x' p
theorem key_ok {P : Program} {kt : TypeId} {k : Ty} {ks : List KT} (h : keyOk P kt (aggT k) ks = true) (hk : kindsK B k = some ks) : ∃ T, KOk B P kt k T := by
  have one : ∀ t : Ty, kindsT [t] = some ks → aggT t = false → (∀ x x' : den B.T t, keqD B t x x' = keq1 t x x') → keyOk P kt (aggT t) ks = true → ∃ T, KOk B P kt t T := by
    intro t h1 h2 h3 h4
    obtain ⟨kk, rfl, h5⟩ := kinds_sing h1
    rw [h2] at h4
    refine ⟨KV kk, ⟨.one kk (kdOk_eq h4), fun hv => ?_, fun hv hv' => ?_, fun {x x'} hx p => by rw [h3] at hx; rw [h3, h3]; exact keq1_congr (B := B) h5 hx p⟩⟩
    · obtain ⟨us, h6, h7⟩ := hv
      obtain ⟨u, rfl, h8⟩ := kind_one (B := B) h5 h6
      rw [h2] at h7
      rw [h7]; exact h8
    · obtain ⟨us, h6, h7⟩ := hv
      obtain ⟨us', h6', h7'⟩ := hv'
      obtain ⟨u, rfl, h8⟩ := kind_one (B := B) h5 h6
      obtain ⟨u', rfl, h8'⟩ := kind_one (B := B) h5 h6'
      rw [h2] at h7 h7'
      rw [h7, h7', h3, show cond false (Value.agg [u].toArray) ([u].headD undef) = u from rfl, show cond false (Value.agg [u'].toArray) ([u'].headD undef) = u' from rfl, kEq_one h8 h8']
      exact kind_eq h5 h6 h6'
  cases k with
  | st i =>
    have hk' : kindsT (B.fs i) = some ks := hk
    refine ⟨_, ⟨.agg ks h, fun hv => ?_, fun hv hv' => ?_, fun {x x'} hx p => keqL_congr hk' hx _⟩⟩
    · obtain ⟨us, h6, h7⟩ := hv
      exact ⟨us, h7, kinds_rel hk' ((B.ok i _ us _).1 h6)⟩
    · obtain ⟨us, h6, h7⟩ := hv
      obtain ⟨us', h6', h7'⟩ := hv'
      rw [h7, h7']
      exact kinds_eq hk' ((B.ok i _ us _).1 h6) ((B.ok i _ us' _).1 h6')
  | int q => exact one _ hk rfl (fun _ _ => rfl) h
  | bool => exact one _ hk rfl (fun _ _ => rfl) h
  | str => exact one _ hk rfl (fun _ _ => rfl) h
  | sl e => simp [kindsK, kindsT, kindT] at hk
  | nsl e => simp [kindsK, kindsT, kindT] at hk
  | opt e => simp [kindsK, kindsT, kindT] at hk
  | ap e => simp [kindsK, kindsT, kindT] at hk
  | kv a b => simp [kindsK, kindsT, kindT] at hk
theorem mrel_keys {P : Program} {kt : TypeId} {k v : Ty} {T : Value → Prop} (K : KOk B P kt k T) : ∀ {es : List MapEntry} {m : List (den B.T k × den B.T v)}, MRel f k v es m → ∀ e ∈ es, T e.key
  | [], [], _, e, he => by simp at he
  | e0 :: es, p :: m, ⟨h1, h2, h3⟩, e, he => by
    rcases List.mem_cons.1 he with rfl | he
    · exact K.vis h1
    · exact mrel_keys K h3 e he
  | [], _ :: _, h, _, _ => h.elim
  | _ :: _, [], h, _, _ => h.elim
def FRes (f : HP) (v : Ty) : Option (Nat × Value) → Option (den B.T v) → Prop
  | some (_, u), some y => VIs f v u y
  | none, none => True
  | _, _ => False
theorem mrel_find {P : Program} {kt : TypeId} {k v : Ty} {T : Value → Prop} (K : KOk B P kt k T) {a : Value} {x : den B.T k} (ha : VIs f k a x) : ∀ {es : List MapEntry} {m : List (den B.T k × den B.T v)} (i : Nat), MRel f k v es m →
    FRes f v (vfind a es i) (mfind (keqD B k) x m)
  | [], [], _, _ => trivial
  | e :: es, (b, y) :: m, i, ⟨h1, h2, h3⟩ => by
    unfold vfind mfind
    rw [K.eq ha h1]
    cases keqD B k x b with
    | true => exact h2
    | false => exact mrel_find K ha (i + 1) h3
  | [], _ :: _, _, h => h.elim
  | _ :: _, [], _, h => h.elim
theorem mrel_put {P : Program} {kt : TypeId} {k v : Ty} {T : Value → Prop} (K : KOk B P kt k T) {a b : Value} {x : den B.T k} {y : den B.T v} {clk : Nat} (ha : VIs f k a x) (hb : VIs f v b y) : ∀ {es : List MapEntry} {m : List (den B.T k × den B.T v)} (i : Nat), MRel f k v es m →
    match vfind a es i with
    | some (j, _) => ∃ n, j = i + n ∧ MRel f k v (es.modify n fun e => { e with key := a, val := b }) (mset (keqD B k) x y m)
    | none => MRel f k v (es ++ [{ key := a, val := b, born := clk }]) (mset (keqD B k) x y m)
  | [], [], _, _ => ⟨ha, hb, trivial⟩
  | e :: es, (c, z) :: m, i, ⟨h1, h2, h3⟩ => by
    unfold vfind mset
    rw [K.eq ha h1]
    cases keqD B k x c with
    | true => exact ⟨0, rfl, ha, hb, h3⟩
    | false =>
      have ih := mrel_put K (clk := clk) ha hb (i + 1) h3
      simp only
      cases hf : vfind a es (i + 1) with
      | none =>
        rw [hf] at ih
        exact ⟨h1, h2, ih⟩
      | some q =>
        rw [hf] at ih
        obtain ⟨j, u⟩ := q
        obtain ⟨n, e1, e2⟩ := ih
        exact ⟨n + 1, by omega, h1, h2, e2⟩
  | [], _ :: _, _, h => h.elim
  | _ :: _, [], _, h => h.elim
theorem mput_rel {P : Program} {kt : TypeId} {k v : Ty} {T : Value → Prop} (K : KOk B P kt k T) {a b : Value} {x : den B.T k} {y : den B.T v} {es : Array MapEntry} {clk : Nat} {m : List (den B.T k × den B.T v)} (ha : VIs f k a x) (hb : VIs f v b y) (hm : MRel f k v es.toList m) :
    ∃ es' clk', mput a b es clk = .map es' clk' ∧ MRel f k v es'.toList (mset (keqD B k) x y m) := by
  have h := mrel_put K (clk := clk) ha hb 0 hm
  unfold mput
  cases hf : vfind a es.toList 0 with
  | none =>
    rw [hf] at h
    exact ⟨_, _, rfl, by simpa using h⟩
  | some q =>
    rw [hf] at h
    obtain ⟨j, u⟩ := q
    obtain ⟨n, e1, e2⟩ := h
    have : j = n := by omega
    subst this
    refine ⟨_, _, rfl, ?_⟩
    simpa using e2
theorem vis_cells {v : Ty} (hv : okT B 8 v = true) {u : Value} {y : den B.T v} (h : VIs f v u y) : ∃ us, CRels f σ (cellsOf v y) us ∧ u = cond (aggT v) (.agg us.toArray) (us.headD undef) ∧ us.length = (relB B v).n := by
  obtain ⟨us, h1, h2⟩ := h
  exact ⟨us, cellsOf_ok hv h1, h2, (relB B v).len h1⟩
theorem aggT_one {v : Ty} (h : aggT v = false) (hv : okT B 8 v = true) : (relB B v).n = 1 := by
  cases v <;> first | rfl | (cases h) | (simp [okT] at hv)
theorem rowT_eq {v e : Ty} (h : rowT v = some e) : v = .sl e := by
  cases v <;> simp only [rowT, Option.some.injEq] at h <;> first | (subst h; rfl) | contradiction
theorem KOk.self {P : Program} {kt : TypeId} {k : Ty} {T : Value → Prop} (K : KOk B P kt k T) {a : Value} {x : den B.T k} (ha : VIs f k a x) : keqD B k x x = true := by
  rw [← K.eq ha ha]; exact (K.key.eq_iff (K.vis ha) (K.vis ha)).2 rfl
theorem rowm_keys {P : Program} {kt : TypeId} {k e : Ty} {T : Value → Prop} (K : KOk B P kt k T) : ∀ {h : Option (den B.T k × Option Nat)} {es : List MapEntry} {hs : List Hdr} {rs : List (Option (Array Value))} {m : List (den B.T k × List (den B.T e))}, RowM f σ k e h es hs rs m → ∀ en ∈ es, T en.key
  | none, [], [], [], [], _, en, he => by simp at he
  | some _, [], [], [], [], _, en, he => by simp at he
  | none, en0 :: es, _ :: hs, _ :: rs, _ :: m, ⟨h1, h2, h3, h4⟩, en, he => by
    rcases List.mem_cons.1 he with rfl | he
    · exact K.vis h1
    · exact rowm_keys K h4 en he
  | some (key, pd), en0 :: es, _ :: hs, _ :: rs, _ :: m, ⟨h1, h2, h3⟩, en, he => by
    rcases List.mem_cons.1 he with rfl | he
    · exact K.vis h1
    · rcases h3 with ⟨_, _, _, h4⟩ | ⟨_, _, h4⟩
      · exact rowm_keys K h4 en he
      · exact rowm_keys K h4 en he
theorem rowm_len {k e : Ty} : ∀ {h : Option (den B.T k × Option Nat)} {es : List MapEntry} {hs : List Hdr} {rs : List (Option (Array Value))} {m : List (den B.T k × List (den B.T e))}, RowM f σ k e h es hs rs m → es.length = hs.length ∧ rs.length = hs.length ∧ m.length = hs.length
  | none, [], [], [], [], _ => ⟨rfl, rfl, rfl⟩
  | some _, [], [], [], [], _ => ⟨rfl, rfl, rfl⟩
  | none, en0 :: es, _ :: hs, _ :: rs, _ :: m, ⟨h1, h2, h3, h4⟩ => by
    obtain ⟨a, b, c⟩ := rowm_len h4
    simp [a, b, c]
  | some (key, pd), en0 :: es, _ :: hs, _ :: rs, _ :: m, ⟨h1, h2, h3⟩ => by
    rcases h3 with ⟨_, _, _, h4⟩ | ⟨_, _, h4⟩
    · obtain ⟨a, b, c⟩ := rowm_len h4
      simp [a, b, c]
    · obtain ⟨a, b, c⟩ := rowm_len h4
      simp [a, b, c]
theorem rowm_take {P : Program} {kt : TypeId} {k e : Ty} {T : Value → Prop} (K : KOk B P kt k T) {a : Value} {x : den B.T k} (ha : VIs f k a x) : ∀ {es : List MapEntry} {hs : List Hdr} {rs : List (Option (Array Value))} {m : List (den B.T k × List (den B.T e))} (i : Nat), RowM f σ k e none es hs rs m →
    match vfind a es i with
    | none => mfind (keqD B k) x m = none ∧ RowM f σ k e (some (x, none)) es hs rs m
    | some (j, v) => ∃ n hd r ys, j = i + n ∧ mfind (keqD B k) x m = some ys ∧ v = .slice hd.1 hd.2.1 hd.2.2 ∧ hs[n]? = some hd ∧ rs[n]? = some (some r) ∧ ArrOk f (relB B e) hd.1 hd.2.1 hd.2.2 r ys ∧ RowM f σ k e (some (x, none)) es hs (rs.set n none) m
  | [], [], [], [], i, _ => ⟨rfl, rfl⟩
  | en :: es, hd :: hs, r :: rs, (y, ys) :: m, i, ⟨h1, h2, ⟨r', h3, h4⟩, h5⟩ => by
    unfold vfind mfind
    rw [K.eq ha h1]
    cases hk : keqD B k x y with
    | true => exact ⟨0, hd, r', ys, rfl, rfl, h2, rfl, by rw [h3]; rfl, h4, h1, h2, .inl ⟨hk, rfl, trivial, h5⟩⟩
    | false =>
      have ih := rowm_take K ha (i + 1) h5
      simp only
      cases hf : vfind a es (i + 1) with
      | none =>
        rw [hf] at ih
        exact ⟨ih.1, h1, h2, .inr ⟨hk, ⟨r', h3, h4⟩, ih.2⟩⟩
      | some q =>
        rw [hf] at ih
        obtain ⟨j, v⟩ := q
        obtain ⟨n, hd', r2, ys', e1, e2, e3, e4, e5, e6, e7⟩ := ih
        exact ⟨n + 1, hd', r2, ys', by omega, e2, e3, e4, e5, e6, h1, h2, .inr ⟨hk, ⟨r', h3, h4⟩, e7⟩⟩
theorem rowm_put {P : Program} {kt : TypeId} {k e : Ty} {T : Value → Prop} (K : KOk B P kt k T) {a : Value} {x x' : den B.T k} {ys : List (den B.T e)} {A : Option Addr} {n c j clk : Nat} (ha : VIs f k a x) (hxx : ∀ p, keqD B k x' p = keqD B k x p) (hj : σ j = some (.hdr A n c)) :
    ∀ {es : List MapEntry} {hs : List Hdr} {rs : List (Option (Array Value))} {m : List (den B.T k × List (den B.T e))} (i : Nat), RowM f σ k e (some (x', none)) es hs rs m →
    match vfind a es i with
    | none => RowM f σ k e (some (x, some j)) (es ++ [{ key := a, val := .slice A n c, born := clk }]) (hs ++ [(A, n, c)]) (rs ++ [none]) (mset (keqD B k) x ys m)
    | some (j', _) => ∃ n', j' = i + n' ∧ (∀ r', rs[n']? ≠ some (some r')) ∧ RowM f σ k e (some (x, some j)) (es.modify n' fun e => { e with key := a, val := .slice A n c }) (hs.set n' (A, n, c)) rs (mset (keqD B k) x ys m)
  | [], [], [], [], i, _ => ⟨ha, rfl, .inl ⟨K.self ha, rfl, ⟨hj, ha⟩, rfl⟩⟩
  | en :: es, hd :: hs, r :: rs, (y, zs) :: m, i, ⟨h1, h2, h3⟩ => by
    unfold vfind mset
    rw [K.eq ha h1]
    cases hk : keqD B k x y with
    | true =>
      rcases h3 with ⟨b1, b2, b3, b4⟩ | ⟨b1, _⟩
      · refine ⟨0, rfl, fun r' => ?_, ha, rfl, .inl ⟨K.self ha, b2, ⟨hj, ha⟩, b4⟩⟩
        rw [b2]; simp
      · have b1 : keqD B k x' y = false := b1
        rw [hxx, hk] at b1; cases b1
    | false =>
      rcases h3 with ⟨b1, _⟩ | ⟨b1, b2, b3⟩
      · have b1 : keqD B k x' y = true := b1
        rw [hxx, hk] at b1; cases b1
      · have ih := rowm_put K (ys := ys) (clk := clk) ha hxx hj (i + 1) b3
        simp only
        cases hf : vfind a es (i + 1) with
        | none =>
          rw [hf] at ih
          exact ⟨h1, h2, .inr ⟨hk, b2, ih⟩⟩
        | some q =>
          rw [hf] at ih
          obtain ⟨j', v⟩ := q
          obtain ⟨n', e1, e2, e3⟩ := ih
          exact ⟨n' + 1, by omega, e2, h1, h2, .inr ⟨hk, b2, e3⟩⟩
theorem rowm_pend {k e : Ty} {x : den B.T k} {j : Nat} : ∀ {es : List MapEntry} {hs : List Hdr} {rs : List (Option (Array Value))} {m : List (den B.T k × List (den B.T e))}, RowM f σ k e (some (x, some j)) es hs rs m → σ j ≠ none
  | [], [], [], [], h => by cases h
  | en :: es, hd :: hs, r0 :: rs, (y, zs) :: m, ⟨h1, h2, h3⟩ => by
    rcases h3 with ⟨_, _, ⟨b3, _⟩, _⟩ | ⟨_, _, b3⟩
    · rw [b3]; simp
    · exact rowm_pend b3
theorem rowm_same {σ' : Rz B} {k e : Ty} {pd : Option (den B.T k × Option Nat)} (hp : ∀ x j, pd = some (x, some j) → σ' j = σ j) : ∀ {es : List MapEntry} {hs : List Hdr} {rs : List (Option (Array Value))} {m : List (den B.T k × List (den B.T e))}, RowM f σ k e pd es hs rs m → RowM f σ' k e pd es hs rs m := by
  have nn : ∀ {es : List MapEntry} {hs : List Hdr} {rs : List (Option (Array Value))} {m : List (den B.T k × List (den B.T e))}, RowM f σ k e none es hs rs m → RowM f σ' k e none es hs rs m := by
    intro es
    induction es with
    | nil => intro hs rs m h; cases hs <;> cases rs <;> cases m <;> first | exact h | exact h.elim
    | cons en es ih =>
      intro hs rs m h
      cases hs <;> cases rs <;> cases m <;> first | exact h.elim | skip
      exact ⟨h.1, h.2.1, h.2.2.1, ih h.2.2.2⟩
  cases pd with
  | none => intro es hs rs m h; exact nn h
  | some q =>
    obtain ⟨x, pd⟩ := q
    intro es
    induction es with
    | nil => intro hs rs m h; cases hs <;> cases rs <;> cases m <;> first | exact h | exact h.elim
    | cons en es ih =>
      intro hs rs m h
      cases hs <;> cases rs <;> cases m <;> first | exact h.elim | skip
      obtain ⟨h1, h2, h3⟩ := h
      refine ⟨h1, h2, ?_⟩
      rcases h3 with ⟨a1, a2, a3, a4⟩ | ⟨a1, a2, a3⟩
      · refine .inl ⟨a1, a2, ?_, nn a4⟩
        cases pd with
        | none => trivial
        | some j => exact ⟨(hp x j rfl).trans a3.1, a3.2⟩
      · exact .inr ⟨a1, a2, ih a3⟩
theorem rowm_close {k e : Ty} {x : den B.T k} {ys : List (den B.T e)} {A : Option Addr} {n c j : Nat} {r : Array Value} (hj : σ j = some (.hdr A n c)) (hok : ArrOk f (relB B e) A n c r ys) :
    ∀ {es : List MapEntry} {hs : List Hdr} {rs : List (Option (Array Value))} {m : List (den B.T k × List (den B.T e))}, RowM f σ k e (some (x, some j)) es hs rs m →
    ∃ n', n' < hs.length ∧ hs[n']? = some (A, n, c) ∧ (∀ r', rs[n']? ≠ some (some r')) ∧ RowM f σ k e none es hs (rs.set n' (some r)) (mset (keqD B k) x ys m)
  | [], [], [], [], h => by cases h
  | en :: es, hd :: hs, r0 :: rs, (y, zs) :: m, ⟨h1, h2, h3⟩ => by
    unfold mset
    rcases h3 with ⟨b1, b2, ⟨b3, b3'⟩, b4⟩ | ⟨b1, b2, b3⟩
    · have b1 : keqD B k x y = true := b1
      rw [hj] at b3
      injection b3 with b3
      injection b3 with e1 e2 e3
      obtain ⟨hA, hn, hc⟩ := hd
      simp only at e1 e2 e3
      subst e1 e2 e3
      rw [b1]
      refine ⟨0, by simp, rfl, fun r' => ?_, b3', h2, ⟨r, rfl, hok⟩, b4⟩
      rw [b2]; simp
    · have b1 : keqD B k x y = false := b1
      rw [b1]
      obtain ⟨n', e1, e2, e3, e4⟩ := rowm_close hj hok b3
      exact ⟨n' + 1, by simpa using e1, e2, e3, h1, h2, b2, e4⟩
end
section
variable {B : Tab} {P : Program} {tt : List (TI B)} {M : Loc → Option (Con B)} {G w : World} {L0 : List HProp} {f0 f : HP} {σ0 σ : Rz B} {E : List (Nat × EH)} {N : Nat → Prop} {ρ : Env}
variable {dst : Option Tmp} {ty : TypeId} {pos : String} {after : Array Edge} {guard : Option (Nat × Bool)} {base : Nat} {rs : List Loc} {out : Out B} {ρr : Type} {o : ρr}
theorem opdG_ran (hs : SimF G L0 f0 σ0 M E N f σ ρ w) {g : Bool} {x : Operand} {k : List (Cel B) → RM B ρr} (h : (opdG g x k).Ran M o rs) :
    ∃ cs us rs', CRels f σ cs us ∧ ev ρ x = cond g (.agg us.toArray) (us.headD undef) ∧ (k cs).Ran M o rs' := by
  obtain ⟨d, rs', h1, h⟩ := opd_ran hs h
  cases g with
  | false =>
    cases d <;> try exact h.elim
    rename_i c
    exact ⟨[c], [ev ρ x], rs', ⟨h1, trivial⟩, rfl, h⟩
  | true =>
    cases d <;> try exact h.elim
    obtain ⟨vs, e, h2⟩ := h1
    exact ⟨_, vs, rs', h2, e, h⟩
structure MapF (P : Program) (t : TypeId) (te : TI B) (k v : Ty) : Prop where
  ex : ∃ kt T, P.underlying t = some (.map kt te.id) ∧ KOk B P kt k T
  ti : tiOk P te = true
  agg : te.agg = aggT v
  size : te.size = (relB B v).n
  okv : okT B 8 v = true
theorem mapTy_ok (htt : ttOk P tt = true) {t : Nat} {te : TI B} {k v : Ty} (h : mapTy tt t = some (te, k, v)) : MapF P t te k v := by
  unfold mapTy at h
  split at h <;> try contradiction
  rename_i ti hti
  obtain ⟨k1, rfl⟩ := tfind_ok htt hti
  have ft := (tiOk_facts k1).td
  split at h <;> try contradiction
  rename_i kt et g ks k0 v0 htd
  rw [htd] at ft
  split at h <;> try contradiction
  rename_i te0 hte
  obtain ⟨k2, rfl⟩ := tfind_ok htt hte
  split at h <;> try contradiction
  rename_i hb
  simp only [Option.some.injEq, Prod.mk.injEq] at h
  obtain ⟨rfl, rfl, rfl⟩ := h
  simp only [Bool.and_eq_true, beq_iff_eq] at hb
  obtain ⟨⟨⟨⟨⟨b1, b2⟩, b3⟩, b4⟩, b5⟩, b6⟩ := hb
  simp only [tdOk] at ft
  split at ft <;> try contradiction
  rename_i kt' et' hu
  simp only [Bool.and_eq_true, decide_eq_true_eq] at ft
  obtain ⟨⟨rfl, rfl⟩, hk⟩ := ft
  subst b1
  have hks : kindsK B k0 = some ks := by
    unfold ksIs at b2
    split at b2 <;> try contradiction
    rename_i l hl
    rw [hl, ksBeq_eq b2]
  obtain ⟨T, hT⟩ := key_ok hk hks
  exact ⟨⟨kt, T, hu, hT⟩, k2, b3, Nat.eq_of_beq_eq_true b4, b5⟩
theorem MapF.zero {t : TypeId} {te : TI B} {k v : Ty} (h : MapF P t te k v) {z : den B.T v} (hz : dataOf B v te.zc = some z) : ∃ zv, tyZero P te.id = some zv ∧ VIs f v zv z := by
  have ft := tiOk_facts h.ti
  obtain ⟨zv, z1, z2, z3⟩ := ft.zero
  obtain ⟨hc, _⟩ := celsAre_rel (f := f) (σ := fun _ => none) z2
  refine ⟨zv, z1, zv.cells.toList, dataOf_ok hz hc, ?_⟩
  have hg := ft.zag zv z1
  rw [h.agg] at hg
  cases hv : aggT v with
  | true =>
    rw [hv] at hg
    cases zv <;> simp [zagg] at hg
    simp [Value.cells]
  | false =>
    rw [hv] at hg
    cases zv <;> simp [zagg] at hg <;> simp [Value.cells]
theorem lookR_ran {agg ok : Bool} {v : Ty} {r : Option (den B.T v)} {z : den B.T v} {q : Option (Nat × Value)} {zv : Value} (ha : agg = aggT v) (hok : okT B 8 v = true) (hr : FRes f v q r) (hz : VIs f v zv z) (h : (lookR agg ok v r z).Ran M out rs) :
    ∃ d, out = ⟨some d, [], [], []⟩ ∧ DRel f σ d (lkV ok zv q) := by
  subst ha
  obtain ⟨u, hu, hu2⟩ : ∃ u, VIs f v u (r.getD z) ∧ lkV ok zv q = cond ok (.tuple #[u, .bool r.isSome]) u := by
    cases q with
    | none => cases r with
      | none => exact ⟨zv, hz, rfl⟩
      | some y => exact hr.elim
    | some q => obtain ⟨j, u⟩ := q; cases r with
      | none => exact hr.elim
      | some y => exact ⟨u, hr, rfl⟩
  obtain ⟨us, h1, h2, h3⟩ := vis_cells (σ := σ) hok hu
  rw [hu2]
  cases ok with
  | true =>
    obtain rfl := ret_ran h
    refine ⟨_, rfl, [u, .bool r.isSome], rfl, ⟨us, h1, h2, fun hg => by rw [h3, aggT_one hg hok]⟩, ⟨[.bool r.isSome], ⟨rfl, trivial⟩, rfl, fun _ => rfl⟩, trivial⟩
  | false =>
    unfold lookR dvOf at h
    simp only at h
    cases hg : aggT v with
    | true =>
      rw [hg] at h h2
      obtain rfl := ret_ran h
      exact ⟨_, rfl, us, h2, h1⟩
    | false =>
      rw [hg] at h h2
      have hl := h3.trans (aggT_one hg hok)
      cases us with
      | nil => cases hl
      | cons a l =>
        cases l with
        | cons _ _ => simp at hl
        | nil =>
          cases hc : cellsOf v (r.getD z) with
          | nil => rw [hc] at h1; exact h1.elim
          | cons c l =>
            cases l with
            | cons _ _ => rw [hc] at h1; exact h1.2.elim
            | nil =>
              rw [hc] at h h1
              obtain rfl := ret_ran h
              exact ⟨_, rfl, by rw [h2]; exact h1.1⟩
theorem row_out (hs : SimF G L0 f0 σ0 M E N f σ ρ w) (hb : ∀ j, base ≤ j → j < base + stepV → ¬ N j) {i : Nat} {k e : Ty} {m : List (den B.T k × List (den B.T e))} {key : den B.T k} (haE : (i, EH.mp k (.sl e)) ∈ E)
    {E2 : List (Nat × EH)} {L2 : List HProp} {r : Nat} {es : Array MapEntry} {clk : Nat} {hl : List Hdr} {rl : List (Option (Array Value))} {A : Option Addr} {n c : Nat} {cur : Array Value} {ys : List (den B.T e)}
    (ho : Once E2) (hm : ∀ x, x ∈ E2 ↔ x ∈ E ∧ x.1 ∉ [i]) (he : Ents f σ M E2 L2) (hσi : σ i = some (.mob r)) (hrow : RowM f σ k e (some (key, none)) es.toList hl rl m)
    (hw : Wd G w f (Arr A c cur :: MapH r (.map es clk) hl rl :: (L2 ++ L0))) (hok : ArrOk f (relB B e) A n c cur ys) :
    Goal G L0 f0 σ0 M E N base f σ ρ ⟨some (.one (.own base)), [(.a base, .arr e ys (base + 1) 0), (.a i, .mph k e m key none)], [(base, .arr e)], []⟩ (some (.slice A n c)) w := by
  have b0 : σ base = none := by simpa using base_none hs hb 0 (by decide)
  have b1 : σ (base + 1) = none := base_none hs hb 1 (by decide)
  have hne : ∀ i h, (i, h) ∈ E → i ≠ base := fun i h hi e => by subst e; exact ents_some hs hi b0
  have hib := hne _ _ haE
  have hσ1 : Rz.le σ (setR σ base (.hdr A n c)) := setR_le b0
  have hσ : Rz.le σ (setR (setR σ base (.hdr A n c)) (base + 1) (.con e ys)) := Rz.le_trans hσ1 (setR_le (by rw [setR_ne (by omega)]; exact b1))
  have s0 : setR (setR σ base (.hdr A n c)) (base + 1) (.con e ys) base = some (.hdr A n c) := by rw [setR_ne (by omega)]; exact setR_self _ _ _
  have s1 : setR (setR σ base (.hdr A n c)) (base + 1) (.con e ys) (base + 1) = some (.con e ys) := setR_self _ _ _
  have hlk : ∀ l, l ≠ .a base → l ≠ .a i → look [(Loc.a base, Con.arr e ys (base + 1) 0), (Loc.a i, Con.mph k e m key none)] l = none := fun l h1 h2 => by
    rw [look_cons_ne (Ne.symm h1), look_cons_ne (Ne.symm h2)]; rfl
  have hli : look [(Loc.a base, Con.arr e ys (base + 1) 0), (Loc.a i, Con.mph k e m key none)] (.a i) = some (.mph k e m key none) := by
    rw [look_cons_ne (by simpa using hib.symm), look_cons_self]
  refine ⟨f, _, HP.le_refl _, hσ, hs.updS (HP.le_refl _) hσ (fun j hj => ?_) (fun l q hl => ?_) (fun j h hj => .inl ?_) ⟨(base, .arr e) :: (i, .mp k (.sl e)) :: E2, Arr A c cur :: MapH r (.map es clk) hl rl :: L2,
    (ho.cons fun k hk => by have := ((hm _).1 hk).2; simp at this).cons fun k' hk => ?_, fun x => ?_, ⟨?_, ?_, ?_⟩, hw⟩, ⟨A, n, c, s0, rfl⟩⟩
  · have : j ≠ base ∧ j ≠ base + 1 := ⟨fun e => hj (.inr ⟨by omega, by simp only [stepW]; omega⟩), fun e => hj (.inr ⟨by omega, by simp only [stepW]; omega⟩)⟩
    rw [setR_ne this.2, setR_ne this.1]
    exact hs.fresh _ fun h => hj (.inl h)
  · by_cases hlb : l = .a base
    · subst hlb
      rw [look_cons_self] at hl
      injection hl with hl; subst hl
      show (base, EH.arr e) ∈ delsE _ _
      simp [delsE]
    · by_cases hla : l = .a i
      · subst hla
        rw [hli] at hl
        injection hl with hl; subst hl
        show (i, EH.mp k (.sl e)) ∈ delsE _ _
        simp [delsE, haE]
      · rw [hlk l hlb hla] at hl; cases hl
  · simp [delsE, hj]
  · rcases List.mem_cons.1 hk with h | hk
    · injection h with h _; exact hib h.symm
    · exact hne _ _ ((hm _).1 hk).1 rfl
  · simp only [delsE, List.singleton_append, List.mem_cons, hm]
    constructor
    · rintro (rfl | rfl | ⟨h, _⟩)
      · exact .inl rfl
      · exact .inr haE
      · exact .inr h
    · rintro (rfl | h)
      · exact .inl rfl
      · right
        by_cases hx : x.1 = i
        · left
          have := only_one hs (i := i) (h := x.2) (h' := .mp k (.sl e)) (by rw [← hx]; exact h) haE
          rw [← this, ← hx]
        · exact .inr ⟨h, by simpa using hx⟩
  · exact ⟨A, n, c, cur, ys, base + 1, 0, s0, rfl, ovl_some (look_cons_self _ _ _), s1, hok, fun h => by omega, fun h => by omega⟩
  · exact .inr ⟨e, r, es, clk, hl, rl, rfl, hσ _ _ hσi, rfl, .inr ⟨m, key, none, ovl_some hli, hrow.mono (HP.le_refl _) hσ⟩⟩
  · refine Ents.mono (HP.le_refl _) hσ (fun j h hj => ?_) he
    have hj' := (hm _).1 hj
    have hjb := hne _ _ hj'.1
    have hji : j ≠ i := by simpa using hj'.2
    cases h with
    | arr e' => exact hlk _ (by simpa using hjb) (by simpa using hji)
    | grid e' => exact hlk _ (by simpa using hjb) (by simpa using hji)
    | mp _ _ => exact hlk _ (by simpa using hjb) (by simpa using hji)
    | blk t m => exact ⟨hlk _ (by simp) (by simp), fun j => hlk _ (by simp) (by simp)⟩
theorem zcN_value {P : Program} {te : TI B} (h : tiOk P te = true) (hz : zcN te.zc = true) (ha : te.agg = false) : tyZero P te.id = some (.slice none 0 0) := by
  have ft := tiOk_facts h
  obtain ⟨z, z1, z2, z3⟩ := ft.zero
  have hg := ft.zag z z1
  rw [ha] at hg
  have hzc : te.zc = [.nils] := by
    revert hz
    unfold zcN
    split
    · rename_i h1; exact fun _ => h1
    · intro h; cases h
  rw [hzc] at z2
  have key : ∀ v : Value, zagg false v = true → celsAre [(.nils : Cel B)] v.cells.toList = true → v = .slice none 0 0 := by
    intro v h1 h2
    cases v <;> simp [zagg] at h1 <;> simp only [Value.cells] at h2 <;> simp only [celsAre, Bool.and_true] at h2 <;> unfold celIs at h2 <;> split at h2 <;> first | cases h2 | skip
    all_goals (rename_i hx _; first | (injection hx; done) | skip)
    all_goals simp_all
  rw [z1, key z hg z2]
theorem lookRow_does (htt : ttOk P tt = true) (hs : SimF G L0 f0 σ0 M E N f σ ρ w) (hb : ∀ j, base ≤ j → j < base + stepV → ¬ N j) {t : TypeId} {te : TI B} {k v e : Ty} (mf : MapF P t te k v) (hrv : rowT v = some e) {x ix : Operand} {ok : Bool} (h1 : (lookRowR base te k e x ix ok).Ran M out rs) :
    Does P ⟨dst, .lookup t x ix ok, ty, pos, after, guard⟩ ρ w (Goal G L0 f0 σ0 M E N base f σ ρ out) := by
  obtain rfl := rowT_eq hrv
  obtain ⟨kt, T, hu, K⟩ := mf.ex
  obtain ⟨c, rs1, hc, h2⟩ := opd1_ran hs h1
  obtain ⟨kcs, kus, rs2, hk, hke, h3⟩ := opdG_ran hs h2
  obtain ⟨key, hkey, h5⟩ := opt_ran h3
  clear h1 h2 h3
  have hkv : VIs f k (ev ρ ix) key := ⟨kus, dataOf_ok hkey hk, hke⟩
  cases c <;> try exact h5.elim
  rename_i i
  obtain ⟨hq, h⟩ := chk_ran h5
  simp only [Bool.and_eq_true, Bool.not_eq_true'] at hq
  obtain ⟨rfl, hzc⟩ := hq
  have hzv := zcN_value mf.ti hzc (by rw [mf.agg]; rfl)
  obtain ⟨rs3, h⟩ := read_ran h
  cases hM : M (.a i) with
  | none => rw [hM] at h; exact h.elim
  | some q =>
    rw [hM] at h
    cases q <;> try exact h.elim
    rename_i k' v' m
    obtain ⟨m', hcast, h⟩ := opt_ran h
    obtain ⟨rfl, rfl, hq0⟩ := castKV hcast
    obtain rfl := eq_of_heq hq0
    obtain rfl := ret_ran h
    obtain ⟨E2, L2, r, es, clk, hl, rl, r1, r2, r3, r4, r5, r6⟩ := take_mpR hs hM
    obtain ⟨r', r7, hv⟩ := hc
    rw [r4] at r7
    injection r7 with r7
    injection r7 with r7
    subst r7
    have r6' := wd_mapOpen r6
    have hbr := wd_blk 0 r6' rfl
    have hrun := run_lookupK (P := P) false hu K.key hbr (rowm_keys K r5) (K.vis hkv) hzv
    have ht := rowm_take K hkv 0 r5
    cases hf : vfind (ev ρ ix) es.toList 0 with
    | none =>
      rw [hf] at ht hrun
      refine .inl ⟨_, w, run_lookupE (by rw [hv]; exact hrun), ?_⟩
      have hz : (mfind (keqD B k') key m : Option (den B.T (.sl e))) = none := ht.1
      rw [hz]
      obtain ⟨a1, a2⟩ := wd_arrNil (E := relB B e) r6
      exact row_out hs hb (hs.mps _ _ _ _ hM) r1 r2 r3 r4 ht.2 a2 a1
    | some q =>
      rw [hf] at ht hrun
      obtain ⟨j, v⟩ := q
      obtain ⟨n, hd, rr, ys, e1, e2, e3, e4, e5, e6, e7⟩ := ht
      refine .inl ⟨_, w, run_lookupE (by rw [hv]; exact hrun), ?_⟩
      have hz : (mfind (keqD B k') key m : Option (den B.T (.sl e))) = some ys := e2
      rw [hz]
      show Goal G L0 f0 σ0 M E N base f σ ρ _ (some v) w
      rw [e3]
      have w1 := wd_rowsTake e4 e5 (wd_swap r6')
      have w2 : Wd G w f (RowsH hl (rl.set n none) :: Arr hd.1 hd.2.2 rr :: Blk r (.map es clk) :: (L2 ++ L0)) := wd_swap w1
      have w3 : Wd G w f (Blk r (.map es clk) :: RowsH hl (rl.set n none) :: Arr hd.1 hd.2.2 rr :: (L2 ++ L0)) := w2.front 2 rfl
      exact row_out hs hb (hs.mps _ _ _ _ hM) r1 r2 r3 r4 e7 (wd_swap (wd_mapShut w3)) e6
theorem lookup_does (htt : ttOk P tt = true) (hs : SimF G L0 f0 σ0 M E N f σ ρ w) {t : TypeId} {x ix : Operand} {ok : Bool} (hb : ∀ j, base ≤ j → j < base + stepV → ¬ N j) (h : (lookupR tt base t x ix ok).Ran M out rs) :
    Does P ⟨dst, .lookup t x ix ok, ty, pos, after, guard⟩ ρ w (Goal G L0 f0 σ0 M E N base f σ ρ out) := by
  obtain ⟨⟨te, k, v⟩, hmt, h1⟩ := opt_ran h
  have mf := mapTy_ok htt hmt
  obtain ⟨kt, T, hu, K⟩ := mf.ex
  cases hrv : rowT v with
  | some e => simp only [hrv] at h1; exact lookRow_does htt hs hb mf hrv h1
  | none =>
  simp only [hrv] at h1
  obtain ⟨c, rs1, hc, h2⟩ := opd1_ran hs h1
  obtain ⟨kcs, kus, rs2, hk, hke, h3⟩ := opdG_ran hs h2
  obtain ⟨key, hkey, h4⟩ := opt_ran h3
  obtain ⟨z, hz, h5⟩ := opt_ran h4
  clear h h1 h2 h3 h4
  obtain ⟨zv, hzv, hzr⟩ := mf.zero (f := f) hz
  have hkv : VIs f k (ev ρ ix) key := ⟨kus, dataOf_ok hkey hk, hke⟩
  cases c <;> try exact h5.elim
  case mpr i =>
    obtain ⟨rs3, h⟩ := read_ran h5
    cases hM : M (.a i) with
    | none => rw [hM] at h; exact h.elim
    | some q =>
      rw [hM] at h
      cases q <;> try exact h.elim
      rename_i k' v' m
      obtain ⟨m', hcast, h⟩ := opt_ran h
      obtain ⟨rfl, rfl, hq0⟩ := castKV hcast
      obtain rfl := eq_of_heq hq0
      obtain ⟨E2, L2, r, es, clk, r1, r2, r3, r4, r5, r6⟩ := take_mp hs hM hrv
      obtain ⟨r', r7, hv⟩ := hc
      rw [r4] at r7
      injection r7 with r7
      injection r7 with r7
      subst r7
      have hb := wd_blk 0 r6 rfl
      obtain ⟨d, rfl, hd⟩ := lookR_ran (σ := σ) mf.agg mf.okv (mrel_find K hkv 0 r5) hzr h
      exact does_pure hs (run_lookupE (by rw [hv]; exact run_lookupK ok hu K.key hb (mrel_keys K r5) (K.vis hkv) hzv)) hd
  case nilm =>
    obtain ⟨d, rfl, hd⟩ := lookR_ran (σ := σ) (q := none) (r := none) mf.agg mf.okv trivial hzr h5
    exact does_pure hs (run_lookupE (by rw [show ev ρ x = .map none from hc]; exact run_lookupN ok hu K.key (K.vis hkv) hzv)) hd
theorem set_mp (hs : SimF G L0 f0 σ0 M E N f σ ρ w) {g : Nat} {k v : Ty} {m m' : List (den B.T k × den B.T v)} (hM : M (.a g) = some (.mp k v m)) (hrv : rowT v = none)
    {E2 : List (Nat × EH)} {L2 : List HProp} {r : Nat} {es : Array MapEntry} {clk : Nat} {w' : World}
    (ho : Once E2) (hm : ∀ x, x ∈ E2 ↔ x ∈ E ∧ x.1 ∉ [g]) (he : Ents f σ M E2 L2) (hσa : σ g = some (.mob r)) (hw : Wd G w' f (Blk r (.map es clk) :: (L2 ++ L0))) (hok : MRel f k v es.toList m') :
    Goal G L0 f0 σ0 M E N base f σ ρ ⟨none, [(.a g, .mp k v m')], [], []⟩ none w' := by
  have haE := hs.mps g k v m hM
  have hup : ∀ l, l ≠ .a g → look [(Loc.a g, Con.mp k v m')] l = none := fun l hl => by rw [look_cons_ne (Ne.symm hl)]; rfl
  refine ⟨f, σ, HP.le_refl _, Rz.le_refl _, hs.updS (HP.le_refl _) (Rz.le_refl _) (fun i hi => hs.fresh _ fun h => hi (.inl h)) (fun l q hl => ?_) (fun i h hi => .inl (by simpa [delsE] using hi)) ⟨(g, .mp k v) :: E2, Blk r (.map es clk) :: L2, ho.cons fun k hk => by have := ((hm _).1 hk).2; simp at this, fun x => ?_, ⟨?_, ?_⟩, hw⟩, trivial⟩
  · by_cases hla : Loc.a g = l
    · subst hla
      rw [look_cons_self] at hl
      injection hl with hl; subst hl
      show (g, EH.mp k v) ∈ delsE _ _
      simpa [delsE] using haE
    · rw [hup l (Ne.symm hla)] at hl; cases hl
  · simp only [delsE, List.nil_append, List.mem_cons, hm]
    constructor
    · rintro (rfl | ⟨h, _⟩)
      · exact haE
      · exact h
    · intro h
      by_cases hx : x.1 = g
      · left
        have := only_one hs (i := g) (h := x.2) (h' := .mp k v) (by rw [← hx]; exact h) haE
        rw [← this, ← hx]
      · exact .inr ⟨h, by simpa using hx⟩
  · exact .inl ⟨hrv, r, es, clk, m', hσa, rfl, ovl_some (look_cons_self _ _ _), hok⟩
  · refine Ents.mono (HP.le_refl _) (Rz.le_refl _) (fun i h hi => ?_) he
    have hia : i ≠ g := by have := ((hm _).1 hi).2; simpa using this
    cases h with
    | arr e' => exact hup _ (by simpa using hia)
    | grid e' => exact hup _ (by simpa using hia)
    | mp _ _ => exact hup _ (by simpa using hia)
    | blk t m => exact ⟨hup _ (by simp), fun j => hup _ (by simp)⟩
theorem set_mph (hs : SimF G L0 f0 σ0 M E N f σ ρ w) {g : Nat} {k e : Ty} {m' : List (den B.T k × List (den B.T e))} {key : den B.T k} {pd : Option Nat} (haE : (g, EH.mp k (.sl e)) ∈ E)
    {E2 : List (Nat × EH)} {L2 : List HProp} {r : Nat} {es : Array MapEntry} {clk : Nat} {hl : List Hdr} {rl : List (Option (Array Value))} {w' : World}
    (ho : Once E2) (hm : ∀ x, x ∈ E2 ↔ x ∈ E ∧ x.1 ∉ [g]) (he : Ents f σ M E2 L2) (hσa : σ g = some (.mob r)) (hw : Wd G w' f (MapH r (.map es clk) hl rl :: (L2 ++ L0))) (hok : RowM f σ k e (some (key, pd)) es.toList hl rl m') :
    Goal G L0 f0 σ0 M E N base f σ ρ ⟨none, [(.a g, .mph k e m' key pd)], [], []⟩ none w' := by
  have hup : ∀ l, l ≠ .a g → look [(Loc.a g, Con.mph k e m' key pd)] l = none := fun l hl => by rw [look_cons_ne (Ne.symm hl)]; rfl
  refine ⟨f, σ, HP.le_refl _, Rz.le_refl _, hs.updS (HP.le_refl _) (Rz.le_refl _) (fun i hi => hs.fresh _ fun h => hi (.inl h)) (fun l q hl => ?_) (fun i h hi => .inl (by simpa [delsE] using hi)) ⟨(g, .mp k (.sl e)) :: E2, MapH r (.map es clk) hl rl :: L2, ho.cons fun k hk => by have := ((hm _).1 hk).2; simp at this, fun x => ?_, ⟨?_, ?_⟩, hw⟩, trivial⟩
  · by_cases hla : Loc.a g = l
    · subst hla
      rw [look_cons_self] at hl
      injection hl with hl; subst hl
      show (g, EH.mp k (.sl e)) ∈ delsE _ _
      simpa [delsE] using haE
    · rw [hup l (Ne.symm hla)] at hl; cases hl
  · simp only [delsE, List.nil_append, List.mem_cons, hm]
    constructor
    · rintro (rfl | ⟨h, _⟩)
      · exact haE
      · exact h
    · intro h
      by_cases hx : x.1 = g
      · left
        have := only_one hs (i := g) (h := x.2) (h' := .mp k (.sl e)) (by rw [← hx]; exact h) haE
        rw [← this, ← hx]
      · exact .inr ⟨h, by simpa using hx⟩
  · exact .inr ⟨e, r, es, clk, hl, rl, rfl, hσa, rfl, .inr ⟨m', key, pd, ovl_some (look_cons_self _ _ _), hok⟩⟩
  · refine Ents.mono (HP.le_refl _) (Rz.le_refl _) (fun i h hi => ?_) he
    have hia : i ≠ g := by have := ((hm _).1 hi).2; simpa using this
    cases h with
    | arr e' => exact hup _ (by simpa using hia)
    | grid e' => exact hup _ (by simpa using hia)
    | mp _ _ => exact hup _ (by simpa using hia)
    | blk t m => exact ⟨hup _ (by simp), fun j => hup _ (by simp)⟩
theorem put_row {kt et : TypeId} {t : TypeId} {k e : Ty} {T : Value → Prop} (hu : P.underlying t = some (.map kt et)) (K : KOk B P kt k T) (hs : SimF G L0 f0 σ0 M E N f σ ρ w) {i j r : Nat} {x x' : den B.T k} {a : Value} {ys : List (den B.T e)} {m : List (den B.T k × List (den B.T e))} (haE : (i, EH.mp k (.sl e)) ∈ E)
    {E2 : List (Nat × EH)} {L2 : List HProp} {es : Array MapEntry} {clk : Nat} {hl : List Hdr} {rl : List (Option (Array Value))} {A : Option Addr} {n c : Nat} (ha : VIs f k a x) (hxx : ∀ p, keqD B k x' p = keqD B k x p) (hj : σ j = some (.hdr A n c))
    (ho : Once E2) (hm : ∀ x, x ∈ E2 ↔ x ∈ E ∧ x.1 ∉ [i]) (he : Ents f σ M E2 L2) (hσa : σ i = some (.mob r)) (hw : Wd G w f (MapH r (.map es clk) hl rl :: (L2 ++ L0))) (hok : RowM f σ k e (some (x', none)) es.toList hl rl m) :
    ∃ w', (Instr.mapUpdate t (.map (some r)) a (.slice A n c)).run P w = .ok () w' ∧ Goal G L0 f0 σ0 M E N base f σ ρ ⟨none, [(.a i, .mph k e (mset (keqD B k) x ys m) x (some j))], [], []⟩ none w' := by
  have hw' := wd_mapOpen hw
  have hb := wd_blk 0 hw' rfl
  have hp := rowm_put K (ys := ys) (clk := clk) ha hxx hj 0 hok
  refine ⟨_, run_mapUpdateK hu K.key hb (rowm_keys K hok) (K.vis ha), ?_⟩
  have ws := wd_setObj (o' := mput a (.slice A n c) es clk) hw'
  unfold mput at ws ⊢
  cases hf : vfind a es.toList 0 with
  | none =>
    rw [hf] at hp ws
    simp only at ws ⊢
    have wr := wd_rowsPushN (hd := (A, n, c)) (rowm_len hok).2.1 (wd_swap ws)
    exact set_mph hs haE ho hm he hσa (wd_mapShut (wd_swap wr)) (by simpa using hp)
  | some q =>
    rw [hf] at hp ws
    obtain ⟨j', u⟩ := q
    obtain ⟨n', e1, e2, e3⟩ := hp
    have : j' = n' := by omega
    subst this
    simp only at ws ⊢
    have wr := wd_rowsHdr (hd := (A, n, c)) e2 (wd_swap ws)
    exact set_mph hs haE ho hm he hσa (wd_mapShut (wd_swap wr)) (by simpa using e3)
theorem putRow_run (hs : SimF G L0 f0 σ0 M E N f σ ρ w) {t : TypeId} {te : TI B} {k v e : Ty} (mf : MapF P t te k v) (hrv : rowT v = some e) {x ix y : Operand} (h1 : (putRowR base k e x ix y).Ran M out rs) :
    ∃ w', (Instr.mapUpdate t (ev ρ x) (ev ρ ix) (ev ρ y)).run P w = .ok () w' ∧ Goal G L0 f0 σ0 M E N base f σ ρ out none w' := by
  obtain rfl := rowT_eq hrv
  obtain ⟨kt, T, hu, K⟩ := mf.ex
  obtain ⟨c, rs1, hc, h2⟩ := opd1_ran hs h1
  obtain ⟨kcs, kus, rs2, hk, hke, h3⟩ := opdG_ran hs h2
  obtain ⟨key, hkey, h4⟩ := opt_ran h3
  obtain ⟨vcs, vus, rs3, hv, hve, h5⟩ := opdG_ran hs h4
  clear h1 h2 h3 h4
  have hkv : VIs f k (ev ρ ix) key := ⟨kus, dataOf_ok hkey hk, hke⟩
  cases c <;> try exact h5.elim
  rename_i i
  cases vcs with
  | nil => exact h5.elim
  | cons c0 l =>
    cases c0 <;> cases l <;> try exact h5.elim
    rename_i j
    obtain ⟨hji, h⟩ := chk_ran h5
    obtain ⟨rs4, h⟩ := read_ran h
    cases hMj : M (.a j) with
    | none => rw [hMj] at h; exact h.elim
    | some q =>
      rw [hMj] at h
      cases q <;> try exact h.elim
      rename_i e' ys0 s nn
      obtain ⟨ys, hcy, h6⟩ := opt_ran h
      clear h
      obtain ⟨rfl, rfl⟩ := castSl hcy
      obtain ⟨rs5, h⟩ := read_ran h6
      obtain ⟨r, hσi, hxv⟩ := hc
      cases vus with
      | nil => exact hv.elim
      | cons u l2 =>
        cases l2 with
        | cons _ _ => exact hv.2.elim
        | nil =>
        obtain ⟨⟨A, n, cc, hσj, hu2⟩, _⟩ := hv
        have hyv : ev ρ y = .slice A n cc := by rw [hve]; exact hu2
        cases hM : M (.a i) with
        | none => rw [hM] at h; exact h.elim
        | some q =>
          rw [hM] at h
          cases q <;> try exact h.elim
          case mp k' v' m =>
            obtain ⟨m', hcast, h⟩ := opt_ran h
            obtain ⟨rfl, rfl, hq0⟩ := castKV hcast
            obtain rfl := eq_of_heq hq0
            obtain rfl := ret_ran h
            obtain ⟨E2, L2, r', es, clk, hl, rl, r1, r2, r3, r4, r5, r6⟩ := take_mpR hs hM
            rw [hσi] at r4
            injection r4 with r4
            injection r4 with r4
            subst r4
            rw [hxv, hyv]
            have ht := rowm_take K hkv 0 r5
            cases hf : vfind (ev ρ ix) es.toList 0 with
            | none =>
              rw [hf] at ht
              exact put_row hu K hs (hs.mps _ _ _ _ hM) hkv (fun _ => rfl) hσj r1 r2 r3 hσi r6 ht.2
            | some q =>
              rw [hf] at ht
              obtain ⟨j0, v0⟩ := q
              obtain ⟨n0, hd, rr, ys1, a1, a2, a3, a4, a5, a6, a7⟩ := ht
              have w1 := wd_rowsTake a4 a5 (wd_swap (wd_mapOpen r6))
              have w2 : Wd G w f (RowsH hl (rl.set n0 none) :: Blk r (.map es clk) :: (L2 ++ L0)) := w1.drop1
              exact put_row hu K hs (hs.mps _ _ _ _ hM) hkv (fun _ => rfl) hσj r1 r2 r3 hσi (wd_mapShut (wd_swap w2)) a7
          case mph k' e2 m key' pd =>
            cases pd with
            | some _ => exact h.elim
            | none =>
            obtain ⟨m', hcast, h⟩ := opt_ran h
            obtain ⟨rfl, hq1, hq0⟩ := castKV hcast
            injection hq1 with hq1
            subst hq1
            obtain rfl := eq_of_heq hq0
            obtain ⟨key2, hck, h7⟩ := opt_ran h
            clear h
            obtain ⟨_, hki, h8⟩ := bind_ran h7
            obtain rfl := ret_ran h8
            obtain ⟨qq, hk0⟩ := castD_eq hck
            have hk2 : key2 = key' := hk0
            rw [hk2] at hki
            have hkk : keqD B k' key' key = true := by
              cases hb : keqD B k' key' key with
              | true => rfl
              | false => unfold keyIs at hki; rw [hb] at hki; cases hki
            obtain ⟨E2, L2, r', es, clk, hl, rl, r1, r2, r3, r4, r5, r6⟩ := take_mph hs hM
            rw [hσi] at r4
            injection r4 with r4
            injection r4 with r4
            subst r4
            rw [hxv, hyv]
            exact put_row hu K hs (hs.mphs _ _ _ _ _ _ hM) hkv (K.congr hkk) hσj r1 r2 r3 hσi r6 r5
theorem update_run (htt : ttOk P tt = true) (hs : SimF G L0 f0 σ0 M E N f σ ρ w) {t : TypeId} {x ix y : Operand} (h : (updateR tt base t x ix y).Ran M out rs) :
    ∃ w', (Instr.mapUpdate t (ev ρ x) (ev ρ ix) (ev ρ y)).run P w = .ok () w' ∧ Goal G L0 f0 σ0 M E N base f σ ρ out none w' := by
  obtain ⟨⟨te, k, v⟩, hmt, h1⟩ := opt_ran h
  have mf := mapTy_ok htt hmt
  obtain ⟨kt, T, hu, K⟩ := mf.ex
  cases hrv : rowT v with
  | some e => simp only [hrv] at h1; exact putRow_run hs mf hrv h1
  | none =>
  simp only [hrv] at h1
  obtain ⟨c, rs1, hc, h2⟩ := opd1_ran hs h1
  obtain ⟨kcs, kus, rs2, hk, hke, h3⟩ := opdG_ran hs h2
  obtain ⟨key, hkey, h4⟩ := opt_ran h3
  obtain ⟨vcs, vus, rs3, hv, hve, h5⟩ := opdG_ran hs h4
  clear h h1 h2 h3 h4
  cases c <;> try exact h5.elim
  rename_i i
  obtain ⟨rs4, h⟩ := read_ran h5
  cases hM : M (.a i) with
  | none => rw [hM] at h; exact h.elim
  | some q =>
    rw [hM] at h
    cases q <;> try exact h.elim
    rename_i k' v' m
    obtain ⟨m', hcast, h⟩ := opt_ran h
    obtain ⟨rfl, rfl, hq0⟩ := castKV hcast
    obtain rfl := eq_of_heq hq0
    obtain ⟨cs', ov, f1, rs5, p1, p2, p3, p4, p5, p6, pd, h⟩ := dataC_ran (simO_nil (n := base) (mu := []) hs) hv h
    obtain ⟨hno, h⟩ := chk_ran h
    have hno' : look ov.up (.a i) = none := by
      unfold noLook at hno
      split at hno
      · assumption
      · cases hno
    obtain ⟨z, hz, h⟩ := opt_ran h
    obtain rfl := ret_ran h
    have hM2 : ovl ov.up M (.a i) = some (.mp k' v' m) := by rw [ovl_none hno']; exact hM
    obtain ⟨E2, L2, r, es, clk, r1, r2, r3, r4, r5, r6⟩ := take_mp p2 hM2 hrv
    obtain ⟨r', r7, hxv⟩ := hc
    rw [r4] at r7
    injection r7 with r7
    injection r7 with r7
    subst r7
    have hb := wd_blk 0 r6 rfl
    have hkv : VIs f1 k' (ev ρ ix) key := VIs.mono p1 ⟨kus, dataOf_ok hkey hk, hke⟩
    have hvv : VIs f1 v' (ev ρ y) z := ⟨vus, dataOf_ok hz p6, hve⟩
    obtain ⟨es', clk', q1, q2⟩ := mput_rel K (clk := clk) hkv hvv r5
    refine ⟨_, by rw [hxv]; exact run_mapUpdateK hu K.key hb (mrel_keys K r5) (K.vis hkv), ?_⟩
    exact goal_after (up := [(.a i, .mp k' v' (mset (keqD B k') key z m))]) (add := []) p1 (fun _ _ _ h => by simp at h) (set_mp p2 hM2 hrv r1 r2 r3 r4 (by rw [q1]; exact wd_setObj r6) q2)
theorem update_does (htt : ttOk P tt = true) (hs : SimF G L0 f0 σ0 M E N f σ ρ w) {t : TypeId} {x ix y : Operand} (h : (updateR tt base t x ix y).Ran M out rs) :
    Does P ⟨dst, .mapUpdate t x ix y, ty, pos, after, guard⟩ ρ w (Goal G L0 f0 σ0 M E N base f σ ρ out) := by
  obtain ⟨w', h1, h2⟩ := update_run htt hs h
  exact .inr (.inl ⟨w', run_mapUpdateE h1, h2⟩)
theorem insert_does (htt : ttOk P tt = true) (hs : SimF G L0 f0 σ0 M E N f σ ρ w) {t : TypeId} {x ix y : Operand} (h : (updateR tt base t x ix y).Ran M out rs) :
    Does P ⟨dst, .insert t x ix y, ty, pos, after, guard⟩ ρ w (Goal G L0 f0 σ0 M E N base f σ ρ out) := by
  obtain ⟨w', h1, h2⟩ := update_run htt hs h
  exact .inr (.inl ⟨w', run_insertE h1, h2⟩)
theorem makeMap_does (hs : SimF G L0 f0 σ0 M E N f σ ρ w) (hb : ∀ j, base ≤ j → j < base + stepV → ¬ N j) {t : TypeId} {k v : Ty} :
    Does P ⟨dst, .makeMap t none, ty, pos, after, guard⟩ ρ w (Goal G L0 f0 σ0 M E N base f σ ρ ⟨some (.one (.mpr base)), [(.a base, .mp k v [])], [(base, .mp k v)], []⟩) := by
  obtain ⟨E1, L1, k1, k2, k3, k4⟩ := hs.ents
  have b0 : σ base = none := by simpa using base_none hs hb 0 (by decide)
  have hne : ∀ i h, (i, h) ∈ E → i ≠ base := fun i h hi e => by subst e; exact ents_some hs hi b0
  have hσ : Rz.le σ (setR σ base (.mob w.heap.size)) := setR_le b0
  have s0 : setR σ base (.mob w.heap.size) base = some (.mob w.heap.size) := setR_self _ _ _
  have hlk : ∀ l, l ≠ .a base → look [(Loc.a base, Con.mp (B := B) k v [])] l = none := fun l hl => by rw [look_cons_ne (Ne.symm hl)]; rfl
  refine .inl ⟨_, _, run_makeMapE, f, _, HP.le_refl _, hσ, hs.updS (HP.le_refl _) hσ (fun i hi => ?_) (fun l q hl => ?_) (fun i h hi => .inl ?_) ⟨(base, .mp k v) :: E1, (match rowT v with | none => Blk w.heap.size (.map #[] 0) | some _ => MapH w.heap.size (.map #[] 0) [] []) :: L1, k1.cons fun k hk => hne _ _ ((k2 _).1 hk) rfl, fun x => ?_, ⟨?_, ?_⟩, ?_⟩, ⟨_, s0, rfl⟩⟩
  · have : i ≠ base := fun e => hi (.inr ⟨by omega, by simp only [stepW]; omega⟩)
    rw [setR_ne this]
    exact hs.fresh _ fun h => hi (.inl h)
  · by_cases hlb : Loc.a base = l
    · subst hlb
      rw [look_cons_self] at hl
      injection hl with hl; subst hl
      show (base, EH.mp k v) ∈ delsE _ _
      simp [delsE]
    · rw [hlk l (Ne.symm hlb)] at hl; cases hl
  · simp [delsE, hi]
  · simp [delsE, k2]
  · cases hv : rowT v with
    | none => exact .inl ⟨hv, _, #[], 0, [], s0, rfl, ovl_some (look_cons_self _ _ _), trivial⟩
    | some e =>
      obtain rfl := rowT_eq hv
      exact .inr ⟨e, _, #[], 0, [], [], rfl, s0, rfl, .inl ⟨[], ovl_some (look_cons_self _ _ _), rfl⟩⟩
  · refine Ents.mono (HP.le_refl _) hσ (fun i h hi => ?_) k3
    have hib := hne _ _ ((k2 _).1 hi)
    cases h with
    | arr e => exact hlk _ (by simpa using hib)
    | grid e => exact hlk _ (by simpa using hib)
    | mp _ _ => exact hlk _ (by simpa using hib)
    | blk t' m => exact ⟨hlk _ (by simp), fun j => hlk _ (by simp)⟩
  · have w1 := wd_newO (o := .map #[] 0) k4
    cases hv : rowT v with
    | none => exact w1
    | some e => exact wd_mapShut (wd_swap (wd_rowsNil (hs := []) w1))
theorem mrel_len {k v : Ty} : ∀ {es : List MapEntry} {m : List (den B.T k × den B.T v)}, MRel f k v es m → es.length = m.length
  | [], [], _ => rfl
  | _ :: _, _ :: _, ⟨_, _, h⟩ => by simp [mrel_len h]
  | [], _ :: _, h => h.elim
  | _ :: _, [], h => h.elim
theorem isMap_ok (htt : ttOk P tt = true) {t : Nat} (h : isMap tt t = true) : ∃ kt et, P.underlying t = some (.map kt et) := by
  unfold isMap at h
  split at h <;> try contradiction
  rename_i ti hti
  split at h <;> try contradiction
  rename_i kt et g ks k v htd
  obtain ⟨k1, rfl⟩ := tfind_ok htt hti
  have ft := (tiOk_facts k1).td
  rw [htd] at ft
  simp only [tdOk] at ft
  split at ft <;> try contradiction
  rename_i kt' et' hu
  exact ⟨_, _, hu⟩
end
end Hd
set_option linter.unusedVariables false
set_option linter.unusedSimpArgs false
namespace Hd
open Go Hk
section
variable {B : Tab} {P : Program} {tt : List (TI B)} {M : Loc → Option (Con B)} {G w : World} {L0 : List HProp} {f0 f : HP} {σ0 σ : Rz B} {E : List (Nat × EH)} {N : Nat → Prop} {ρ : Env}
variable {base : Nat} {dst : Option Tmp} {ty : TypeId} {pos : String} {after : Array Edge} {guard : Option (Nat × Bool)} {out : Out B} {rs : List Loc} {ρr : Type} {o : ρr}
theorem map2 {α β : Type} {g : α → β} {l : List α} {a b : β} (h : l.map g = [a, b]) : ∃ x y, l = [x, y] ∧ g x = a ∧ g y = b := by
  cases l with
  | nil => cases h
  | cons x l => cases l with
    | nil => cases h
    | cons y l => cases l with
      | nil => simp at h; exact ⟨x, y, rfl, h⟩
      | cons _ _ => simp at h
theorem map3 {α β : Type} {g : α → β} {l : List α} {a b c : β} (h : l.map g = [a, b, c]) : ∃ x y z, l = [x, y, z] ∧ g x = a ∧ g y = b ∧ g z = c := by
  cases l with
  | nil => cases h
  | cons x l =>
    simp only [List.map_cons, List.cons.injEq] at h
    obtain ⟨y, z, rfl, h2⟩ := map2 h.2
    exact ⟨x, y, z, rfl, h.1, h2⟩
theorem map4 {α β : Type} {g : α → β} {l : List α} {a b c d : β} (h : l.map g = [a, b, c, d]) : ∃ x y z w, l = [x, y, z, w] ∧ g x = a ∧ g y = b ∧ g z = c ∧ g w = d := by
  cases l with
  | nil => cases h
  | cons x l =>
    simp only [List.map_cons, List.cons.injEq] at h
    obtain ⟨y, z, w, rfl, h2⟩ := map3 h.2
    exact ⟨x, y, z, w, rfl, h.1, h2⟩
theorem len2 {α : Type} {l : List α} (h : l.length = 2) : ∃ x y, l = [x, y] := by
  cases l with
  | nil => cases h
  | cons x l => cases l with
    | nil => cases h
    | cons y l => cases l with
      | nil => exact ⟨x, y, rfl⟩
      | cons _ _ => simp at h
theorem len3 {α : Type} {l : List α} (h : l.length = 3) : ∃ x y z, l = [x, y, z] := by
  cases l with
  | nil => cases h
  | cons x l => obtain ⟨y, z, rfl⟩ := len2 (by simpa using h); exact ⟨x, y, z, rfl⟩
theorem len4 {α : Type} {l : List α} (h : l.length = 4) : ∃ x y z w, l = [x, y, z, w] := by
  cases l with
  | nil => cases h
  | cons x l => obtain ⟨y, z, w, rfl⟩ := len3 (by simpa using h); exact ⟨x, y, z, w, rfl⟩
theorem oneOf_rel : ∀ {ds : List (DV B)} {cs : List (Cel B)} {vs : List Value}, oneOf ds = some cs → DRels f σ ds vs → CRels f σ cs vs
  | [], cs, [], h, _ => by simp only [oneOf, Option.some.injEq] at h; subst h; trivial
  | d :: ds, cs, v :: vs, h, ⟨h1, h2⟩ => by
    cases d with
    | one c =>
      unfold oneOf at h
      cases h3 : oneOf ds with
      | none => simp [h3] at h
      | some r => simp only [h3, Option.some.injEq] at h; subst h; exact ⟨h1, oneOf_rel h3 h2⟩
    | _ => cases h
  | [], _, _ :: _, _, h => h.elim
  | _ :: _, _, [], _, h => h.elim
theorem look_upK {i : Nat} : ∀ {cs : List (Cel B)} {a j : Nat}, look (upK i a cs) (.k i j) = if a ≤ j then (cs[j - a]?).map .c else none
  | [], a, j => by simp [upK, look]
  | c :: cs, a, j => by
    unfold upK
    by_cases h : a = j
    · subst h; rw [look_cons_self]; simp
    · rw [look_cons_ne (by simpa using h), look_upK]
      by_cases h1 : a ≤ j
      · have : a + 1 ≤ j := by omega
        rw [if_pos this, if_pos h1, show j - a = (j - (a + 1)) + 1 by omega]
        simp
      · rw [if_neg h1, if_neg (by omega)]
theorem look_upK_other {i : Nat} {l : Loc} : ∀ {cs : List (Cel B)} {a : Nat}, (∀ j, l ≠ .k i j) → look (upK i a cs) l = none
  | [], _, _ => rfl
  | c :: cs, a, h => by
    unfold upK
    rw [look_cons_ne (Ne.symm (h a))]
    exact look_upK_other h
theorem func_does (hs : SimF G L0 f0 σ0 M E N f σ ρ w) (hb : ∀ j, base ≤ j → j < base + stepV → ¬ N j) {fn : Go.Fn} {first cap : Array Operand} (h : (opProg tt base (.makeFunc fn first cap)).Ran M out rs) :
    Does P ⟨dst, .makeFunc fn first cap, ty, pos, after, guard⟩ ρ w (Goal G L0 f0 σ0 M E N base f σ ρ out) := by
  cases fn <;> try exact h.elim
  rename_i fid
  cases hf : first.toList with
  | cons _ _ => simp only [opProg, hf] at h; exact h.elim
  | nil =>
    simp only [opProg, hf] at h
    obtain ⟨ds, rs1, hd, h1⟩ := opds_ran hs h
    obtain ⟨cs, q1, h2⟩ := opt_ran h1
    obtain ⟨hu, h3⟩ := chk_ran h2
    clear h h1 h2
    have hc := oneOf_rel q1 hd
    have hrun : (execOp (ev ρ) ⟨dst, .makeFunc (.func fid) first cap, ty, pos, after, guard⟩).run P w = .ok (.value (.func (.func fid) #[] (cap.toList.map (ev ρ)).toArray)) w := by
      refine run_pev ?_
      simp [pev, hf]
    cases cs with
    | nil =>
      obtain rfl := ret_ran h3
      refine does_pure hs hrun ?_
      cases hcap : cap.toList.map (ev ρ) with
      | nil => rfl
      | cons _ _ => rw [hcap] at hc; exact hc.elim
    | cons c cs =>
      obtain rfl := ret_ran h3
      generalize hcc : c :: cs = ccs at *
      generalize hvv : cap.toList.map (ev ρ) = vs at *
      have b0 : σ base = none := by simpa using base_none hs hb 0 (by decide)
      have hne : ∀ i h, (i, h) ∈ E → i ≠ base := fun i h hi e => by subst e; exact ents_some hs hi b0
      have hσ : Rz.le σ (setR σ base (.clo vs)) := setR_le b0
      have s0 : setR σ base (.clo vs) base = some (.clo vs) := setR_self _ _ _
      have hlk : ∀ l, (∀ j, l ≠ .k base j) → look (upK base 0 ccs) l = none := fun l h => look_upK_other h
      obtain ⟨E1, L1, k1, k2, k3, k4⟩ := hs.ents
      refine .inl ⟨_, w, hrun, f, _, HP.le_refl _, hσ, hs.updS (HP.le_refl _) hσ (fun i hi => ?_) (fun l q hl => ?_) (fun i h hi => .inl (by simpa [delsE] using hi)) ⟨E1, L1, k1, fun x => by simp [delsE, k2], Ents.mono (HP.le_refl _) hσ (fun i h hi => ?_) k3, k4⟩, ⟨vs, s0, hc.len, rfl⟩⟩
      · have : i ≠ base := fun e => hi (.inr ⟨by omega, by simp only [stepW]; omega⟩)
        rw [setR_ne this]
        exact hs.fresh _ fun h => hi (.inl h)
      · cases l with
        | k i j =>
          by_cases hi : i = base
          · subst hi
            rw [look_upK] at hl
            simp only [Nat.zero_le, if_true, Nat.sub_zero, Option.map_eq_some_iff] at hl
            obtain ⟨x, hx, rfl⟩ := hl
            obtain ⟨v, hv, hr⟩ := hc.get j x hx
            exact ⟨vs, v, s0, hv, hr.mono (HP.le_refl _) hσ⟩
          · rw [hlk _ fun j' e => by injection e with e _; exact hi e] at hl; cases hl
        | _ => rw [hlk _ fun j' e => by cases e] at hl; cases hl
      · cases h with
        | arr e => exact hlk _ fun j e => by cases e
        | grid e => exact hlk _ fun j e => by cases e
        | mp k v => exact hlk _ fun j e => by cases e
        | blk t' m => exact ⟨hlk _ (fun j e => by cases e), fun j => hlk _ (fun j' e => by cases e)⟩
theorem extract_rel : ∀ {l : List (Bool × List (Cel B))} {vs : List Value} {i : Nat} {g : Bool} {cs : List (Cel B)}, TRels f σ l vs → nthL l i = some (g, cs) →
    ∃ v us, vs[i]? = some v ∧ CRels f σ cs us ∧ v = cond g (.agg us.toArray) (us.headD undef) ∧ (g = false → us.length = 1)
  | [], _, i, g, cs, _, h => by cases h
  | (g0, c0) :: l, v :: vs, 0, g, cs, ⟨⟨us, h1, h2, h3⟩, _⟩, h => by
    simp only [nthL, Option.some.injEq, Prod.mk.injEq] at h
    obtain ⟨rfl, rfl⟩ := h
    exact ⟨v, us, rfl, h1, h2, h3⟩
  | (g0, c0) :: l, v :: vs, i + 1, g, cs, ⟨_, h2⟩, h => by simpa using extract_rel h2 h
  | _ :: _, [], _, _, _, h, _ => h.elim
theorem run_capNil {t e : TypeId} {x : Operand} (ht : tyElem P t = some e) (hx : ev ρ x = .slice none 0 0) :
    (execOp (ev ρ) ⟨dst, .call { callee := .builtin .cap, args := #[x], argTypes := #[t] }, ty, pos, after, guard⟩).run P w = .ok (.value (.int .i64 0)) w := by
  have ht := tyElem_spec ht
  simp [execOp, resolve, invoke, builtin, Builtin.cap_, underlying, ht, hx, goInt, go_sem]
theorem call_builtin_does (htt : ttOk P tt = true) (hs : SimF G L0 f0 σ0 M E N f σ ρ w) (hb : ∀ j, base ≤ j → j < base + stepV → ¬ N j) {bi : Builtin} {args : Array Operand} {ats : Array TypeId} (h : (opProg tt base (.call ⟨.builtin bi, args, ats⟩)).Ran M out rs) :
    Does P ⟨dst, .call ⟨.builtin bi, args, ats⟩, ty, pos, after, guard⟩ ρ w (Goal G L0 f0 σ0 M E N base f σ ρ out) := by
  have ha : ∀ l, args.toList = l → args = l.toArray := fun l h => by rw [← h]
  have ht : ∀ l, ats.toList = l → ats = l.toArray := fun l h => by rw [← h]
  cases bi <;> try exact h.elim
  case cap =>
    simp only [opProg] at h
    split at h <;> try exact h.elim
    rename_i x t e1 e2
    obtain rfl := ha _ e1
    obtain rfl := ht _ e2
    obtain ⟨c, rs1, hc, h1⟩ := opd1_ran hs h
    clear h
    cases c <;> try exact h1.elim
    case nils =>
      obtain ⟨hq, h2⟩ := chk_ran h1
      obtain ⟨et, het⟩ := isSl_ok htt hq
      obtain rfl := ret_ran h2
      exact does_pure hs (run_capNil het hc) rfl
  case len =>
    simp only [opProg] at h
    split at h <;> try exact h.elim
    rename_i x t e1 e2
    obtain rfl := ha _ e1
    obtain rfl := ht _ e2
    obtain ⟨c, rs1, hc, h1⟩ := opd1_ran hs h
    clear h
    cases c <;> try exact h1.elim
    case sl e xs =>
      obtain ⟨hq, h2⟩ := chk_ran h1
      obtain ⟨et, het⟩ := isSl_ok htt hq
      obtain rfl := ret_ran h2
      obtain ⟨A, n, c, hv, hsl⟩ := hc
      exact does_pure hs (run_lenS het hv hsl.len) ⟨rfl, Nat.le_trans hsl.le hsl.max⟩
    case nsl e xs =>
      obtain ⟨hq, h2⟩ := chk_ran h1
      obtain ⟨et, het⟩ := isSl_ok htt hq
      obtain rfl := ret_ran h2
      cases xs with
      | none =>
        obtain ⟨c, e1, _⟩ := hc
        simp only [List.cons.injEq, and_true] at e1
        exact does_pure hs (run_lenS (xs := ([] : List (den B.T e))) het e1 rfl) ⟨rfl, by simp [maxLen]⟩
      | some ys =>
        obtain ⟨a, n, c, e1, hsl⟩ := hc
        simp only [List.cons.injEq, and_true] at e1
        exact does_pure hs (run_lenS het e1 hsl.len) ⟨rfl, Nat.le_trans hsl.le hsl.max⟩
    case nils =>
      obtain ⟨hq, h2⟩ := chk_ran h1
      obtain ⟨et, het⟩ := isSl_ok htt hq
      obtain rfl := ret_ran h2
      exact does_pure hs (run_lenS (xs := ([] : List Unit)) het hc rfl) ⟨rfl, by simp [maxLen]⟩
    case own i =>
      obtain ⟨hq, h2⟩ := chk_ran h1
      obtain ⟨et, het⟩ := isSl_ok htt hq
      obtain ⟨rs2, h3⟩ := read_ran h2
      cases hM : M (.a i) with
      | none => rw [hM] at h3; exact h3.elim
      | some q =>
        rw [hM] at h3
        cases q <;> try exact h3.elim
        case arr e xs s nn =>
          obtain rfl := ret_ran h3
          obtain ⟨E2, L2, A, m, c, cur, r1, r2, r3, r4, r5, r6, r7, r8, r9⟩ := take_arr hs hM
          obtain ⟨A', m', c', r10, hv⟩ := hc
          rw [r4] at r10
          injection r10 with r10
          injection r10 with a1 a2 a3
          subst a1 a2 a3
          exact does_pure hs (run_lenS het hv r6.len) ⟨rfl, Nat.le_trans r6.le r6.max⟩
        case grid e rows s hh hole nn =>
          obtain rfl := ret_ran h3
          obtain ⟨E2, L2, A, m, c, cur, hdl, rl, r1, r2, r3, r4, r5, r5', r6, r7, r9⟩ := take_grid hs hM
          obtain ⟨A', m', c', r10, hv⟩ := hc
          rw [r4] at r10
          injection r10 with r10
          injection r10 with a1 a2 a3
          subst a1 a2 a3
          exact does_pure hs (run_lenS (xs := rows) het hv r6.len) ⟨rfl, Nat.le_trans r6.le r6.arr.max⟩
    case grow g e i hh =>
      obtain ⟨hq, h2⟩ := chk_ran h1
      obtain ⟨et, het⟩ := isSl_ok htt hq
      obtain ⟨rs2, h3⟩ := read_ran h2
      cases hM : M (.a g) with
      | none => rw [hM] at h3; exact h3.elim
      | some q =>
        rw [hM] at h3
        cases q <;> try exact h3.elim
        rename_i e' rows s h' hole nn
        cases hole with
        | some j => exact h3.elim
        | none =>
        obtain ⟨hq2, h4⟩ := chk_ran h3
        have := Nat.eq_of_beq_eq_true hq2
        subst this
        obtain ⟨row, hrow, h5⟩ := bind_ran h4
        obtain rfl := ret_ran h5
        obtain ⟨E2, L2, A, m, c, cur, hdl, rl, r1, r2, r3, r4, r5, r5', r6, r7, r9⟩ := take_grid hs hM
        obtain ⟨_, l, hd, z1, z2, hv⟩ := hc
        rw [z1] at r5'
        injection r5' with r5'
        injection r5' with r5'
        subst r5'
        obtain ⟨b, oo, B', m', q', r, hA, hce, hhd, hrr, hok⟩ := grid_el r6 hrow (fun hf => hf)
        have z3 := z2
        rw [hhd] at z3
        injection z3 with z3
        subst z3
        exact does_pure hs (run_lenS (xs := row) het hv hok.len) ⟨rfl, Nat.le_trans hok.le hok.max⟩
    case str s =>
      obtain ⟨hq, h2⟩ := chk_ran h1
      obtain rfl := ret_ran h2
      exact does_pure hs (run_lenStr (isStr_ok htt hq) hc) rfl
    case mpr i =>
      obtain ⟨hq, h2⟩ := chk_ran h1
      obtain ⟨kt, et, hu⟩ := isMap_ok htt hq
      obtain ⟨rs2, h3⟩ := read_ran h2
      cases hM : M (.a i) with
      | none => rw [hM] at h3; exact h3.elim
      | some q =>
        rw [hM] at h3
        cases q <;> try exact h3.elim
        rename_i k v m
        obtain rfl := ret_ran h3
        cases hrv : rowT v with
        | none =>
          obtain ⟨E2, L2, r, es, clk, r1, r2, r3, r4, r5, r6⟩ := take_mp hs hM hrv
          obtain ⟨r', r7, hv⟩ := hc
          rw [r4] at r7
          injection r7 with r7
          injection r7 with r7
          subst r7
          refine does_pure hs (run_lenMap hu hv (wd_blk 0 r6 rfl)) ?_
          have := mrel_len r5
          show Value.int .i64 (es.size : Int) = Value.int .i64 (m.length : Int)
          rw [← this]; rfl
        | some e =>
          obtain rfl := rowT_eq hrv
          obtain ⟨E2, L2, r, es, clk, hl, rl, r1, r2, r3, r4, r5, r6⟩ := take_mpR hs hM
          obtain ⟨r', r7, hv⟩ := hc
          rw [r4] at r7
          injection r7 with r7
          injection r7 with r7
          subst r7
          refine does_pure hs (run_lenMap hu hv (wd_blk 0 (wd_mapOpen r6) rfl)) ?_
          obtain ⟨l1, l2, l3⟩ := rowm_len r5
          have : es.toList.length = List.length (α := den B.T k × List (den B.T e)) m := by omega
          show Value.int .i64 (es.size : Int) = Value.int .i64 ((List.length (α := den B.T k × List (den B.T e)) m : Nat) : Int)
          rw [← this]; rfl
  case append =>
    simp only [opProg] at h
    split at h <;> try exact h.elim
    rename_i x y t t' e1 e2
    obtain rfl := ha _ e1
    obtain rfl := ht _ e2
    cases hq : Nat.beq t t' with
    | true =>
      rw [hq] at h
      have := Nat.eq_of_beq_eq_true hq
      subst this
      obtain ⟨cx, rs1, hx, h2⟩ := opd1_ran hs h
      obtain ⟨cy, rs2, hy, h3⟩ := opd1_ran hs h2
      exact app_does htt hs hb hx hy h3
    | false =>
      rw [hq] at h
      obtain ⟨cx, rs1, hx, h2⟩ := opd1_ran hs h
      obtain ⟨cy, rs2, hy, h3⟩ := opd1_ran hs h2
      clear h h2
      unfold appZ at h3
      obtain ⟨hI, h4⟩ := chk_ran h3
      obtain ⟨kn, hkn⟩ := isI_ok htt hI
      obtain ⟨⟨te, e⟩, h1, h5⟩ := opt_ran h4
      obtain ⟨z, hz, h6⟩ := opt_ran h5
      obtain ⟨⟨k, n⟩, h7, h8⟩ := opt_ran h6
      cases cx <;> try exact h8.elim
      obtain ⟨hk, h9⟩ := chk_ran h8
      simp only [Bool.and_eq_true, decide_eq_true_eq, Nat.blt_eq] at hk
      obtain ⟨rfl, hpos⟩ := hk
      obtain ⟨xs, hxs, h10⟩ := bind_ran h9
      obtain rfl := ret_ran h10
      obtain ⟨et, fe⟩ := elTy_ok htt h1
      obtain ⟨zv, z1, z2, z3⟩ := fe.zero
      have hzr : (relB B e).p f zv.cells.toList z := dataOf_ok (σ := σ) hz (celsAre_rel z2).1
      have el := asI_rel h7 hy
      refine new_arr hs hb (fun h => by omega) fun L hw => ?_
      obtain ⟨w', v, k1, A, n, c', cur, rfl, k2, k3⟩ := run_arrAppZ fe.elem hkn fe.size hpos fe.bytes z1 hzr hx el hxs hw
      exact ⟨w', _, k1, A, n, c', cur, rfl, k2, fun h => by omega, k3⟩
  case copy =>
    simp only [opProg] at h
    split at h <;> try exact h.elim
    rename_i x y t t' e1 e2
    obtain rfl := ha _ e1
    obtain rfl := ht _ e2
    obtain ⟨hq, h1⟩ := chk_ran h
    have := Nat.eq_of_beq_eq_true hq
    subst this
    obtain ⟨cx, rs1, hx, h2⟩ := opd1_ran hs h1
    obtain ⟨cy, rs2, hy, h3⟩ := opd1_ran hs h2
    exact copy_does htt hs hb hx hy h3
  case max =>
    simp only [opProg] at h
    obtain ⟨ps, rs1, hp, h1⟩ := opdI_ran hs h
    clear h
    split at h1 <;> try exact h1.elim
    · rename_i k a k' b
      obtain ⟨hq, h2⟩ := chk_ran h1
      simp only [Bool.and_eq_true, decide_eq_true_eq] at hq
      obtain ⟨rfl, hq⟩ := hq
      have hq := Nat.eq_of_beq_eq_true hq
      obtain rfl := ret_ran h2
      obtain ⟨x, y, hl, h3, h4⟩ := map2 hp.symm
      obtain rfl := ha _ hl
      obtain ⟨t, u, hl2⟩ := len2 (l := ats.toList) (by simpa using hq)
      obtain rfl := ht _ hl2
      exact does_pure hs (run_max h3 h4) rfl
    · rename_i k a k' b k'' d
      obtain ⟨hq, h2⟩ := chk_ran h1
      simp only [Bool.and_eq_true, decide_eq_true_eq] at hq
      obtain ⟨⟨rfl, rfl⟩, hq⟩ := hq
      have hq := Nat.eq_of_beq_eq_true hq
      obtain rfl := ret_ran h2
      obtain ⟨x, y, z, hl, h3, h4, h5⟩ := map3 hp.symm
      obtain rfl := ha _ hl
      obtain ⟨t, u, v, hl2⟩ := len3 (l := ats.toList) (by simpa using hq)
      obtain rfl := ht _ hl2
      exact does_pure hs (run_max3 h3 h4 h5) rfl
    · rename_i k a k' b k'' d k3 g
      obtain ⟨hq, h2⟩ := chk_ran h1
      simp only [Bool.and_eq_true, decide_eq_true_eq] at hq
      obtain ⟨⟨⟨rfl, rfl⟩, rfl⟩, hq⟩ := hq
      have hq := Nat.eq_of_beq_eq_true hq
      obtain rfl := ret_ran h2
      obtain ⟨x, y, z, w, hl, h3, h4, h5, h6⟩ := map4 hp.symm
      obtain rfl := ha _ hl
      obtain ⟨t, u, v, v', hl2⟩ := len4 (l := ats.toList) (by simpa using hq)
      obtain rfl := ht _ hl2
      exact does_pure hs (run_max4 h3 h4 h5 h6) rfl
  case min =>
    simp only [opProg] at h
    obtain ⟨ps, rs1, hp, h1⟩ := opdI_ran hs h
    clear h
    split at h1 <;> try exact h1.elim
    · rename_i k a k' b
      obtain ⟨hq, h2⟩ := chk_ran h1
      simp only [Bool.and_eq_true, decide_eq_true_eq] at hq
      obtain ⟨rfl, hq⟩ := hq
      have hq := Nat.eq_of_beq_eq_true hq
      obtain rfl := ret_ran h2
      obtain ⟨x, y, hl, h3, h4⟩ := map2 hp.symm
      obtain rfl := ha _ hl
      obtain ⟨t, u, hl2⟩ := len2 (l := ats.toList) (by simpa using hq)
      obtain rfl := ht _ hl2
      exact does_pure hs (run_min h3 h4) rfl
    · rename_i k a k' b k'' d
      obtain ⟨hq, h2⟩ := chk_ran h1
      simp only [Bool.and_eq_true, decide_eq_true_eq] at hq
      obtain ⟨⟨rfl, rfl⟩, hq⟩ := hq
      have hq := Nat.eq_of_beq_eq_true hq
      obtain rfl := ret_ran h2
      obtain ⟨x, y, z, hl, h3, h4, h5⟩ := map3 hp.symm
      obtain rfl := ha _ hl
      obtain ⟨t, u, v, hl2⟩ := len3 (l := ats.toList) (by simpa using hq)
      obtain rfl := ht _ hl2
      exact does_pure hs (run_min3 h3 h4 h5) rfl
    · rename_i k a k' b k'' d k3 g
      obtain ⟨hq, h2⟩ := chk_ran h1
      simp only [Bool.and_eq_true, decide_eq_true_eq] at hq
      obtain ⟨⟨⟨rfl, rfl⟩, rfl⟩, hq⟩ := hq
      have hq := Nat.eq_of_beq_eq_true hq
      obtain rfl := ret_ran h2
      obtain ⟨x, y, z, w, hl, h3, h4, h5, h6⟩ := map4 hp.symm
      obtain rfl := ha _ hl
      obtain ⟨t, u, v, v', hl2⟩ := len4 (l := ats.toList) (by simpa using hq)
      obtain rfl := ht _ hl2
      exact does_pure hs (run_min4 h3 h4 h5 h6) rfl
theorem opProg_does (htt : ttOk P tt = true) (hs : SimF G L0 f0 σ0 M E N f σ ρ w) (hb : ∀ j, base ≤ j → j < base + stepV → ¬ N j) {op : Op} (h : (opProg tt base op).Ran M out rs) :
    Does P ⟨dst, op, ty, pos, after, guard⟩ ρ w (Goal G L0 f0 σ0 M E N base f σ ρ out) := by
  cases op
  case move x =>
    obtain ⟨d, rs1, hd, h1⟩ := opdRaw_ran hs h
    obtain rfl := ret_ran h1
    exact does_pure hs (run_pev rfl) hd
  case assign x =>
    obtain ⟨d, rs1, hd, h1⟩ := opdRaw_ran hs h
    obtain rfl := ret_ran h1
    exact does_pure hs (run_pev rfl) hd
  case pick c a b =>
    obtain ⟨cc, rs1, hc, h1⟩ := opd1_ran hs h
    clear h
    cases cc <;> try exact h1.elim
    rename_i t
    have hcv : ev ρ c = .bool t := hc
    obtain ⟨da, rs2, hda, h2⟩ := opd_ran hs h1
    obtain ⟨db, rs3, hdb, h3⟩ := opd_ran hs h2
    clear h1 h2
    have other : (RM.ite t (valD da) (valD db) : RM B (Out B)).Ran M out rs3 → Does P ⟨dst, .pick c a b, ty, pos, after, guard⟩ ρ w (Goal G L0 f0 σ0 M E N base f σ ρ out) := by
      intro h
      cases t with
      | true =>
        obtain rfl := ret_ran (show (RM.ret _ : RM B (Out B)).Ran M out rs3 from h)
        exact does_pure hs (run_pick_t hcv rfl rfl) hda
      | false =>
        obtain rfl := ret_ran (show (RM.ret _ : RM B (Out B)).Ran M out rs3 from h)
        exact does_pure hs (run_pick_f hcv rfl rfl) hdb
    split at h3
    · rename_i x y
      obtain rfl := ret_ran h3
      have e1 : ev ρ a = .bool x := hda
      have e2 : ev ρ b = .bool y := hdb
      refine does_pure hs (run_pev (v := .bool (cond t x y)) ?_) rfl
      simp only [pev, hcv, e1, e2]
      cases t <;> rfl
    · exact other h3
  case binOp op t x y u =>
    obtain ⟨dx, rs1, hx, h1⟩ := opd_ran hs h
    obtain ⟨dy, rs2, hy, h2⟩ := opd_ran hs h1
    clear h h1
    split at h2
    · exact binC_does htt hs hx hy h2
    · exact binS_does htt hs hx hy h2
    · exact h2.elim
  case unOp op t x =>
    obtain ⟨cx, rs1, hx, h1⟩ := opd1_ran hs h
    clear h
    split at h1 <;> try exact h1.elim
    · rename_i b
      obtain rfl := ret_ran h1
      have e1 : ev ρ x = .bool b := hx
      exact does_pure hs (run_pev (v := .bool (!b)) (by simp only [pev, e1])) rfl
    · obtain ⟨⟨k, a⟩, e1, h2⟩ := opt_ran h1
      obtain rfl := ret_ran h2
      have e1 := asI_rel e1 hx
      exact does_pure hs (run_pev (v := .int k (k.wrap (0 - a))) (by simp only [pev, e1])) rfl
  case convert s d x =>
    obtain ⟨cx, rs1, hx, h1⟩ := opd1_ran hs h
    by_cases hstr : ∃ u, cx = .str u
    · obtain ⟨u, rfl⟩ := hstr
      exact strBytes_does htt hs hx h1
    replace h1 : (RM.opt (asI cx) fun (k, a) => match tfind tt s, tfind tt d with
      | some ts, some td => match ts.td, td.td with
        | .int k1, .int k2 => RM.chk (decide (k1 = k)) (vals (.int k2 (k2.wrap a)))
        | _, _ => .fail
      | _, _ => .fail : RM B (Out B)).Ran M out rs1 := by cases cx <;> first | exact h1 | exact absurd ⟨_, rfl⟩ hstr
    obtain ⟨⟨k, a⟩, e1, h2⟩ := opt_ran h1
    clear h h1
    have e1 := asI_rel e1 hx
    dsimp only at h2
    split at h2 <;> try exact h2.elim
    rename_i ts td e2 e3
    split at h2 <;> try exact h2.elim
    rename_i k1 k2 e4 e5
    obtain ⟨hk, h3⟩ := chk_ran h2
    have hk := of_decide_eq_true hk
    subst hk
    obtain rfl := ret_ran h3
    obtain ⟨q1, rfl⟩ := tfind_ok htt e2
    obtain ⟨q2, rfl⟩ := tfind_ok htt e3
    have u1 := (tiOk_facts q1).td
    have u2 := (tiOk_facts q2).td
    rw [e4] at u1
    rw [e5] at u2
    simp only [tdOk] at u1 u2
    split at u1 <;> try contradiction
    rename_i kA r1
    split at u2 <;> try contradiction
    rename_i kB r2
    simp only [decide_eq_true_eq] at u1 u2
    subst u1 u2
    exact does_pure hs (run_convII r1 r2 e1) rfl
  case extract x i =>
    obtain ⟨d, rs1, hd, h1⟩ := opd_ran hs h
    clear h
    cases d <;> try exact h1.elim
    rename_i l
    obtain ⟨vs, hv, hT⟩ := hd
    dsimp only at h1
    split at h1 <;> try exact h1.elim
    · rename_i c e1
      obtain rfl := ret_ran h1
      obtain ⟨v, us, r1, r2, r3, r4⟩ := extract_rel hT e1
      have : us.length = 1 := r4 rfl
      match us, r2, this with
      | [u], r2, _ =>
        have r3' : v = u := r3
        subst r3'
        exact does_pure hs (run_pev (by simp only [pev, hv, List.getElem?_toArray]; exact r1)) r2.1
    · rename_i cs e1
      obtain rfl := ret_ran h1
      obtain ⟨v, us, r1, r2, r3, r4⟩ := extract_rel hT e1
      exact does_pure hs (run_pev (by simp only [pev, hv, List.getElem?_toArray]; exact r1)) ⟨us, r3, r2⟩
  case nilCheck x =>
    obtain ⟨cx, rs1, hx, h1⟩ := opd1_ran hs h
    clear h
    have run : ∀ a, ev ρ x = .pointer (some a) → (execOp (ev ρ) ⟨dst, .nilCheck x, ty, pos, after, guard⟩).run P w = .ok (.value (.pointer (some a))) w := fun a ha => run_pev (by simp only [pev, ha])
    cases cx <;> try exact h1.elim
    case opt e y =>
      obtain ⟨z, hz, h2⟩ := bind_ran h1
      obtain rfl := ret_ran h2
      obtain ⟨b, ds, bt, fr, e1, q1, q2⟩ := fOpt_some hx hz
      exact does_pure hs (run _ e1) ⟨b, ds, bt, fr, rfl, q1, q2⟩
    case ap e y =>
      obtain ⟨z, hz, h2⟩ := bind_ran h1
      obtain rfl := ret_ran h2
      subst hz
      obtain ⟨b, o, e1, q1⟩ := hx
      simp only [List.cons.injEq, and_true] at e1
      exact does_pure hs (run _ e1) ⟨b, o, rfl, Int.le_refl _, q1⟩
    case pf e xs off =>
      obtain rfl := ret_ran h1
      obtain ⟨b, o, hv, q1, q2⟩ := hx
      exact does_pure hs (run _ hv) ⟨b, o, rfl, q1, q2⟩
    case pa i off =>
      obtain rfl := ret_ran h1
      obtain ⟨b, o, nn, c, q1, hv, q2⟩ := hx
      exact does_pure hs (run _ hv) ⟨b, o, nn, c, q1, rfl, q2⟩
    case ptr i a =>
      obtain rfl := ret_ran h1
      obtain ⟨b, q1, hv⟩ := hx
      exact does_pure hs (run _ hv) ⟨b, q1, rfl⟩
    case fpt e y =>
      obtain rfl := ret_ran h1
      obtain ⟨b, ds, bt, fr, hv, q1, q2⟩ := hx
      exact does_pure hs (run _ hv) ⟨b, ds, bt, fr, rfl, q1, q2⟩
    case fel e y a =>
      obtain rfl := ret_ran h1
      obtain ⟨b, oo, ds, hv, q1, q2⟩ := hx
      exact does_pure hs (run _ hv) ⟨b, oo, ds, rfl, q1, q2⟩
    case oel a e m y oo s =>
      obtain rfl := ret_ran h1
      obtain ⟨b, o1, n1, c1, xs, q1, hv, q2, q3⟩ := hx
      exact does_pure hs (run _ hv) ⟨b, o1, n1, c1, xs, q1, rfl, q2, q3⟩
    case gop g e m =>
      obtain rfl := ret_ran h1
      obtain ⟨b, o1, n1, c1, q1, hv⟩ := hx
      exact does_pure hs (run _ hv) ⟨b, o1, n1, c1, q1, rfl⟩
    case gel g e m j y oo s hh =>
      obtain rfl := ret_ran h1
      obtain ⟨q0, l, b, o1, n1, c1, rows, row, q1, q2, hv, q3⟩ := hx
      exact does_pure hs (run _ hv) ⟨q0, l, b, o1, n1, c1, rows, row, q1, q2, rfl, q3⟩
  case fieldAddr t x i => exact field_does htt hs h
  case load t x => exact load_does htt hs h
  case store t a x => exact store_does htt hs hb h
  case alloc t => exact alloc_does htt hs hb h
  case box t x => exact box_does hs hb h
  case build t parts => exact build_does htt hs h
  case buildSlice t n parts => exact buildSlice_does htt hs hb h
  case makeSlice t l c => exact make_does htt hs hb h
  case indexAddr t x ix => exact idx_does htt hs h
  case makeFunc fn first cap => exact func_does hs hb h
  case index t x ix => exact index_does htt hs h
  case lookup t x ix ok => exact lookup_does htt hs hb h
  case mapUpdate t m k v => exact update_does htt hs h
  case insert t m k v => exact insert_does htt hs h
  case makeMap t r =>
    cases r with
    | some r => exact h.elim
    | none =>
      obtain ⟨⟨te, k, v⟩, _, h1⟩ := opt_ran h
      obtain rfl := ret_ran h1
      exact makeMap_does hs hb
  case slice t x lo hi mx =>
    cases mx with
    | none =>
      obtain ⟨cx, rs1, hx, h1⟩ := opd1_ran hs (show (opd1 x fun c => match c with | .str s => strCut tt t s lo hi | .pa i off => RM.chk (isZ off) (cutP tt base t i lo hi) | c => cutR tt base t c lo hi : RM B (Out B)).Ran M out rs by cases lo <;> cases hi <;> exact h)
      by_cases hstr : ∃ s, cx = .str s
      · obtain ⟨s, rfl⟩ := hstr
        exact strCut_does htt hs hx h1
      · by_cases hpa : ∃ i off, cx = .pa i off
        · obtain ⟨i, off, rfl⟩ := hpa
          obtain ⟨hz, h2⟩ := chk_ran h1
          exact cutP_does htt hs hb hx hz h2
        · exact cut_does htt hs hb hx (by cases cx <;> first | exact h1 | exact absurd ⟨_, rfl⟩ hstr | exact absurd ⟨_, _, rfl⟩ hpa)
    | some mx =>
      cases lo with
      | none =>
        cases hi with
        | none => exact h.elim
        | some hi => exact cut3_does htt hs hb h
      | some lo =>
        cases hi with
        | none => exact h.elim
        | some hi => exact cut0_does htt hs hb h
  case call c =>
    obtain ⟨cal, args, ats⟩ := c
    cases cal <;> try exact h.elim
    exact call_builtin_does htt hs hb h
  all_goals exact h.elim
end
end Hd
set_option linter.unusedVariables false
set_option linter.unusedSimpArgs false
namespace Hd
open Go Hk
section
variable {B : Tab} {P : Program} {M : Loc → Option (Con B)} {G w : World} {L0 : List HProp} {f0 f f' : HP} {σ0 σ σ' : Rz B} {E : List (Nat × EH)} {N : Nat → Prop} {ρ : Env}
variable {base lim n0 : Nat} {rs : List Loc} {ρr : Type} {o : ρr}
def NO (N : Nat → Prop) (base : Nat) (ov : Ov B) : Nat → Prop := fun j => N j ∨ (base ≤ j ∧ j < ov.nx)
def ren (n0 : Nat) (σ : Rz B) (mu : List (Nat × Nat)) : Rz B := fun e => if e < n0 then σ e else match assoc mu e with | some j => σ j | none => none
def isMph : Con B → Prop
  | .mph _ _ _ _ _ => True
  | _ => False
structure Ext (M : Loc → Option (Con B)) (ov : Ov B) (f : HP) (σ : Rz B) (ov' : Ov B) (f' : HP) (σ' : Rz B) : Prop where
  le : HP.le f f'
  sub : Rz.le σ σ'
  mu : ∀ e j, assoc ov.mu e = some j → assoc ov'.mu e = some j
  nx : ov.nx ≤ ov'.nx
  del : ∀ i, i ∈ ov.del → i ∈ ov'.del
  keep : ∀ l c, ovl ov.up M l = some c → ovl ov'.up M l = some c ∨ (∃ i, i ∈ ov'.del ∧ (l = .a i ∨ l = .b i)) ∨ (∃ i, σ i = none ∧ l = .a i) ∨ isMph c
  fzk : ∀ i e xs nn, ovl ov.up M (.a i) = some (.fz e xs nn) → ovl ov'.up M (.a i) = some (.fz e xs nn)
theorem Ext.refl (ov : Ov B) (f : HP) (σ : Rz B) : Ext M ov f σ ov f σ := ⟨HP.le_refl _, Rz.le_refl _, fun _ _ h => h, Nat.le_refl _, fun _ h => h, fun _ _ h => .inl h, fun _ _ _ _ h => h⟩
theorem Ext.trans {ov1 ov2 ov3 : Ov B} {f1 f2 f3 : HP} {σ1 σ2 σ3 : Rz B} (a : Ext M ov1 f1 σ1 ov2 f2 σ2) (b : Ext M ov2 f2 σ2 ov3 f3 σ3) : Ext M ov1 f1 σ1 ov3 f3 σ3 :=
  ⟨HP.le_trans a.le b.le, Rz.le_trans a.sub b.sub, fun e j h => b.mu e j (a.mu e j h), Nat.le_trans a.nx b.nx, fun i h => b.del i (a.del i h),
   fun l c h => by
     rcases a.keep l c h with h | ⟨i, h1, h2⟩ | h | h
     · rcases b.keep l c h with h | h | ⟨i, h1, h2⟩ | h
       · exact .inl h
       · exact .inr (.inl h)
       · refine .inr (.inr (.inl ⟨i, ?_, h2⟩))
         cases hi : σ1 i with
         | none => rfl
         | some r => rw [a.sub i r hi] at h1; cases h1
       · exact .inr (.inr (.inr h))
     · exact .inr (.inl ⟨i, b.del i h1, h2⟩)
     · exact .inr (.inr (.inl h))
     · exact .inr (.inr (.inr h)), fun i e xs nn h => b.fzk i e xs nn (a.fzk i e xs nn h)⟩
theorem ren_le {mu mu' : List (Nat × Nat)} (hs : Rz.le σ σ') (hm : ∀ e j, assoc mu e = some j → assoc mu' e = some j) : Rz.le (ren n0 σ mu) (ren n0 σ' mu') := by
  intro e r h
  unfold ren at *
  split
  · rename_i hlt; rw [if_pos hlt] at h; exact hs _ _ h
  · rename_i hlt
    rw [if_neg hlt] at h
    cases ha : assoc mu e with
    | none => rw [ha] at h; cases h
    | some j => rw [ha] at h; rw [hm e j ha]; exact hs _ _ h
structure Stage (G : World) (L0 : List HProp) (f0 : HP) (σ0 : Rz B) (M : Loc → Option (Con B)) (E : List (Nat × EH)) (N : Nat → Prop) (base : Nat) (f : HP) (σ : Rz B) (ρ : Env) (w : World) (ov : Ov B) : Prop where
  sim : SimO G L0 f0 σ0 M E (NO N base ov) f σ ρ w ov
  inj : ∀ e e' j, assoc ov.mu e = some j → assoc ov.mu e' = some j → e = e'
  ge : base ≤ ov.nx
  dlt : ∀ i, i ∈ ov.del → σ i ≠ none
  rng : ∀ e j, assoc ov.mu e = some j → σ j ≠ none
theorem FzS.ext {ov ov' : Ov B} (h : FzS M σ ov ov') (hl : HP.le f f') (h2 : ov'.nx = ov.nx) (h3 : ov'.mu = ov.mu) : Ext M ov f σ ov' f' σ :=
  ⟨hl, Rz.le_refl _, fun e j hj => by rw [h3]; exact hj, by omega, h.del, fun l c hl => (h.keep l c hl).imp id fun ⟨i, h1, h2⟩ => .inl ⟨i, h1, .inl h2⟩, h.fzk⟩
theorem Stage.fz {ov ov' : Ov B} (hs : Stage G L0 f0 σ0 M E N base f σ ρ w ov) (h : SimO G L0 f0 σ0 M E (NO N base ov) f' σ ρ w ov') (h2 : ov'.nx = ov.nx) (h3 : ov'.mu = ov.mu) (hd : ∀ j, j ∈ ov'.del → j ∈ ov.del ∨ σ j ≠ none) : Stage G L0 f0 σ0 M E N base f' σ ρ w ov' :=
  ⟨by unfold NO at h ⊢; rw [h2]; exact h, by rw [h3]; exact hs.inj, by rw [h2]; exact hs.ge, fun i hi => (hd i hi).elim (hs.dlt i) id, by rw [h3]; exact hs.rng⟩
theorem frzA_stage {ov : Ov B} (hs : Stage G L0 f0 σ0 M E N base f σ ρ w ov) {i : Nat} {k : (e : Ty) → List (den B.T e) → Nat → Ov B → RM B ρr} (h : (frzA ov i k).Ran M o rs) :
    ∃ e xs nn ov' f' rs', Stage G L0 f0 σ0 M E N base f' σ ρ w ov' ∧ Ext M ov f σ ov' f' σ ∧ (k e xs nn ov').Ran M o rs' ∧ ovl ov'.up M (.a i) = some (.fz e xs nn) ∧ ∃ A n c, σ i = some (.hdr A n c) ∧ SlF f' (relB B e) A n c xs ∧ (1 ≤ nn → A.isSome = true) := by
  obtain ⟨e, xs, nn, ov', f', rs', h1, h2, h3, h4, h5, h6, h7, h8⟩ := frzA_ran hs.sim h
  exact ⟨e, xs, nn, ov', f', rs', hs.fz h2 h4 h5 h7.1.dl, h7.1.ext h1 h4 h5, h6, h7.2, h8⟩
theorem dataC_stage {ov : Ov B} (hs : Stage G L0 f0 σ0 M E N base f σ ρ w ov) {cs : List (Cel B)} {k : List (Cel B) → Ov B → RM B ρr} {vs : List Value} (hc : CRels f σ cs vs) (h : (dataC ov cs k).Ran M o rs) :
    ∃ cs' ov' f' rs', Stage G L0 f0 σ0 M E N base f' σ ρ w ov' ∧ Ext M ov f σ ov' f' σ ∧ CRels f' σ cs' vs ∧ FzS M σ ov ov' ∧ (k cs' ov').Ran M o rs' := by
  obtain ⟨cs', ov', f', rs', h1, h2, h3, h4, h5, h6, h7, h8⟩ := dataC_ran hs.sim hc h
  exact ⟨cs', ov', f', rs', hs.fz h2 h4 h5 h7.dl, h7.ext h1 h4 h5, h6, h7, h8⟩
theorem assoc_range : ∀ {mu : List (Nat × Nat)} {e j : Nat}, assoc mu e = some j → inRange mu j = true
  | [], _, _, h => by cases h
  | (a, b) :: r, e, j, h => by
    simp only [assoc] at h
    simp only [inRange]
    cases ha : Nat.beq a e with
    | true =>
      rw [ha] at h
      simp only [cond_true, Option.some.injEq] at h
      subst h
      simp
    | false =>
      rw [ha] at h
      simp only [cond_false] at h
      rw [assoc_range h]
      cases Nat.beq b j <;> rfl
theorem role_stage {ov : Ov B} (hs : Stage G L0 f0 σ0 M E N base f σ ρ w ov) {e i : Nat} {k : Ov B → RM B ρr} (hσ : σ i ≠ none) (h : (role n0 ov e i k).Ran M o rs) :
    ∃ ov', Stage G L0 f0 σ0 M E N base f σ ρ w ov' ∧ Ext M ov f σ ov' f σ ∧ (k ov').Ran M o rs ∧ ov'.up = ov.up ∧ (e < n0 ∧ e = i ∨ n0 ≤ e ∧ assoc ov'.mu e = some i) := by
  unfold role at h
  cases hlt : Nat.blt e n0 with
  | true =>
    rw [hlt] at h
    obtain ⟨h1, h2⟩ := chk_ran h
    rw [Nat.blt_eq] at hlt
    exact ⟨ov, hs, Ext.refl _ _ _, h2, rfl, .inl ⟨hlt, Nat.eq_of_beq_eq_true h1⟩⟩
  | false =>
    rw [hlt] at h
    have hge : n0 ≤ e := by
      rcases Nat.lt_or_ge e n0 with h' | h'
      · rw [← Nat.blt_eq, hlt] at h'; cases h'
      · exact h'
    cases ha : assoc ov.mu e with
    | some j =>
      rw [ha] at h
      obtain ⟨h1, h2⟩ := chk_ran h
      have := Nat.eq_of_beq_eq_true h1
      subst this
      exact ⟨ov, hs, Ext.refl _ _ _, h2, rfl, .inr ⟨hge, ha⟩⟩
    | none =>
      rw [ha] at h
      cases hr : inRange ov.mu i with
      | true => rw [hr] at h; exact h.elim
      | false =>
        rw [hr] at h
        have hself : assoc ((e, i) :: ov.mu) e = some i := by simp [assoc]
        have hother : ∀ e', e' ≠ e → assoc ((e, i) :: ov.mu) e' = assoc ov.mu e' := fun e' hne => by
          have : Nat.beq e e' = false := by
            cases hb : Nat.beq e e' with
            | false => rfl
            | true => exact absurd (Nat.eq_of_beq_eq_true hb).symm hne
          simp [assoc, this]
        refine ⟨{ ov with mu := (e, i) :: ov.mu }, ⟨hs.sim, fun a b j h1 h2 => ?_, hs.ge, hs.dlt, fun a j h1 => ?_⟩, ⟨HP.le_refl _, Rz.le_refl _, fun e' j hj => ?_, Nat.le_refl _, fun _ h => h, fun _ _ h => .inl h, fun _ _ _ _ h => h⟩, h, rfl, .inr ⟨hge, hself⟩⟩
        · by_cases ea : a = e <;> by_cases eb : b = e
          · rw [ea, eb]
          · subst ea
            rw [hself] at h1
            rw [hother b eb] at h2
            injection h1 with h1
            subst h1
            rw [assoc_range h2] at hr; cases hr
          · subst eb
            rw [hself] at h2
            rw [hother a ea] at h1
            injection h2 with h2
            subst h2
            rw [assoc_range h1] at hr; cases hr
          · rw [hother a ea] at h1
            rw [hother b eb] at h2
            exact hs.inj a b j h1 h2
        · by_cases ea : a = e
          · subst ea; rw [hself] at h1; injection h1 with h1; subst h1; exact hσ
          · rw [hother a ea] at h1; exact hs.rng a j h1
        · by_cases ee : e' = e
          · subst ee; rw [ha] at hj; cases hj
          · show assoc ((e, i) :: ov.mu) e' = some j
            rw [hother e' ee]; exact hj
theorem ren_role {ov' ov'' : Ov B} {σ'' : Rz B} {e i : Nat} {r : Real B} (h : e < n0 ∧ e = i ∨ n0 ≤ e ∧ assoc ov'.mu e = some i) (hx : ∀ e j, assoc ov'.mu e = some j → assoc ov''.mu e = some j) (hs : σ'' i = some r) : ren n0 σ'' ov''.mu e = some r := by
  unfold ren
  rcases h with ⟨h1, rfl⟩ | ⟨h1, h2⟩
  · rw [if_pos h1]; exact hs
  · rw [if_neg (by omega), hx e i h2]; exact hs
theorem closeM_stage {ov : Ov B} (hs : Stage G L0 f0 σ0 M E N base f σ ρ w ov) {i j s nn : Nat} {k e : Ty} {m : List (den B.T k × List (den B.T e))} {key : den B.T k} {ys : List (den B.T e)}
    (hM : ovl ov.up M (.a i) = some (.mph k e m key (some j))) (hMj : ovl ov.up M (.a j) = some (.arr e ys s nn)) (hne : j ≠ i) :
    Stage G L0 f0 σ0 M E N base f σ ρ w { ov with up := (.a i, .mp k (.sl e) (mset (keqD B k) key ys m)) :: (.a j, .gone) :: ov.up, del := j :: ov.del } ∧
    Ext M ov f σ { ov with up := (.a i, .mp k (.sl e) (mset (keqD B k) key ys m)) :: (.a j, .gone) :: ov.up, del := j :: ov.del } f σ ∧
    ovl ((.a i, .mp k (.sl e) (mset (keqD B k) key ys m)) :: (.a j, .gone) :: ov.up) M (.a i) = some (.mp k (.sl e) (mset (keqD B k) key ys m)) ∧ σ i ≠ none := by
  have hiE := hs.sim.mphs _ _ _ _ _ _ hM
  have hjE := hs.sim.arrs _ _ _ _ _ hMj
  obtain ⟨E2, L2, r, es, clk, hl, rl, k1, k2, k3, k4, k5, k6⟩ := take_mph hs.sim hM
  have hj2 : (j, EH.arr e) ∈ E2 := (k2 _).2 ⟨hjE, by simpa using hne⟩
  obtain ⟨A, L3, hr, he3, hw3⟩ := Ents.take (P := [MapH r (.map es clk) hl rl]) k1 hj2 k3 (by simpa using k6)
  obtain ⟨H, n, c, cur, xs, s', nn', a1, rfl, a3, a4, a5, a6, a7⟩ := hr
  rw [hMj] at a3
  injection a3 with a3
  injection a3 with b1 b2 b3 b4
  subst b2 b3 b4
  obtain ⟨n', c1, c2, c3, c4⟩ := rowm_close a1 a5 k5
  have hset : hl.set n' (H, n, c) = hl := by
    apply List.ext_getElem?
    intro q
    by_cases hq : n' = q
    · subst hq; rw [List.getElem?_set_self c1, c2]
    · rw [List.getElem?_set_ne hq]
  have hw3 : Wd G w f (Arr H c cur :: MapH r (.map es clk) hl rl :: (L3 ++ L0)) := by simpa using hw3
  have w1 : Wd G w f (Blk r (.map es clk) :: RowsH hl rl :: Arr H c cur :: (L3 ++ L0)) := wd_mapOpen (wd_swap hw3)
  have w2 : Wd G w f (Arr H c cur :: Blk r (.map es clk) :: RowsH hl rl :: (L3 ++ L0)) := w1.front 2 rfl
  have w3 : Wd G w f (RowsH hl rl :: Arr H c cur :: Blk r (.map es clk) :: (L3 ++ L0)) := w2.front 2 rfl
  have w4 := wd_rowsPut (hd := (H, n, c)) c1 c3 (wd_swap w3)
  rw [hset] at w4
  have w5 := wd_mapShut (wd_swap w4)
  have hup : ∀ l q, look [(Loc.a i, Con.mp k (.sl e) (mset (keqD B k) key ys m)), (Loc.a j, Con.gone)] l = some q → (l = .a i ∧ q = .mp k (.sl e) (mset (keqD B k) key ys m)) ∨ (l = .a j ∧ q = .gone) := fun l q hl => by
    by_cases hli : Loc.a i = l
    · subst hli; rw [look_cons_self] at hl; injection hl with hl; exact .inl ⟨rfl, hl.symm⟩
    · rw [look_cons_ne hli] at hl
      by_cases hlj : Loc.a j = l
      · subst hlj; rw [look_cons_self] at hl; injection hl with hl; exact .inr ⟨rfl, hl.symm⟩
      · rw [look_cons_ne hlj] at hl; cases hl
  have hnl : ∀ l, l ≠ .a i → l ≠ .a j → look [(Loc.a i, Con.mp k (.sl e) (mset (keqD B k) key ys m)), (Loc.a j, Con.gone)] l = none := fun l h1 h2 => by
    rw [look_cons_ne (Ne.symm h1), look_cons_ne (Ne.symm h2)]; rfl
  have hmem : ∀ x, x ∈ delsE (ov.add ++ E) (j :: ov.del) ↔ x ∈ delsE (ov.add ++ E) ov.del ∧ x.1 ≠ j := fun x => by
    simp only [mem_delsE, List.mem_cons, not_or]
    constructor
    · rintro ⟨a, b, c⟩; exact ⟨⟨a, c⟩, b⟩
    · rintro ⟨⟨a, c⟩, b⟩; exact ⟨a, b, c⟩
  have e0 : ((Loc.a i, Con.mp k (.sl e) (mset (keqD B k) key ys m)) :: (Loc.a j, Con.gone) :: ov.up) = [(Loc.a i, Con.mp k (.sl e) (mset (keqD B k) key ys m)), (Loc.a j, Con.gone)] ++ ov.up := rfl
  have hσi : σ i ≠ none := by rw [k4]; simp
  refine ⟨⟨?_, hs.inj, hs.ge, fun q hq => (List.mem_cons.1 hq).elim (fun e => by rw [e, a1]; simp) (hs.dlt q), hs.rng⟩, ⟨HP.le_refl _, Rz.le_refl _, fun _ _ h => h, Nat.le_refl _, fun q h => List.mem_cons_of_mem _ h, fun l c' hl' => ?_, fun q e' xs' nn' h => ?_⟩, ovl_some (look_cons_self _ _ _), hσi⟩
  · show SimF _ _ _ _ (ovl ((Loc.a i, Con.mp k (.sl e) (mset (keqD B k) key ys m)) :: (Loc.a j, Con.gone) :: ov.up) M) (delsE (ov.add ++ E) (j :: ov.del)) (NO N base ov) f σ ρ w
    rw [e0, ovl_app]
    refine hs.sim.updS (HP.le_refl _) (Rz.le_refl _) hs.sim.fresh (fun l q hl => ?_) (fun q h hq => ?_) ⟨(i, .mp k (.sl e)) :: delE E2 j, MapH r (.map es clk) hl (rl.set n' (some cur)) :: L3, k1.delE.cons fun k' hk' => ?_, fun x => ?_, ⟨?_, Ents.mono (HP.le_refl _) (Rz.le_refl _) (fun q h hq => ?_) he3⟩, w5⟩
    · rcases hup l q hl with ⟨rfl, rfl⟩ | ⟨rfl, rfl⟩
      · show (i, EH.mp k (.sl e)) ∈ _
        exact (hmem _).2 ⟨hiE, fun e => hne e.symm⟩
      · trivial
    · by_cases hqj : q = j
      · subst hqj
        right
        obtain rfl := only_one hs.sim hq hjE
        rw [show keyE q (EH.arr e) = Loc.a q from rfl, look_cons_ne (by simpa using hne.symm), look_cons_self]; simp
      · exact .inl ((hmem _).2 ⟨hq, hqj⟩)
    · have := (mem_delE.1 hk').1
      have := ((k2 _).1 this).2
      simp at this
    · rw [hmem, List.mem_cons, mem_delE, k2]
      constructor
      · rintro (rfl | ⟨⟨h, _⟩, h2⟩)
        · exact ⟨hiE, fun e => hne e.symm⟩
        · exact ⟨h, h2⟩
      · rintro ⟨h, h2⟩
        by_cases hx : x.1 = i
        · left
          have := only_one hs.sim (i := i) (h := x.2) (h' := .mp k (.sl e)) (by rw [← hx]; exact h) hiE
          rw [← this, ← hx]
        · exact .inr ⟨⟨h, by simpa using hx⟩, h2⟩
    · exact .inr ⟨e, r, es, clk, hl, _, rfl, k4, rfl, .inl ⟨_, ovl_some (look_cons_self _ _ _), c4⟩⟩
    · have h1 := mem_delE.1 hq
      have hqi : q ≠ i := by have := ((k2 _).1 h1.1).2; simpa using this
      have hqj : q ≠ j := h1.2
      cases h with
      | arr e' => exact hnl _ (by simpa using hqi) (by simpa using hqj)
      | grid e' => exact hnl _ (by simpa using hqi) (by simpa using hqj)
      | mp _ _ => exact hnl _ (by simpa using hqi) (by simpa using hqj)
      | blk t m => exact ⟨hnl _ (by simp) (by simp), fun j' => hnl _ (by simp) (by simp)⟩
  · by_cases h1 : l = .a i
    · subst h1
      rw [hM] at hl'
      injection hl' with hl'
      subst hl'
      exact .inr (.inr (.inr trivial))
    · by_cases h2 : l = .a j
      · exact .inr (.inl ⟨j, by simp, .inl h2⟩)
      · left
        show ovl ((Loc.a i, Con.mp k (.sl e) (mset (keqD B k) key ys m)) :: (Loc.a j, Con.gone) :: ov.up) M l = some c'
        rw [e0, ovl_app, ovl_none (hnl l h1 h2)]
        exact hl'
  · have h1 : q ≠ i := fun e => by subst e; rw [hM] at h; cases h
    have h2 : q ≠ j := fun e => by subst e; rw [hMj] at h; cases h
    show ovl ((Loc.a i, Con.mp k (.sl e) (mset (keqD B k) key ys m)) :: (Loc.a j, Con.gone) :: ov.up) M (.a q) = _
    rw [e0, ovl_app, ovl_none (hnl _ (by simpa using h1) (by simpa using h2))]
    exact h
end
end Hd
set_option linter.unusedVariables false
set_option linter.unusedSimpArgs false
namespace Hd
open Go Hk
section
variable {B : Tab} {P : Program} {M : Loc → Option (Con B)} {G w : World} {L0 : List HProp} {f0 f f' : HP} {σ0 σ σ' : Rz B} {E : List (Nat × EH)} {N : Nat → Prop} {ρ : Env}
variable {base lim n0 : Nat} {rs : List Loc} {ρr : Type} {o : ρr}
theorem readO_ran {ov : Ov B} {i : Nat} {vals : List Value} (hv : ∀ j v, vals[j]? = some v → ∃ c, ovl ov.up M (.c i j) = some (.c c) ∧ CRel f σ c v) :
    ∀ {n a : Nat} {k : List (Cel B) → RM B ρr} {rs : List Loc}, a + n ≤ vals.length → (readO ov i a n k).Ran M o rs → ∃ cs rs', CRels f σ cs ((vals.drop a).take n) ∧ (k cs).Ran M o rs'
  | 0, a, k, rs, _, h => ⟨[], rs, by simp [CRels], h⟩
  | n + 1, a, k, rs, hn, h => by
    unfold readO at h
    obtain ⟨rs', h1⟩ := rdo_ran h
    clear h
    obtain ⟨v, hva⟩ : ∃ v, vals[a]? = some v := ⟨vals[a]'(by omega), List.getElem?_eq_getElem (by omega)⟩
    obtain ⟨c, h2, h3⟩ := hv a v hva
    rw [h2] at h1
    obtain ⟨cs, rs2, h4, h5⟩ := readO_ran hv (by omega) h1
    refine ⟨c :: cs, rs2, ?_, h5⟩
    have hlt := (List.getElem?_eq_some_iff.1 hva).1
    rw [List.drop_eq_getElem_cons hlt, List.take_succ_cons]
    have : vals[a] = v := (List.getElem?_eq_some_iff.1 hva).2
    rw [this]
    exact ⟨h3, h4⟩
theorem frzB_stage {ov : Ov B} (hs : Stage G L0 f0 σ0 M E N base f σ ρ w ov) {i : Nat} {e : Ty} {k : den B.T e → Ov B → RM B ρr} (h : (frzB ov i e k).Ran M o rs) :
    ∃ x ov' f' rs', Stage G L0 f0 σ0 M E N base f' σ ρ w ov' ∧ Ext M ov f σ ov' f' σ ∧ (k x ov').Ran M o rs' ∧ ∃ b ds t fr, σ i = some (.blk b) ∧ f' b = some (.cells (List.toArray ds) t fr) ∧ (relB B e).p f' ds x := by
  obtain ⟨rs1, h1⟩ := rdo_ran h
  clear h
  cases hM : ovl ov.up M (.b i) with
  | none => rw [hM] at h1; exact h1.elim
  | some q =>
    rw [hM] at h1
    cases q <;> try exact h1.elim
    case fzb e' x =>
      obtain ⟨y, hy, h2⟩ := opt_ran h1
      clear h1
      obtain ⟨rfl, rfl⟩ := castD_eq hy
      obtain ⟨b, ds, t, fr, k1, k2, k3⟩ := hs.sim.fzbs i e' _ hM
      exact ⟨_, ov, f, _, hs, Ext.refl _ _ _, h2, b, ds, t, fr, k1, k2, k3⟩
    case blk t n =>
      obtain ⟨E2, L2, b, vals, q1, q2, q3, q4, q5, q6, q7⟩ := take_blk hs.sim hM
      obtain ⟨cs, rs2, hc, h2⟩ := readO_ran (fun j v hv => (q6 j v hv).2) (by omega) h1
      clear h1
      rw [List.drop_zero, List.take_of_length_le (by omega)] at hc
      obtain ⟨cs', ov1, f1, rs3, s1, x1, hc1, z1, h3⟩ := dataC_stage hs hc h2
      obtain ⟨x, hx, h4⟩ := opt_ran h3
      have hp := dataOf_ok hx hc1
      have hM1 : ovl ov1.up M (.b i) = some (.blk t n) := by
        rcases z1.keep _ _ hM with h | ⟨j, _, h⟩
        · exact h
        · cases h
      obtain ⟨E3, L3, b', vals', p1, p2, p3, p4, p5, p6, p7⟩ := take_blk s1.sim hM1
      rw [q4] at p4
      injection p4 with p4
      injection p4 with p4
      subst p4
      have hvals : vals' = vals := by
        have h1 := wd_blk 0 q7 rfl
        have h2 := wd_blk 0 p7 rfl
        rw [h1] at h2
        injection h2 with h2
        injection h2 with h2 _ _
        exact (List.toArray_inj h2).symm
      subst hvals
      obtain ⟨f2, hl, hb, hw2⟩ := wd_freezeB p7
      have hup : ∀ l q, look [(Loc.b i, Con.fzb e x)] l = some q → l = .b i ∧ q = .fzb e x := fun l q hl => by
        by_cases hli : Loc.b i = l
        · subst hli; rw [look_cons_self] at hl; injection hl with hl; exact ⟨rfl, hl.symm⟩
        · rw [look_cons_ne hli] at hl; cases hl
      have hne : ∀ l, l ≠ .b i → look [(Loc.b i, Con.fzb e x)] l = none := fun l hl => by
        cases hq : look [(Loc.b i, Con.fzb e x)] l with
        | none => rfl
        | some q => exact absurd (hup l q hq).1 hl
      have hp2 := (relB B e).mono hl hp
      have hres : SimF G L0 f0 σ0 (ovl [(Loc.b i, Con.fzb e x)] (ovl ov1.up M)) (delsE (ov1.add ++ E) (i :: ov1.del)) (NO N base ov1) f2 σ ρ w := by
        have hmem : ∀ z, z ∈ delsE (ov1.add ++ E) (i :: ov1.del) ↔ z ∈ delsE (ov1.add ++ E) ov1.del ∧ z.1 ≠ i := fun z => by
          simp only [mem_delsE, List.mem_cons, not_or]
          constructor
          · rintro ⟨a, b, c⟩; exact ⟨⟨a, c⟩, b⟩
          · rintro ⟨⟨a, c⟩, b⟩; exact ⟨a, b, c⟩
        refine s1.sim.updS hl (Rz.le_refl _) s1.sim.fresh (fun l q hq => ?_) (fun j h' hj => ?_) ⟨E3, L3, p1, fun z => by rw [p2, hmem], Ents.mono hl (Rz.le_refl _) (fun j h' hj => ?_) p3, hw2⟩
        · obtain ⟨rfl, rfl⟩ := hup l q hq
          exact ⟨b, vals', t, (0, 0), q4, hb, hp2⟩
        · by_cases hji : j = i
          · subst hji
            right
            have := only_one s1.sim hj (s1.sim.blks j t n hM1)
            subst this
            rw [show keyE j (EH.blk t n) = Loc.b j from rfl, look_cons_self]; simp
          · exact .inl ((hmem _).2 ⟨hj, hji⟩)
        · have hji : j ≠ i := ((p2 _).1 hj).2
          cases h' with
          | arr e' => exact hne _ (by simp)
          | grid e' => exact hne _ (by simp)
          | mp _ _ => exact hne _ (by simp)
          | blk t' m => exact ⟨hne _ (by simpa using hji), fun j' => hne _ (by simp)⟩
      rw [← ovl_app] at hres
      have e1 : ∀ l, Loc.b i ≠ l → ovl ((Loc.b i, Con.fzb e x) :: ov1.up) M l = ovl ov1.up M l := fun l hl => by
        rw [show ((Loc.b i, Con.fzb e x) :: ov1.up) = [(Loc.b i, Con.fzb e x)] ++ ov1.up from rfl, ovl_app, ovl_none (hne _ (Ne.symm hl))]
      refine ⟨x, ⟨(.b i, .fzb e x) :: ov1.up, ov1.add, i :: ov1.del, ov1.nx, ov1.mu⟩, f2, rs3, ⟨hres, s1.inj, s1.ge, fun j hj => (List.mem_cons.1 hj).elim (fun e => by rw [e, q4]; simp) (s1.dlt j), s1.rng⟩,
        x1.trans ⟨hl, Rz.le_refl _, fun _ _ h => h, Nat.le_refl _, fun j hj => List.mem_cons_of_mem _ hj, fun l c hlc => ?_, fun j e' xs nn hj => ?_⟩, h4, b, vals', t, (0, 0), q4, hb, hp2⟩
      · by_cases hli : Loc.b i = l
        · exact .inr (.inl ⟨i, by simp, .inr hli.symm⟩)
        · exact .inl ((e1 l hli).trans hlc)
      · exact (e1 _ (by simp)).trans hj
theorem newNil_stage {ov : Ov B} (hs : Stage G L0 f0 σ0 M E N base f σ ρ w ov) (hb : ∀ j, base ≤ j → j < lim → ¬ N j) (hlim : ov.nx + 2 ≤ lim) (e : Ty) :
    ∃ σ', Stage G L0 f0 σ0 M E N base f σ' ρ w ⟨(.a ov.nx, .arr e [] (ov.nx + 1) 0) :: ov.up, (ov.nx, .arr e) :: ov.add, ov.del, ov.nx + 2, ov.mu⟩ ∧
      Ext M ov f σ ⟨(.a ov.nx, .arr e [] (ov.nx + 1) 0) :: ov.up, (ov.nx, .arr e) :: ov.add, ov.del, ov.nx + 2, ov.mu⟩ f σ' ∧ σ' ov.nx = some (.hdr none 0 0) := by
  have fr : ∀ j, ov.nx ≤ j → j < lim → σ j = none := fun j h1 h2 => hs.sim.fresh j fun h => h.elim (fun h => hb j (Nat.le_trans hs.ge h1) h2 h) (fun h => by omega)
  have b0 := fr ov.nx (Nat.le_refl _) (by omega)
  have b1 := fr (ov.nx + 1) (by omega) (by omega)
  obtain ⟨E1, L1, k1, k2, k3, k4⟩ := hs.sim.ents
  obtain ⟨hok, hw⟩ := wd_arrNil (E := relB B e) k4
  have hσ1 : Rz.le σ (setR σ ov.nx (.hdr none 0 0)) := setR_le b0
  have hσ : Rz.le σ (setR (setR σ ov.nx (.hdr none 0 0)) (ov.nx + 1) (.con e [])) := Rz.le_trans hσ1 (setR_le (by rw [setR_ne (by omega)]; exact b1))
  have s0 : setR (setR σ ov.nx (.hdr none 0 0)) (ov.nx + 1) (Real.con (B := B) e []) ov.nx = some (.hdr none 0 0) := by rw [setR_ne (by omega)]; exact setR_self _ _ _
  have s1 : setR (setR σ ov.nx (.hdr none 0 0)) (ov.nx + 1) (Real.con (B := B) e []) (ov.nx + 1) = some (.con e []) := setR_self _ _ _
  have hne : ∀ i h, (i, h) ∈ delsE (ov.add ++ E) ov.del → i ≠ ov.nx := fun i h hi q => by subst q; exact ents_some hs.sim hi b0
  have hnd : ov.nx ∉ ov.del := fun hd => hs.dlt _ hd b0
  have hup : ∀ l q, look [(Loc.a ov.nx, Con.arr (B := B) e [] (ov.nx + 1) 0)] l = some q → l = .a ov.nx ∧ q = .arr e [] (ov.nx + 1) 0 := fun l q hl => by
    by_cases hli : Loc.a ov.nx = l
    · subst hli; rw [look_cons_self] at hl; injection hl with hl; exact ⟨rfl, hl.symm⟩
    · rw [look_cons_ne hli] at hl; cases hl
  have hnl : ∀ l, l ≠ .a ov.nx → look [(Loc.a ov.nx, Con.arr (B := B) e [] (ov.nx + 1) 0)] l = none := fun l hl => by
    cases hq : look [(Loc.a ov.nx, Con.arr (B := B) e [] (ov.nx + 1) 0)] l with
    | none => rfl
    | some q => exact absurd (hup l q hq).1 hl
  have hmem : ∀ x, x ∈ delsE ((ov.nx, EH.arr e) :: ov.add ++ E) ov.del ↔ x = (ov.nx, EH.arr e) ∨ x ∈ delsE (ov.add ++ E) ov.del := fun x => by
    simp only [mem_delsE, List.cons_append, List.mem_cons]
    constructor
    · rintro ⟨rfl | h, hd⟩
      · exact .inl rfl
      · exact .inr ⟨h, hd⟩
    · rintro (rfl | ⟨h, hd⟩)
      · exact ⟨.inl rfl, hnd⟩
      · exact ⟨.inr h, hd⟩
  have hres : SimF G L0 f0 σ0 (ovl [(Loc.a ov.nx, Con.arr (B := B) e [] (ov.nx + 1) 0)] (ovl ov.up M)) (delsE ((ov.nx, EH.arr e) :: ov.add ++ E) ov.del) (fun j => N j ∨ (base ≤ j ∧ j < ov.nx + 2)) f (setR (setR σ ov.nx (.hdr none 0 0)) (ov.nx + 1) (.con e [])) ρ w := by
    refine hs.sim.updS (HP.le_refl _) hσ (fun i hi => ?_) (fun l q hq => ?_) (fun j h' hj => .inl ((hmem _).2 (.inr hj))) ⟨(ov.nx, .arr e) :: E1, _ :: L1, k1.cons fun k hk => hne _ _ ((k2 _).1 hk) rfl, fun x => by rw [List.mem_cons, k2, hmem], ⟨?_, Ents.mono (HP.le_refl _) hσ (fun j h' hj => ?_) k3⟩, hw⟩
    · have hge := hs.ge
      have : i ≠ ov.nx ∧ i ≠ ov.nx + 1 := ⟨fun q => hi (.inr ⟨by omega, by omega⟩), fun q => hi (.inr ⟨by omega, by omega⟩)⟩
      rw [setR_ne this.2, setR_ne this.1]
      exact hs.sim.fresh _ fun h => hi (h.elim .inl fun h => .inr ⟨h.1, by omega⟩)
    · obtain ⟨rfl, rfl⟩ := hup l q hq
      exact (hmem _).2 (.inl rfl)
    · exact ⟨none, 0, 0, #[], [], ov.nx + 1, 0, s0, rfl, ovl_some (look_cons_self _ _ _), s1, hok, fun h => by omega, fun h => by omega⟩
    · have hji := hne j h' ((k2 _).1 hj)
      cases h' with
      | arr e' => exact hnl _ (by simpa using hji)
      | grid e' => exact hnl _ (by simpa using hji)
      | mp _ _ => exact hnl _ (by simpa using hji)
      | blk t m => exact ⟨hnl _ (by simp), fun j' => hnl _ (by simp)⟩
  rw [← ovl_app] at hres
  have e1 : ∀ l, Loc.a ov.nx ≠ l → ovl ((Loc.a ov.nx, Con.arr (B := B) e [] (ov.nx + 1) 0) :: ov.up) M l = ovl ov.up M l := fun l hl => by
    rw [show ((Loc.a ov.nx, Con.arr (B := B) e [] (ov.nx + 1) 0) :: ov.up) = [(Loc.a ov.nx, Con.arr (B := B) e [] (ov.nx + 1) 0)] ++ ov.up from rfl, ovl_app, ovl_none (hnl _ (Ne.symm hl))]
  refine ⟨_, ⟨hres, hs.inj, Nat.le_trans hs.ge (Nat.le_add_right _ _), fun i hi h => hs.dlt i hi ?_, fun e j hj h => hs.rng e j hj ?_⟩, ⟨HP.le_refl _, hσ, fun _ _ h => h, Nat.le_add_right _ _, fun _ h => h, fun l c hlc => ?_, fun j e' xs nn hj => ?_⟩, s0⟩
  · cases hx : σ i with
    | none => rfl
    | some r => rw [hσ i r hx] at h; cases h
  · cases hx : σ j with
    | none => rfl
    | some r => rw [hσ j r hx] at h; cases h
  · by_cases hli : Loc.a ov.nx = l
    · exact .inr (.inr (.inl ⟨ov.nx, b0, hli.symm⟩))
    · exact .inl ((e1 l hli).trans hlc)
  · have hj' : Loc.a ov.nx ≠ Loc.a j := fun q => by
      injection q with q
      subst q
      obtain ⟨A, n, c, h, _⟩ := hs.sim.fzs _ _ _ _ hj
      rw [b0] at h; cases h
    exact (e1 _ hj').trans hj
theorem newNilG_stage {ov : Ov B} (hs : Stage G L0 f0 σ0 M E N base f σ ρ w ov) (hb : ∀ j, base ≤ j → j < lim → ¬ N j) (hlim : ov.nx + 3 ≤ lim) (e : Ty) :
    ∃ σ', Stage G L0 f0 σ0 M E N base f σ' ρ w ⟨(.a ov.nx, .grid e [] (ov.nx + 1) (ov.nx + 2) none 0) :: ov.up, (ov.nx, .grid e) :: ov.add, ov.del, ov.nx + 3, ov.mu⟩ ∧
      Ext M ov f σ ⟨(.a ov.nx, .grid e [] (ov.nx + 1) (ov.nx + 2) none 0) :: ov.up, (ov.nx, .grid e) :: ov.add, ov.del, ov.nx + 3, ov.mu⟩ f σ' ∧ σ' ov.nx = some (.hdr none 0 0) := by
  have fr : ∀ j, ov.nx ≤ j → j < lim → σ j = none := fun j h1 h2 => hs.sim.fresh j fun h => h.elim (fun h => hb j (Nat.le_trans hs.ge h1) h2 h) (fun h => by omega)
  have b0 := fr ov.nx (Nat.le_refl _) (by omega)
  have b1 := fr (ov.nx + 1) (by omega) (by omega)
  have b2 := fr (ov.nx + 2) (by omega) (by omega)
  obtain ⟨E1, L1, k1, k2, k3, k4⟩ := hs.sim.ents
  obtain ⟨hok, hw⟩ := wd_gridNil (E := relB B e) k4
  have hσ1 : Rz.le σ (setR σ ov.nx (.hdr none 0 0)) := setR_le b0
  have hσ2 : Rz.le σ (setR (setR σ ov.nx (.hdr none 0 0)) (ov.nx + 1) (.con (.sl e) [])) := Rz.le_trans hσ1 (setR_le (by rw [setR_ne (by omega)]; exact b1))
  have hσ : Rz.le σ (setR (setR (setR σ ov.nx (.hdr none 0 0)) (ov.nx + 1) (.con (.sl e) [])) (ov.nx + 2) (.hdrs [])) := Rz.le_trans hσ2 (setR_le (by rw [setR_ne (by omega), setR_ne (by omega)]; exact b2))
  have s0 : setR (setR (setR σ ov.nx (.hdr none 0 0)) (ov.nx + 1) (Real.con (B := B) (.sl e) [])) (ov.nx + 2) (.hdrs []) ov.nx = some (.hdr none 0 0) := by rw [setR_ne (by omega), setR_ne (by omega)]; exact setR_self _ _ _
  have s1 : setR (setR (setR σ ov.nx (.hdr none 0 0)) (ov.nx + 1) (Real.con (B := B) (.sl e) [])) (ov.nx + 2) (.hdrs []) (ov.nx + 1) = some (.con (.sl e) []) := by rw [setR_ne (by omega)]; exact setR_self _ _ _
  have s2 : setR (setR (setR σ ov.nx (.hdr none 0 0)) (ov.nx + 1) (Real.con (B := B) (.sl e) [])) (ov.nx + 2) (.hdrs []) (ov.nx + 2) = some (.hdrs []) := setR_self _ _ _
  have hne : ∀ i h, (i, h) ∈ delsE (ov.add ++ E) ov.del → i ≠ ov.nx := fun i h hi q => by subst q; exact ents_some hs.sim hi b0
  have hnd : ov.nx ∉ ov.del := fun hd => hs.dlt _ hd b0
  have hup : ∀ l q, look [(Loc.a ov.nx, Con.grid (B := B) e [] (ov.nx + 1) (ov.nx + 2) none 0)] l = some q → l = .a ov.nx ∧ q = .grid e [] (ov.nx + 1) (ov.nx + 2) none 0 := fun l q hl => by
    by_cases hli : Loc.a ov.nx = l
    · subst hli; rw [look_cons_self] at hl; injection hl with hl; exact ⟨rfl, hl.symm⟩
    · rw [look_cons_ne hli] at hl; cases hl
  have hnl : ∀ l, l ≠ .a ov.nx → look [(Loc.a ov.nx, Con.grid (B := B) e [] (ov.nx + 1) (ov.nx + 2) none 0)] l = none := fun l hl => by
    cases hq : look [(Loc.a ov.nx, Con.grid (B := B) e [] (ov.nx + 1) (ov.nx + 2) none 0)] l with
    | none => rfl
    | some q => exact absurd (hup l q hq).1 hl
  have hmem : ∀ x, x ∈ delsE ((ov.nx, EH.grid e) :: ov.add ++ E) ov.del ↔ x = (ov.nx, EH.grid e) ∨ x ∈ delsE (ov.add ++ E) ov.del := fun x => by
    simp only [mem_delsE, List.cons_append, List.mem_cons]
    constructor
    · rintro ⟨rfl | h, hd⟩
      · exact .inl rfl
      · exact .inr ⟨h, hd⟩
    · rintro (rfl | ⟨h, hd⟩)
      · exact ⟨.inl rfl, hnd⟩
      · exact ⟨.inr h, hd⟩
  have hres : SimF G L0 f0 σ0 (ovl [(Loc.a ov.nx, Con.grid (B := B) e [] (ov.nx + 1) (ov.nx + 2) none 0)] (ovl ov.up M)) (delsE ((ov.nx, EH.grid e) :: ov.add ++ E) ov.del) (fun j => N j ∨ (base ≤ j ∧ j < ov.nx + 3)) f (setR (setR (setR σ ov.nx (.hdr none 0 0)) (ov.nx + 1) (.con (.sl e) [])) (ov.nx + 2) (.hdrs [])) ρ w := by
    refine hs.sim.updS (HP.le_refl _) hσ (fun i hi => ?_) (fun l q hq => ?_) (fun j h' hj => .inl ((hmem _).2 (.inr hj))) ⟨(ov.nx, .grid e) :: E1, _ :: L1, k1.cons fun k hk => hne _ _ ((k2 _).1 hk) rfl, fun x => by rw [List.mem_cons, k2, hmem], ⟨?_, Ents.mono (HP.le_refl _) hσ (fun j h' hj => ?_) k3⟩, hw⟩
    · have hge := hs.ge
      have : i ≠ ov.nx ∧ i ≠ ov.nx + 1 ∧ i ≠ ov.nx + 2 := ⟨fun q => hi (.inr ⟨by omega, by omega⟩), fun q => hi (.inr ⟨by omega, by omega⟩), fun q => hi (.inr ⟨by omega, by omega⟩)⟩
      rw [setR_ne this.2.2, setR_ne this.2.1, setR_ne this.1]
      exact hs.sim.fresh _ fun h => hi (h.elim .inl fun h => .inr ⟨h.1, by omega⟩)
    · obtain ⟨rfl, rfl⟩ := hup l q hq
      exact (hmem _).2 (.inl rfl)
    · exact ⟨none, 0, 0, #[], [], [], [], ov.nx + 1, ov.nx + 2, none, 0, s0, rfl, ovl_some (look_cons_self _ _ _), s1, s2, hok, fun h => by omega⟩
    · have hji := hne j h' ((k2 _).1 hj)
      cases h' with
      | arr e' => exact hnl _ (by simpa using hji)
      | grid e' => exact hnl _ (by simpa using hji)
      | mp _ _ => exact hnl _ (by simpa using hji)
      | blk t m => exact ⟨hnl _ (by simp), fun j' => hnl _ (by simp)⟩
  rw [← ovl_app] at hres
  have e1 : ∀ l, Loc.a ov.nx ≠ l → ovl ((Loc.a ov.nx, Con.grid (B := B) e [] (ov.nx + 1) (ov.nx + 2) none 0) :: ov.up) M l = ovl ov.up M l := fun l hl => by
    rw [show ((Loc.a ov.nx, Con.grid (B := B) e [] (ov.nx + 1) (ov.nx + 2) none 0) :: ov.up) = [(Loc.a ov.nx, Con.grid (B := B) e [] (ov.nx + 1) (ov.nx + 2) none 0)] ++ ov.up from rfl, ovl_app, ovl_none (hnl _ (Ne.symm hl))]
  refine ⟨_, ⟨hres, hs.inj, Nat.le_trans hs.ge (Nat.le_add_right _ _), fun i hi h => hs.dlt i hi ?_, fun e j hj h => hs.rng e j hj ?_⟩, ⟨HP.le_refl _, hσ, fun _ _ h => h, Nat.le_add_right _ _, fun _ h => h, fun l c hlc => ?_, fun j e' xs nn hj => ?_⟩, s0⟩
  · cases hx : σ i with
    | none => rfl
    | some r => rw [hσ i r hx] at h; cases h
  · cases hx : σ j with
    | none => rfl
    | some r => rw [hσ j r hx] at h; cases h
  · by_cases hli : Loc.a ov.nx = l
    · exact .inr (.inr (.inl ⟨ov.nx, b0, hli.symm⟩))
    · exact .inl ((e1 l hli).trans hlc)
  · have hj' : Loc.a ov.nx ≠ Loc.a j := fun q => by
      injection q with q
      subst q
      obtain ⟨A, n, c, h, _⟩ := hs.sim.fzs _ _ _ _ hj
      rw [b0] at h; cases h
    exact (e1 _ hj').trans hj
end
end Hd
set_option linter.unusedVariables false
set_option linter.unusedSimpArgs false
namespace Hd
open Go Hk
section
variable {B : Tab} {P : Program} {M : Loc → Option (Con B)} {G w : World} {L0 : List HProp} {f0 f f' : HP} {σ0 σ σ' : Rz B} {E : List (Nat × EH)} {N : Nat → Prop} {ρ : Env}
variable {base lim n0 : Nat} {rs : List Loc} {ρr : Type} {o : ρr}
theorem stage_some {ov : Ov B} (hs : Stage G L0 f0 σ0 M E N base f σ ρ w ov) {j : Nat} {e : Ty} {xs : List (den B.T e)} {s nn : Nat} {A : Option Addr} {n c : Nat} (hM : ovl ov.up M (.a j) = some (.arr e xs s nn)) (hnn : 1 ≤ nn) (hσ : σ j = some (.hdr A n c)) : A.isSome = true := by
  obtain ⟨E2, L2, A', n', c', cur, r1, r2, r3, r4, r5, r6, r7, r8, r9⟩ := take_arr hs.sim hM
  rw [hσ] at r4
  injection r4 with r4
  injection r4 with a1 a2 a3
  subst a1
  exact r7 hnn
theorem capsO_ran {ov : Ov B} (hs : SimO G L0 f0 σ0 M E N f σ ρ w ov) {c : Nat} {vals : List Value} (hσ : σ c = some (.clo vals)) :
    ∀ {n a : Nat} {k : List (Cel B) → RM B ρr} {rs : List Loc}, a + n ≤ vals.length → (capsO ov c a n k).Ran M o rs → ∃ cs rs', CRels f σ cs ((vals.drop a).take n) ∧ (k cs).Ran M o rs'
  | 0, a, k, rs, _, h => ⟨[], rs, by simp [CRels], h⟩
  | n + 1, a, k, rs, hn, h => by
    unfold capsO at h
    obtain ⟨rs', h1⟩ := rdo_ran h
    clear h
    cases hM : ovl ov.up M (.k c a) with
    | none => rw [hM] at h1; exact h1.elim
    | some q =>
      rw [hM] at h1
      cases q <;> try exact h1.elim
      rename_i x
      obtain ⟨vals', v, a1, a2, a3⟩ := hs.clos c a x hM
      rw [hσ] at a1
      injection a1 with a1
      injection a1 with a1
      subst a1
      obtain ⟨cs, rs2, h4, h5⟩ := capsO_ran hs hσ (by omega) h1
      refine ⟨x :: cs, rs2, ?_, h5⟩
      have hlt := (List.getElem?_eq_some_iff.1 a2).1
      rw [List.drop_eq_getElem_cons hlt, List.take_succ_cons]
      have : vals[a] = v := (List.getElem?_eq_some_iff.1 a2).2
      rw [this]
      exact ⟨a3, h4⟩
theorem mSh_stage (hb : ∀ j, base ≤ j → j < lim → ¬ N j) {ov : Ov B} (hs : Stage G L0 f0 σ0 M E N base f σ ρ w ov) {s : Sh} {c : Cel B} {k : HL B.T s.comps → Ov B → RM B ρr} {v : Value} (hc : CRel f σ c v) (h : (mSh n0 lim ov s c k).Ran M o rs) :
    ∃ p ov' f' σ' rs', Stage G L0 f0 σ0 M E N base f' σ' ρ w ov' ∧ Ext M ov f σ ov' f' σ' ∧ (k p ov').Ran M o rs' ∧ CRels f' (ren n0 σ' ov'.mu) (unSh (fun e => e) s p) [v] := by
  cases s with
  | d t =>
    have other : (dataC ov [c] fun cs ov => RM.opt (dataOf B t cs) fun x => k (x, ()) ov).Ran M o rs →
        ∃ p ov' f' σ' rs', Stage G L0 f0 σ0 M E N base f' σ' ρ w ov' ∧ Ext M ov f σ ov' f' σ' ∧ (k p ov').Ran M o rs' ∧ CRels f' (ren n0 σ' ov'.mu) (unSh (fun e => e) (.d t) p) [v] := by
      intro h
      obtain ⟨cs', ov', f', rs1, h1, h2, h3, h4, h5⟩ := dataC_stage hs (cs := [c]) (vs := [v]) ⟨hc, trivial⟩ h
      obtain ⟨x, hx, h6⟩ := opt_ran h5
      exact ⟨(x, ()), ov', f', σ, rs1, h1, h2, h6, cellsOf_ok (dataOf_okT hx) (dataOf_ok hx h3)⟩
    cases t with
    | sl e =>
      cases c with
      | slk c0 m =>
        obtain ⟨b, vals, ty, fr, g1, g2, rfl, g4⟩ := hc
        obtain ⟨cs, rs1, h1, h2⟩ := capsO_ran hs.sim g1 (n := m) (a := 0) (by omega) (show (capsO ov c0 0 m fun cs => dataC ov cs fun cs ov => RM.chk (Nat.beq (relB B e).n 1 && Nat.ble m 1000000) <| RM.opt (elems B e m cs) fun xs => k ((xs : List (den B.T e)), ()) ov).Ran M o rs from h)
        rw [List.drop_zero, List.take_of_length_le (by omega)] at h1
        obtain ⟨cs', ov', f', rs2, s1, x1, h3, _, h4⟩ := dataC_stage hs h1 h2
        obtain ⟨hq, h5⟩ := chk_ran h4
        simp only [Bool.and_eq_true] at hq
        have hn1 := Nat.eq_of_beq_eq_true hq.1
        have hm := Nat.le_of_ble_eq_true hq.2
        obtain ⟨xs, hxs, h6⟩ := opt_ran h5
        obtain ⟨ess, q1, q2, q3⟩ := elems_ok hxs h3
        refine ⟨_, ov', f', σ, rs2, s1, x1, h6, ⟨_, _, _, rfl, ⟨q3.symm, Nat.le_of_eq q3, by unfold maxLen; omega, fun i x hx => ?_⟩⟩, trivial⟩
        obtain ⟨_, _, k3⟩ := RelAll.get q2
        obtain ⟨es, y1, y2⟩ := k3 i x hx
        refine ⟨b, 0, es, rfl, fun j v hj => ?_, y2⟩
        rw [Nat.zero_add]
        refine fblk (x1.le _ _ g4) ?_
        rw [q1]
        exact y1 j v hj
      | _ => exact other h
    | opt e =>
      cases c with
      | ptr i off =>
        cases off with
        | zero =>
          obtain ⟨x, ov', f', rs1, h1, h2, h3, b, ds, t, fr, h4, h5, h6⟩ := frzB_stage hs (show (frzB ov i e fun x ov => k ((some x : Option (den B.T e)), ()) ov).Ran M o rs from h)
          refine ⟨_, ov', f', σ, rs1, h1, h2, h3, ?_, trivial⟩
          obtain ⟨b', h7, rfl⟩ := hc
          rw [h4] at h7
          injection h7 with h7
          injection h7 with h7
          subst h7
          exact ⟨b, ds, t, fr, rfl, h5, h6⟩
        | succ n => exact other h
      | _ => exact other h
    | _ => exact other h
  | own i e =>
    cases c <;> try exact h.elim
    case ob j b =>
      obtain ⟨A, n, c, h6, rfl, _⟩ := hc
      obtain ⟨ov', h1, h2, h3, h4, h5⟩ := role_stage hs (by rw [h6]; simp) (show (role n0 ov i j (k ())).Ran M o rs from h)
      exact ⟨(), ov', f, σ, rs, h1, h2, h3, ⟨A, n, c, ren_role h5 (fun _ _ h => h) h6, rfl⟩, trivial⟩
    case own j =>
      obtain ⟨A, n, c, h6, rfl⟩ := hc
      obtain ⟨ov', h1, h2, h3, h4, h5⟩ := role_stage hs (by rw [h6]; simp) (show (role n0 ov i j (k ())).Ran M o rs from h)
      exact ⟨(), ov', f, σ, rs, h1, h2, h3, ⟨A, n, c, ren_role h5 (fun _ _ h => h) h6, rfl⟩, trivial⟩
    case nils =>
      obtain ⟨hl, h0⟩ := chk_ran (show (RM.chk (Nat.ble (ov.nx + 2) lim) (role n0 { ov with up := (.a ov.nx, .arr e [] (ov.nx + 1) 0) :: ov.up, add := (ov.nx, .arr e) :: ov.add, nx := ov.nx + 2 } i ov.nx (k ()))).Ran M o rs from h)
      obtain ⟨σ1, s1, x1, hσ⟩ := newNil_stage hs hb (Nat.le_of_ble_eq_true hl) e
      obtain ⟨ov', h1, h2, h3, h4, h5⟩ := role_stage s1 (by rw [hσ]; simp) h0
      exact ⟨(), ov', f, σ1, rs, h1, x1.trans h2, h3, ⟨none, 0, 0, ren_role h5 (fun _ _ h => h) hσ, hc⟩, trivial⟩
  | og i e =>
    cases c <;> try exact h.elim
    case own j =>
      obtain ⟨A, n, c, h6, rfl⟩ := hc
      obtain ⟨ov', h1, h2, h3, h4, h5⟩ := role_stage hs (by rw [h6]; simp) (show (role n0 ov i j (k ())).Ran M o rs from h)
      exact ⟨(), ov', f, σ, rs, h1, h2, h3, ⟨A, n, c, ren_role h5 (fun _ _ h => h) h6, rfl⟩, trivial⟩
    case nils =>
      obtain ⟨hl, h0⟩ := chk_ran (show (RM.chk (Nat.ble (ov.nx + 3) lim) (role n0 { ov with up := (.a ov.nx, .grid e [] (ov.nx + 1) (ov.nx + 2) none 0) :: ov.up, add := (ov.nx, .grid e) :: ov.add, nx := ov.nx + 3 } i ov.nx (k ()))).Ran M o rs from h)
      obtain ⟨σ1, s1, x1, hσ⟩ := newNilG_stage hs hb (Nat.le_of_ble_eq_true hl) e
      obtain ⟨ov', h1, h2, h3, h4, h5⟩ := role_stage s1 (by rw [hσ]; simp) h0
      exact ⟨(), ov', f, σ1, rs, h1, x1.trans h2, h3, ⟨none, 0, 0, ren_role h5 (fun _ _ h => h) hσ, hc⟩, trivial⟩
  | ob i e =>
    cases c <;> try exact h.elim
    case ob j b =>
      obtain ⟨A, n, c, h6, rfl, h7⟩ := hc
      obtain ⟨ov', h1, h2, h3, h4, h5⟩ := role_stage hs (by rw [h6]; simp) (show (role n0 ov i j (k ((b : Bool), ()))).Ran M o rs from h)
      exact ⟨_, ov', f, σ, rs, h1, h2, h3, ⟨A, n, c, ren_role h5 (fun _ _ h => h) h6, rfl, h7⟩, trivial⟩
    case own j =>
      obtain ⟨rs1, h0⟩ := rdo_ran (show (rdo ov (.a j) fun
        | some (.arr _ _ _ nn) => RM.chk (Nat.ble 1 nn) (role n0 ov i j (k (false, ())))
        | _ => .fail : RM B ρr).Ran M o rs from h)
      obtain ⟨A, n, c, h6, rfl⟩ := hc
      cases hM : ovl ov.up M (.a j) with
      | none => rw [hM] at h0; exact h0.elim
      | some q =>
        rw [hM] at h0
        cases q <;> try exact h0.elim
        rename_i e' xs s nn
        obtain ⟨hnn, h0⟩ := chk_ran h0
        have hA : A.isSome = true := stage_some hs hM (Nat.le_of_ble_eq_true hnn) h6
        obtain ⟨ov', h1, h2, h3, h4, h5⟩ := role_stage hs (by rw [h6]; simp) h0
        exact ⟨_, ov', f, σ, rs1, h1, h2, h3, ⟨A, n, c, ren_role h5 (fun _ _ h => h) h6, rfl, by cases A <;> simp at hA ⊢⟩, trivial⟩
    case nils =>
      obtain ⟨hl, h0⟩ := chk_ran (show (RM.chk (Nat.ble (ov.nx + 2) lim) (role n0 { ov with up := (.a ov.nx, .arr e [] (ov.nx + 1) 0) :: ov.up, add := (ov.nx, .arr e) :: ov.add, nx := ov.nx + 2 } i ov.nx (k (true, ())))).Ran M o rs from h)
      obtain ⟨σ1, s1, x1, hσ⟩ := newNil_stage hs hb (Nat.le_of_ble_eq_true hl) e
      obtain ⟨ov', h1, h2, h3, h4, h5⟩ := role_stage s1 (by rw [hσ]; simp) h0
      exact ⟨_, ov', f, σ1, rs, h1, x1.trans h2, h3, ⟨none, 0, 0, ren_role h5 (fun _ _ h => h) hσ, hc, rfl⟩, trivial⟩
  | pa i e =>
    cases c <;> try exact h.elim
    case pa j off =>
      unfold mSh at h
      dsimp only at h
      split at h
      · obtain ⟨b, oo, n, c, h6, rfl, q⟩ := hc
        obtain ⟨ov', h1, h2, h3, h4, h5⟩ := role_stage hs (by rw [h6]; simp) h
        exact ⟨(), ov', f, σ, rs, h1, h2, h3, ⟨b, oo, n, c, ren_role h5 (fun _ _ h => h) h6, rfl, q⟩, trivial⟩
      · exact h.elim
  | ptr i a =>
    cases c <;> try exact h.elim
    case ptr j a' =>
      obtain ⟨hq, h0⟩ := chk_ran (show (RM.chk (Nat.beq a a') (role n0 ov i j (k ()))).Ran M o rs from h)
      have := Nat.eq_of_beq_eq_true hq
      subst this
      obtain ⟨b, h6, rfl⟩ := hc
      obtain ⟨ov', h1, h2, h3, h4, h5⟩ := role_stage hs (by rw [h6]; simp) h0
      exact ⟨(), ov', f, σ, rs, h1, h2, h3, ⟨b, ren_role h5 (fun _ _ h => h) h6, rfl⟩, trivial⟩
  | fn0 g =>
    cases c <;> try exact h.elim
    case fn0 g' =>
      obtain ⟨hq, h0⟩ := chk_ran (show (RM.chk (Nat.beq g g') (k () ov)).Ran M o rs from h)
      have := Nat.eq_of_beq_eq_true hq
      subst this
      exact ⟨(), ov, f, σ, rs, hs, Ext.refl _ _ _, h0, hc, trivial⟩
  | fn g c0 n =>
    cases c <;> try exact h.elim
    case fn g' d m =>
      obtain ⟨hq, h0⟩ := chk_ran (show (RM.chk (Nat.beq g g' && Nat.beq n m) (role n0 ov c0 d (k ()))).Ran M o rs from h)
      simp only [Bool.and_eq_true] at hq
      have e1 := Nat.eq_of_beq_eq_true hq.1
      have e2 := Nat.eq_of_beq_eq_true hq.2
      subst e1 e2
      obtain ⟨vals, h6, h7, rfl⟩ := hc
      obtain ⟨ov', h1, h2, h3, h4, h5⟩ := role_stage hs (by rw [h6]; simp) h0
      exact ⟨(), ov', f, σ, rs, h1, h2, h3, ⟨vals, ren_role h5 (fun _ _ h => h) h6, h7, rfl⟩, trivial⟩
  | nils =>
    cases c <;> try exact h.elim
    exact ⟨(), ov, f, σ, rs, hs, Ext.refl _ _ _, h, hc, trivial⟩
  | nilp =>
    cases c <;> try exact h.elim
    exact ⟨(), ov, f, σ, rs, hs, Ext.refl _ _ _, h, hc, trivial⟩
  | nilf =>
    cases c <;> try exact h.elim
    exact ⟨(), ov, f, σ, rs, hs, Ext.refl _ _ _, h, hc, trivial⟩
  | nilm =>
    cases c <;> try exact h.elim
    exact ⟨(), ov, f, σ, rs, hs, Ext.refl _ _ _, h, hc, trivial⟩
  | mpr i =>
    cases c <;> try exact h.elim
    case mpr j =>
      obtain ⟨r, h6, rfl⟩ := hc
      obtain ⟨ov', h1, h2, h3, h4, h5⟩ := role_stage hs (by rw [h6]; simp) (show (role n0 ov i j (k ())).Ran M o rs from h)
      exact ⟨(), ov', f, σ, rs, h1, h2, h3, ⟨r, ren_role h5 (fun _ _ h => h) h6, rfl⟩, trivial⟩
  | und =>
    refine ⟨(), ov, f, σ, rs, hs, Ext.refl _ _ _, ?_, trivial, trivial⟩
    cases c <;> exact h
  | kb b =>
    cases c <;> try exact h.elim
    case bool b' =>
      obtain ⟨hq, h0⟩ := chk_ran (show (RM.chk (b == b') (k () ov)).Ran M o rs from h)
      have hq : b = b' := by simpa using hq
      subst hq
      exact ⟨(), ov, f, σ, rs, hs, Ext.refl _ _ _, h0, hc, trivial⟩
  | ki q n =>
    have h' : (RM.chk (match asI c with | some (q', n') => decide (q = q') && decide (n = n') | none => false) (k () ov)).Ran M o rs := by cases c <;> exact h
    obtain ⟨hq, h0⟩ := chk_ran h'
    cases ha : asI c with
    | none => rw [ha] at hq; cases hq
    | some p =>
      obtain ⟨q', n'⟩ := p
      rw [ha] at hq
      simp only [Bool.and_eq_true, decide_eq_true_eq] at hq
      obtain ⟨rfl, rfl⟩ := hq
      exact ⟨(), ov, f, σ, rs, hs, Ext.refl _ _ _, h0, asI_rel ha hc, trivial⟩
  | ks s =>
    cases c <;> try exact h.elim
    case str s' =>
      obtain ⟨hq, h0⟩ := chk_ran (show (RM.chk (decide (s = s')) (k () ov)).Ran M o rs from h)
      have hq : s = s' := of_decide_eq_true hq
      subst hq
      exact ⟨(), ov, f, σ, rs, hs, Ext.refl _ _ _, h0, hc, trivial⟩
theorem CRels.later {ov ov' : Ov B} (x : Ext M ov f σ ov' f' σ') {cs : List (Cel B)} {vs : List Value} (h : CRels f (ren n0 σ ov.mu) cs vs) : CRels f' (ren n0 σ' ov'.mu) cs vs := h.mono x.le (ren_le x.sub x.mu)
theorem mShs_stage (hb : ∀ j, base ≤ j → j < lim → ¬ N j) : ∀ {l : List Sh} {ov : Ov B} {f : HP} {σ : Rz B} {cs : List (Cel B)} {k : HL B.T (shsC l) → Ov B → RM B ρr} {vs : List Value} {rs : List Loc}, Stage G L0 f0 σ0 M E N base f σ ρ w ov → CRels f σ cs vs → (mShs n0 lim ov l cs k).Ran M o rs →
    ∃ p ov' f' σ' rs', Stage G L0 f0 σ0 M E N base f' σ' ρ w ov' ∧ Ext M ov f σ ov' f' σ' ∧ (k p ov').Ran M o rs' ∧ CRels f' (ren n0 σ' ov'.mu) (unShs (fun e => e) l p) vs
  | [], ov, f, σ, [], k, [], rs, hs, _, h => ⟨(), ov, f, σ, rs, hs, Ext.refl _ _ _, h, trivial⟩
  | s :: l, ov, f, σ, c :: cs, k, v :: vs, rs, hs, ⟨h1, h2⟩, h => by
    obtain ⟨p, ov1, f1, σ1, rs1, s1, x1, h3, h4⟩ := mSh_stage hb hs h1 h
    obtain ⟨q, ov2, f2, σ2, rs2, s2, x2, h5, h6⟩ := mShs_stage hb s1 (h2.mono x1.le x1.sub) h3
    refine ⟨_, ov2, f2, σ2, rs2, s2, x1.trans x2, h5, ?_⟩
    show CRels f2 _ (unSh _ s (HL.fst s.comps (shsC l) (HL.app s.comps (shsC l) p q)) ++ unShs _ l (HL.snd s.comps (shsC l) (HL.app s.comps (shsC l) p q))) ([v] ++ vs)
    rw [HL.fst_app, HL.snd_app]
    exact CRels.app (h4.later x2) h6
  | [], _, _, _, _ :: _, _, _, _, _, _, h => h.elim
  | _ :: _, _, _, _, [], _, _, _, _, _, h => h.elim
  | _ :: _, _, _, _, _ :: _, _, [], _, _, h, _ => h.elim
  | [], _, _, _, [], _, _ :: _, _, _, h, _ => h.elim
theorem unV_one {s : Sh} {p : HL B.T s.comps} {rn : Nat → Nat} {v : Value} (h : CRels f σ (unSh rn s p) [v]) : DRel f σ (unV rn (.one s) p) v := by
  show DRel f σ (match unSh rn s p with | [c] => .one c | l => .agg l) v
  cases hu : unSh rn s p with
  | nil => rw [hu] at h; exact h.elim
  | cons c l =>
    rw [hu] at h
    cases l with
    | nil => exact h.1
    | cons _ _ => exact h.2.elim
theorem mV_stage (hb : ∀ j, base ≤ j → j < lim → ¬ N j) {ov : Ov B} (hs : Stage G L0 f0 σ0 M E N base f σ ρ w ov) {vs : VSh} {d : DV B} {k : HL B.T vs.comps → Ov B → RM B ρr} {v : Value} (hd : DRel f σ d v) (h : (mV n0 lim ov vs d k).Ran M o rs) :
    ∃ p ov' f' σ' rs', Stage G L0 f0 σ0 M E N base f' σ' ρ w ov' ∧ Ext M ov f σ ov' f' σ' ∧ (k p ov').Ran M o rs' ∧ DRel f' (ren n0 σ' ov'.mu) (unV (fun e => e) vs p) v := by
  cases vs with
  | one s =>
    cases d <;> try exact h.elim
    obtain ⟨p, ov1, f1, σ1, rs1, s1, x1, h3, h4⟩ := mSh_stage hb hs hd h
    exact ⟨p, ov1, f1, σ1, rs1, s1, x1, h3, unV_one h4⟩
  | agg l =>
    cases d <;> try exact h.elim
    obtain ⟨vs, rfl, hd⟩ := hd
    obtain ⟨p, ov1, f1, σ1, rs1, s1, x1, h3, h4⟩ := mShs_stage hb hs hd h
    exact ⟨p, ov1, f1, σ1, rs1, s1, x1, h3, vs, rfl, h4⟩
  | dat t =>
    cases d <;> try exact h.elim
    obtain ⟨vs, rfl, hd⟩ := hd
    obtain ⟨cs', ov', f', rs1, h1, h2, h3, h4, h5⟩ := dataC_stage hs hd h
    obtain ⟨x, hx, h6⟩ := opt_ran h5
    exact ⟨(x, ()), ov', f', σ, rs1, h1, h2, h6, vs, rfl, cellsOf_ok (dataOf_okT hx) (dataOf_ok hx h3)⟩
def Rol (n0 : Nat) (mu : List (Nat × Nat)) (e i : Nat) : Prop := e < n0 ∧ e = i ∨ n0 ≤ e ∧ assoc mu e = some i
theorem roleOf_ran {ov : Ov B} {e : Nat} {k : Nat → RM B ρr} (h : (roleOf n0 ov e k).Ran M o rs) : ∃ i, Rol n0 ov.mu e i ∧ (k i).Ran M o rs := by
  unfold roleOf at h
  cases hlt : Nat.blt e n0 with
  | true => rw [hlt] at h; rw [Nat.blt_eq] at hlt; exact ⟨e, .inl ⟨hlt, rfl⟩, h⟩
  | false =>
    rw [hlt] at h
    obtain ⟨i, h1, h2⟩ := opt_ran h
    refine ⟨i, .inr ⟨?_, h1⟩, h2⟩
    rcases Nat.lt_or_ge e n0 with h' | h'
    · rw [← Nat.blt_eq, hlt] at h'; cases h'
    · exact h'
theorem Rol.later {ov ov' : Ov B} (x : Ext M ov f σ ov' f' σ') {e i : Nat} (h : Rol n0 ov.mu e i) : Rol n0 ov'.mu e i := h.imp id fun ⟨h1, h2⟩ => ⟨h1, x.mu e i h2⟩
def ItemOk (n0 : Nat) (sv : Nat → Value) (w : World) (M : Loc → Option (Con B)) (ov : Ov B) (f : HP) (σ : Rz B) : (i : Item) → HL B.T i.comps → Prop
  | .slot t v, p => DRel f (ren n0 σ ov.mu) (unV (fun e => e) v p) (sv t)
  | .cell i j s, p => ∃ i' b vals t v, Rol n0 ov.mu i i' ∧ σ i' = some (.blk b) ∧ w.heap[b]? = some (.cells (List.toArray vals) t (0, 0)) ∧ vals[j]? = some v ∧ CRels f (ren n0 σ ov.mu) (unSh (fun e => e) s p) [v]
  | .arr i e nn, p => ∃ i' s nn', Rol n0 ov.mu i i' ∧ nn ≤ nn' ∧ σ i' ≠ none ∧ (ovl ov.up M (.a i') = some (.arr e p.1 s nn') ∨ i' ∈ ov.del)
  | .grd i e nn h, p => ∃ i' s h' nn', Rol n0 ov.mu i i' ∧ Rol n0 ov.mu h h' ∧ nn ≤ nn' ∧ σ i' ≠ none ∧ (ovl ov.up M (.a i') = some (.grid e p.1 s h' none nn') ∨ i' ∈ ov.del)
  | .frz i e nn, p => ∃ i' A n c, Rol n0 ov.mu i i' ∧ σ i' = some (.hdr A n c) ∧ SlF f (relB B e) A n c p.1 ∧ nn = 0
  | .mp i k v, p => ∃ i', Rol n0 ov.mu i i' ∧ σ i' ≠ none ∧ (ovl ov.up M (.a i') = some (.mp k v p.1) ∨ i' ∈ ov.del)
  | .blk i ty n, _ => ∃ i', Rol n0 ov.mu i i' ∧ σ i' ≠ none ∧ (ovl ov.up M (.b i') = some (.blk ty n) ∨ i' ∈ ov.del)
  | .clo c j s, p => ∃ c' vals v, Rol n0 ov.mu c c' ∧ σ c' = some (.clo vals) ∧ vals[j]? = some v ∧ CRels f (ren n0 σ ov.mu) (unSh (fun e => e) s p) [v]
  | _, _ => True
theorem sub_ne {i : Nat} (h : Rz.le σ σ') (hn : σ i ≠ none) : σ' i ≠ none := by
  cases hx : σ i with
  | none => exact absurd hx hn
  | some r => rw [h i r hx]; simp
theorem ItemOk.later {ov ov' : Ov B} (x : Ext M ov f σ ov' f' σ') {sv : Nat → Value} {i : Item} {p : HL B.T i.comps} (h : ItemOk n0 sv w M ov f σ i p) : ItemOk n0 sv w M ov' f' σ' i p := by
  cases i with
  | slot t v => exact DRel.mono x.le (ren_le x.sub x.mu) h
  | cell i j s =>
    obtain ⟨i', b, vals, t, v, h1, h2, h3, h4, h5⟩ := h
    exact ⟨i', b, vals, t, v, h1.later x, x.sub _ _ h2, h3, h4, h5.later x⟩
  | arr i e nn =>
    obtain ⟨i', s, nn', h1, h2, h3, h4⟩ := h
    refine ⟨i', s, nn', h1.later x, h2, sub_ne x.sub h3, ?_⟩
    rcases h4 with h4 | h4
    · rcases x.keep _ _ h4 with h | ⟨j, hj, h | h⟩ | ⟨j, hj, h⟩ | h
      · exact .inl h
      · injection h with h; subst h; exact .inr hj
      · cases h
      · injection h with h; subst h; exact absurd hj h3
      · exact h.elim
    · exact .inr (x.del _ h4)
  | grd i e nn hh =>
    obtain ⟨i', s, h', nn', h1, h1', h2, h3, h4⟩ := h
    refine ⟨i', s, h', nn', h1.later x, h1'.later x, h2, sub_ne x.sub h3, ?_⟩
    rcases h4 with h4 | h4
    · rcases x.keep _ _ h4 with h | ⟨j, hj, h | h⟩ | ⟨j, hj, h⟩ | h
      · exact .inl h
      · injection h with h; subst h; exact .inr hj
      · cases h
      · injection h with h; subst h; exact absurd hj h3
      · exact h.elim
    · exact .inr (x.del _ h4)
  | mp i kt vt =>
    obtain ⟨i', h1, h3, h4⟩ := h
    refine ⟨i', h1.later x, sub_ne x.sub h3, ?_⟩
    rcases h4 with h4 | h4
    · rcases x.keep _ _ h4 with h | ⟨j, hj, h | h⟩ | ⟨j, hj, h⟩ | h
      · exact .inl h
      · injection h with h; subst h; exact .inr hj
      · cases h
      · injection h with h; subst h; exact absurd hj h3
      · exact h.elim
    · exact .inr (x.del _ h4)
  | frz i e nn =>
    obtain ⟨i', A, n, c, h1, h2, h3, h4⟩ := h
    exact ⟨i', A, n, c, h1.later x, x.sub _ _ h2, h3.mono x.le, h4⟩
  | blk i ty n =>
    obtain ⟨i', h1, h3, h4⟩ := h
    refine ⟨i', h1.later x, sub_ne x.sub h3, ?_⟩
    rcases h4 with h4 | h4
    · rcases x.keep _ _ h4 with h | ⟨j, hj, h | h⟩ | ⟨j, hj, h⟩ | h
      · exact .inl h
      · cases h
      · injection h with h; subst h; exact .inr hj
      · cases h
      · exact h.elim
    · exact .inr (x.del _ h4)
  | clo c j s =>
    obtain ⟨c', vals, v, h1, h2, h3, h4⟩ := h
    exact ⟨c', vals, v, h1.later x, x.sub _ _ h2, h3, h4.later x⟩
  | _ => trivial
def ItemsOk (n0 : Nat) (sv : Nat → Value) (w : World) (M : Loc → Option (Con B)) (ov : Ov B) (f : HP) (σ : Rz B) : (l : List Item) → HL B.T (itemsC l) → Prop
  | [], _ => True
  | i :: l, p => ItemOk n0 sv w M ov f σ i (HL.fst i.comps (itemsC l) p) ∧ ItemsOk n0 sv w M ov f σ l (HL.snd i.comps (itemsC l) p)
theorem mItem_stage (hb : ∀ j, base ≤ j → j < lim → ¬ N j) {ov : Ov B} (hs : Stage G L0 f0 σ0 M E N base f σ ρ w ov) {sl : Nat → (DV B → RM B ρr) → RM B ρr} {sv : Nat → Value}
    (hsl : ∀ t k rs, (sl t k).Ran M o rs → ∃ d rs', DRel f σ d (sv t) ∧ (k d).Ran M o rs') {i : Item} {k : HL B.T i.comps → Ov B → RM B ρr} (h : (mItem n0 lim sl ov i k).Ran M o rs) :
    ∃ p ov' f' σ' rs', Stage G L0 f0 σ0 M E N base f' σ' ρ w ov' ∧ Ext M ov f σ ov' f' σ' ∧ (k p ov').Ran M o rs' ∧ ItemOk n0 sv w M ov' f' σ' i p := by
  cases i with
  | slot t v =>
    obtain ⟨d, rs1, hd, h1⟩ := hsl t _ _ h
    exact mV_stage hb hs hd h1
  | cell i j s =>
    simp only [mItem] at h
    obtain ⟨i', hr, h1⟩ := roleOf_ran h
    obtain ⟨rs1, h2⟩ := rdo_ran h1
    cases hM : ovl ov.up M (.b i') with
    | none => rw [hM] at h2; exact h2.elim
    | some q =>
      rw [hM] at h2
      cases q <;> try exact h2.elim
      rename_i t n
      obtain ⟨hj, h3⟩ := chk_ran h2
      rw [Nat.blt_eq] at hj
      obtain ⟨rs2, h4⟩ := rdo_ran h3
      obtain ⟨E2, L2, b, vals, q1, q2, q3, q4, q5, q6, q7⟩ := take_blk hs.sim hM
      obtain ⟨v, hv⟩ : ∃ v, vals[j]? = some v := ⟨vals[j]'(by omega), List.getElem?_eq_getElem (by omega)⟩
      obtain ⟨_, c, hc, hcr⟩ := q6 j v hv
      rw [hc] at h4
      obtain ⟨p, ov1, f1, σ1, rs3, s1, x1, h5, h6⟩ := mSh_stage hb hs hcr h4
      exact ⟨p, ov1, f1, σ1, rs3, s1, x1, h5, i', b, vals, t, v, hr.later x1, x1.sub _ _ q4, wd_blk 0 q7 rfl, hv, h6⟩
  | arr i e nn =>
    simp only [mItem] at h
    obtain ⟨i', hr, h1⟩ := roleOf_ran h
    obtain ⟨rs1, h2⟩ := rdo_ran h1
    cases hM : ovl ov.up M (.a i') with
    | none => rw [hM] at h2; exact h2.elim
    | some q =>
      rw [hM] at h2
      cases q <;> try exact h2.elim
      rename_i e' xs s nn'
      obtain ⟨hj, h3⟩ := chk_ran h2
      obtain ⟨ys, hy, h4⟩ := opt_ran h3
      clear h h1 h2 h3
      obtain ⟨rfl, rfl⟩ := castSl hy
      obtain ⟨E2, L2, A, n, c, cur, q1, q2, q3, q4, q5, q6, q7, q8, q9⟩ := take_arr hs.sim hM
      exact ⟨(ys, ()), ov, f, σ, _, hs, Ext.refl _ _ _, h4, i', s, nn', hr, Nat.le_of_ble_eq_true hj, by rw [q4]; simp, .inl hM⟩
  | grd i e nn hh =>
    simp only [mItem] at h
    obtain ⟨i', hr, h1⟩ := roleOf_ran h
    obtain ⟨rs1, h2⟩ := rdo_ran h1
    cases hM : ovl ov.up M (.a i') with
    | none => rw [hM] at h2; exact h2.elim
    | some q =>
      rw [hM] at h2
      cases q <;> try exact h2.elim
      rename_i e' rows s h' hole nn'
      cases hole with
      | some j => exact h2.elim
      | none =>
      obtain ⟨hj, h3⟩ := chk_ran h2
      obtain ⟨ys, hy, h4⟩ := opt_ran h3
      clear h h1 h2 h3
      obtain ⟨rfl, rfl⟩ := castSS hy
      obtain ⟨E2, L2, A, n, c, cur, hdl, rl, r1, r2, r3, r4, r5, r5', r6, r7, r9⟩ := take_grid hs.sim hM
      obtain ⟨ov', s1, x1, h5, hup, hr2⟩ := role_stage hs (by rw [r5']; simp) h4
      exact ⟨(ys, ()), ov', f, σ, _, s1, x1, h5, i', s, h', nn', hr.later x1, hr2, Nat.le_of_ble_eq_true hj, by rw [r4]; simp, .inl (by rw [hup]; exact hM)⟩
  | mp i kt vt =>
    simp only [mItem] at h
    obtain ⟨i', hr, h1⟩ := roleOf_ran h
    obtain ⟨rs1, h2⟩ := rdo_ran h1
    clear h h1
    cases hM : ovl ov.up M (.a i') with
    | none => rw [hM] at h2; exact h2.elim
    | some q =>
      rw [hM] at h2
      cases q <;> try exact h2.elim
      case mp k' v' m =>
        obtain ⟨ys, hy, h4⟩ := opt_ran h2
        obtain ⟨rfl, rfl, hq0⟩ := castKV hy
        obtain rfl := eq_of_heq hq0
        exact ⟨(m, ()), ov, f, σ, _, hs, Ext.refl _ _ _, h4, i', hr, mp_some hs.sim hM, .inl hM⟩
      case mph k' e m key pd =>
        cases pd with
        | none => exact h2.elim
        | some j =>
        obtain ⟨hne, h3⟩ := chk_ran h2
        have hne : j ≠ i' := fun e => by subst e; simp at hne
        obtain ⟨rs2, h4⟩ := rdo_ran h3
        cases hMj : ovl ov.up M (.a j) with
        | none => rw [hMj] at h4; exact h4.elim
        | some q =>
          rw [hMj] at h4
          cases q <;> try exact h4.elim
          rename_i e' ys0 s nn
          obtain ⟨ys, hcy, h5⟩ := opt_ran h4
          clear h2 h3 h4
          obtain ⟨rfl, rfl⟩ := castSl hcy
          obtain ⟨m', hcm, h6⟩ := opt_ran h5
          obtain ⟨rfl, rfl, hq0⟩ := castKV hcm
          obtain rfl := eq_of_heq hq0
          obtain ⟨s1, x1, h7, h8⟩ := closeM_stage hs hM hMj hne
          exact ⟨_, _, f, σ, _, s1, x1, h6, i', hr, h8, .inl h7⟩
  | frz i e nn =>
    simp only [mItem] at h
    obtain ⟨i', hr, h1⟩ := roleOf_ran h
    obtain ⟨e', xs, nn0, ov1, f1, rs1, s1, x1, h2, _, A, n, c, h3, h4, _⟩ := frzA_stage hs h1
    obtain ⟨hn, h5⟩ := chk_ran h2
    obtain ⟨ys, hy, h6⟩ := opt_ran h5
    clear h h1 h2 h5
    obtain ⟨rfl, rfl⟩ := castSl hy
    exact ⟨(ys, ()), ov1, f1, σ, _, s1, x1, h6, i', A, n, c, hr.later x1, h3, h4, Nat.eq_of_beq_eq_true hn⟩
  | blk i ty n =>
    simp only [mItem] at h
    obtain ⟨i', hr, h1⟩ := roleOf_ran h
    obtain ⟨rs1, h2⟩ := rdo_ran h1
    cases hM : ovl ov.up M (.b i') with
    | none => rw [hM] at h2; exact h2.elim
    | some q =>
      rw [hM] at h2
      cases q <;> try exact h2.elim
      rename_i t' n'
      obtain ⟨hq, h3⟩ := chk_ran h2
      simp only [Bool.and_eq_true] at hq
      have e1 := Nat.eq_of_beq_eq_true hq.1
      have e2 := Nat.eq_of_beq_eq_true hq.2
      subst e1 e2
      obtain ⟨E2, L2, b, vals, q1, q2, q3, q4, q5, q6, q7⟩ := take_blk hs.sim hM
      exact ⟨(), ov, f, σ, _, hs, Ext.refl _ _ _, h3, i', hr, by rw [q4]; simp, .inl hM⟩
  | clo c j s =>
    simp only [mItem] at h
    obtain ⟨c', hr, h1⟩ := roleOf_ran h
    obtain ⟨rs1, h2⟩ := rdo_ran h1
    cases hM : ovl ov.up M (.k c' j) with
    | none => rw [hM] at h2; exact h2.elim
    | some q =>
      rw [hM] at h2
      cases q <;> try exact h2.elim
      rename_i x
      obtain ⟨vals, v, q1, q2, q3⟩ := hs.sim.clos c' j x hM
      obtain ⟨p, ov1, f1, σ1, rs3, s1, x1, h5, h6⟩ := mSh_stage hb hs q3 h2
      exact ⟨p, ov1, f1, σ1, rs3, s1, x1, h5, c', vals, v, hr.later x1, x1.sub _ _ q1, q2, h6⟩
  | kr t n => exact ⟨(), ov, f, σ, rs, hs, Ext.refl _ _ _, h, trivial⟩
  | rm i => exact ⟨(), ov, f, σ, rs, hs, Ext.refl _ _ _, h, trivial⟩
  | rmb i => exact ⟨(), ov, f, σ, rs, hs, Ext.refl _ _ _, h, trivial⟩
theorem ItemsOk.later {ov ov' : Ov B} (x : Ext M ov f σ ov' f' σ') {sv : Nat → Value} : ∀ {l : List Item} {p : HL B.T (itemsC l)}, ItemsOk n0 sv w M ov f σ l p → ItemsOk n0 sv w M ov' f' σ' l p
  | [], _, _ => trivial
  | _ :: _, _, ⟨h1, h2⟩ => ⟨h1.later x, ItemsOk.later x h2⟩
theorem mItems_stage (hb : ∀ j, base ≤ j → j < lim → ¬ N j) {sl : Nat → (DV B → RM B ρr) → RM B ρr} {sv : Nat → Value} : ∀ {l : List Item} {ov : Ov B} {f : HP} {σ : Rz B} {k : HL B.T (itemsC l) → Ov B → RM B ρr} {rs : List Loc},
    Stage G L0 f0 σ0 M E N base f σ ρ w ov → (∀ t k rs, (sl t k).Ran M o rs → ∃ d rs', DRel f σ d (sv t) ∧ (k d).Ran M o rs') → (mItems n0 lim sl ov l k).Ran M o rs →
    ∃ p ov' f' σ' rs', Stage G L0 f0 σ0 M E N base f' σ' ρ w ov' ∧ Ext M ov f σ ov' f' σ' ∧ (k p ov').Ran M o rs' ∧ ItemsOk n0 sv w M ov' f' σ' l p
  | [], ov, f, σ, k, rs, hs, _, h => ⟨(), ov, f, σ, rs, hs, Ext.refl _ _ _, h, trivial⟩
  | i :: l, ov, f, σ, k, rs, hs, hsl, h => by
    obtain ⟨p, ov1, f1, σ1, rs1, s1, x1, h1, h2⟩ := mItem_stage hb hs hsl h
    obtain ⟨q, ov2, f2, σ2, rs2, s2, x2, h3, h4⟩ := mItems_stage hb s1 (fun t k rs h => by
      obtain ⟨d, rs', h5, h6⟩ := hsl t k rs h
      exact ⟨d, rs', DRel.mono x1.le x1.sub h5, h6⟩) h1
    refine ⟨_, ov2, f2, σ2, rs2, s2, x1.trans x2, h3, ?_⟩
    show ItemOk _ _ _ _ _ _ _ i (HL.fst i.comps (itemsC l) (HL.app i.comps (itemsC l) p q)) ∧ ItemsOk _ _ _ _ _ _ _ l (HL.snd i.comps (itemsC l) (HL.app i.comps (itemsC l) p q))
    rw [HL.fst_app, HL.snd_app]
    exact ⟨h2.later x2, h4⟩
end
end Hd
