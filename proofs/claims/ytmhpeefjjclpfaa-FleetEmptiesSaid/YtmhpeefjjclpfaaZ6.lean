/- FleetEmpties: with empty runs there are no more turns than without, and with slower ones no fewer than with faster ones. -/
import Derived.Test.YtmhpeefjjclpfaaZ5
import Derived.Test.YtmhpeefjjclpfaaZC
set_option linter.unusedVariables false
set_option linter.unusedSimpArgs false
set_option maxRecDepth 100000
namespace Fm
open Go Hk Hd Pl Hs Fl

section
variable {l : List S_fleet_Task} {turn : Int} {secs : List (List Int)}
structure Empties (l : List S_fleet_Task) (turn : Int) (secs : List (List Int)) : Prop where
  ok : Ok l turn
  len : l.length ≤ 20
  sok : SecsOk secs
  tri : ∀ a b c : Int, 0 ≤ a → a < 12 → 0 ≤ b → b < 12 → 0 ≤ c → c < 12 → cell secs a c ≤ cell secs a b + cell secs b c
  fit : ∀ t ∈ l, cell secs t.From t.To ≤ t.Arr - t.Dep
theorem n1 : (1 : Int) ≠ 0 := by decide
theorem n2 : (2 : Int) ≠ 0 := by decide
theorem and_ifb (p : Bool) (q : Bool) : ifb p (some q) (some false) = some (p && q) := by cases p <;> rfl
/-- a loop of rows and columns that goes on, or leaves with what is not 0 -/
theorem empty_ok (hl : AllOk (AllOk I64) secs) : Tot (fishref2_EmptyFault l turn secs) fun e => e = 0 → Empties l turn secs := by
  unfold fishref2_EmptyFault
  rw [tfault_eq]
  refine tot_bind (turn_tot l turn) fun e _ he => ?_
  refine tot_ifb (fun q => ?_) fun q => ?_
  · have q : e ≠ 0 := by simpa using q
    exact tot_some fun h => absurd h q
  have q : e = 0 := by simpa using q
  have hok := he.1 q
  refine tot_ifb (fun q => tot_some fun h => by cases h) fun q20 => ?_
  have q20 := of_decide_eq_false q20
  refine tot_ifb (fun q => tot_some fun h => by cases h) fun q12 => ?_
  have h12 : secs.length = 12 := by
    have : ((secs.length : Nat) : Int) = 12 := by simpa using q12
    omega
  refine tot_allX (P := fun _ r => r.length = 12) (E := fun y => y ≠ 0) (fun i x hx => ?_) (fun hrow => ?_) fun y hy => tot_some fun h => absurd h hy
  · unfold fishref2_EmptyFault_b1
    refine tot_ifb (fun q => tot_some n1) fun q => tot_some ?_
    have : ((x.length : Nat) : Int) = 12 := by simpa using q
    show x.length = 12
    omega
  have row : ∀ i : Int, 0 ≤ i → i < 12 → (nth [] secs i).length = 12 := fun i h0 h1 => mem_of_all hrow _ (nth_mem [] h0 (by omega))
  have ix : ∀ i : Int, 0 ≤ i → i < 12 → idx secs i = some (nth [] secs i) := fun i h0 h1 => idx_nth [] h0 (by omega)
  have ix2 : ∀ i j : Int, 0 ≤ i → i < 12 → 0 ≤ j → j < 12 → idx (nth [] secs i) j = some (cell secs i j) := fun i j h0 h1 h2 h3 => idx_nth 0 h2 (by have := row i h0 h1; omega)
  refine tot_allX (P := fun i r => ∀ (j : Nat) n, r[j]? = some n → 0 ≤ n ∧ n ≤ 28800 ∧ (i = j → n = 0)) (E := fun y => y ≠ 0) (fun i x hx => ?_) (fun hbd => ?_) fun y hy => tot_some fun h => absurd h hy
  · unfold fishref2_EmptyFault_b2
    refine tot_allX (P := fun j n => 0 ≤ n ∧ n ≤ 28800 ∧ (i = j → n = 0)) (E := fun y => y ≠ 0) (fun j n hn => ?_) (fun h => tot_some h) fun y hy => tot_some hy
    unfold fishref2_EmptyFault_b3
    rw [within_eq']
    simp only [Option.bind_some]
    by_cases q1 : 0 ≤ n ∧ n ≤ 28800
    · rw [decide_eq_true q1, and_ifb]
      simp only [Bool.not_true, ifb_false, Option.bind_some]
      refine tot_ifb (fun q => tot_some n1) fun q => tot_some ⟨q1.1, q1.2, fun e => ?_⟩
      subst e
      simpa using q
    · rw [decide_eq_false q1]; exact tot_some n2
  have hS : SecsOk secs := ⟨h12, row, fun i j h0 h1 h2 h3 => by
      have e1 : secs[i.toNat]? = some (nth [] secs i) := by have := ix i h0 h1; unfold idx at this; rwa [if_pos h0] at this
      have e2 : (nth [] secs i)[j.toNat]? = some (cell secs i j) := by have := ix2 i j h0 h1 h2 h3; unfold idx at this; rwa [if_pos h2] at this
      have := hbd _ _ e1 _ _ e2
      exact ⟨this.1, this.2.1⟩, fun i h0 h1 => by
      have e1 : secs[i.toNat]? = some (nth [] secs i) := by have := ix i h0 h1; unfold idx at this; rwa [if_pos h0] at this
      have e2 : (nth [] secs i)[i.toNat]? = some (cell secs i i) := by have := ix2 i i h0 h1 h0 h1; unfold idx at this; rwa [if_pos h0] at this
      exact (hbd _ _ e1 _ _ e2).2.2 rfl⟩
  refine tot_allN (P := fun a => ∀ b, b < secs.length → ∀ c, c < secs.length → cell secs (a : Int) (c : Int) ≤ cell secs (a : Int) (b : Int) + cell secs (b : Int) (c : Int)) (E := fun y => y ≠ 0) (fun a ha => ?_) (fun htri => ?_) fun y hy => tot_some fun h => absurd h hy
  · unfold fishref2_EmptyFault_b4
    refine tot_allN (P := fun b => ∀ c, c < secs.length → cell secs (a : Int) (c : Int) ≤ cell secs (a : Int) (b : Int) + cell secs (b : Int) (c : Int)) (E := fun y => y ≠ 0) (fun b hb => ?_) (fun h => tot_some h) fun y hy => tot_some hy
    unfold fishref2_EmptyFault_b5
    refine tot_allN (P := fun c => cell secs (a : Int) (c : Int) ≤ cell secs (a : Int) (b : Int) + cell secs (b : Int) (c : Int)) (E := fun y => y ≠ 0) (fun c hc => ?_) (fun h => tot_some h) fun y hy => tot_some hy
    have b1 := hS.bd (a : Int) (b : Int) (by omega) (by omega) (by omega) (by omega)
    have b2 := hS.bd (b : Int) (c : Int) (by omega) (by omega) (by omega) (by omega)
    unfold fishref2_EmptyFault_b6
    rw [ix _ (by omega) (by omega)]
    simp only [Option.bind_some]
    rw [ix2 _ _ (by omega) (by omega) (by omega) (by omega)]
    simp only [Option.bind_some]
    rw [ix2 _ _ (by omega) (by omega) (by omega) (by omega), ix (b : Int) (by omega) (by omega)]
    simp only [Option.bind_some]
    rw [ix2 _ _ (by omega) (by omega) (by omega) (by omega)]
    simp only [Option.bind_some]
    rw [w64_id (by omega) (by omega)]
    refine tot_ifb (fun q => tot_some n1) fun q => tot_some ?_
    have q := of_decide_eq_false q
    show cell secs (a : Int) (c : Int) ≤ cell secs (a : Int) (b : Int) + cell secs (b : Int) (c : Int)
    omega
  refine tot_allX (P := fun _ t => cell secs t.From t.To ≤ t.Arr - t.Dep) (E := fun y => y ≠ 0) (fun i t ht => ?_) (fun hfit => ?_) fun y hy => tot_some fun h => absurd h hy
  · have kt := hok.all t (List.mem_of_getElem? ht)
    have f0 := kt.f0; have f1 := kt.f1; have o0 := kt.o0; have o1 := kt.o1; have d0 := kt.d0; have da := kt.da; have a1 := kt.a1
    unfold fishref2_EmptyFault_b7
    rw [ix _ f0 (by omega)]
    simp only [Option.bind_some]
    rw [ix2 _ _ f0 (by omega) o0 (by omega)]
    simp only [Option.bind_some]
    rw [w64_id (by omega) (by omega)]
    refine tot_ifb (fun q => tot_some n1) fun q => tot_some ?_
    have q := of_decide_eq_false q
    show cell secs t.From t.To ≤ t.Arr - t.Dep
    omega
  · refine tot_some fun _ => ⟨hok, by omega, hS, fun a b c h0 h1 h2 h3 h4 h5 => ?_, mem_of_all hfit⟩
    have := htri a.toNat (by omega) b.toNat (by omega) c.toNat (by omega)
    rw [Int.toNat_of_nonneg h0, Int.toNat_of_nonneg h2, Int.toNat_of_nonneg h4] at this
    exact this
theorem check_ok (h : Empties l turn secs) : fleet_checkSecs l turn secs = some 0 := by
  have hok := h.ok; have hS := h.sok; have h20 := h.len; have h12 := hS.len
  refine tot_eq (?_ : Tot _ (· = (0 : Int)))
  unfold fleet_checkSecs
  rw [turn_ok hok]
  simp only [Option.bind_some]
  rw [show ((0 : Int) != 0) = false from rfl, ifb_false, decide_eq_false (by omega), ifb_false]
  have c1 : slices_ContainsFunc_int_int secs = some false := by
    refine tot_eq (?_ : Tot _ (· = false))
    unfold slices_ContainsFunc_int_int slices_IndexFunc_int_int
    refine tot_bind (P := fun i => i = (-1 : Int)) ?_ fun i _ hi => ?_
    · refine tot_allX (P := fun _ _ => True) (E := fun _ => False) (fun i x hx => ?_) (fun _ => tot_some rfl) (fun _ h => h.elim)
      have hi := (List.getElem?_eq_some_iff.1 hx).1
      have := hS.row (i : Int) (by omega) (by omega)
      rw [nth_nat [] hx] at this
      unfold slices_IndexFunc_int_int_b1 fleet_checkSecs_1
      simp only [Option.bind_some]
      rw [show (((x.length : Nat) : Int) != 12) = false by rw [this]; rfl]
      exact tot_some trivial
    · subst hi; exact tot_some rfl
  rw [c1, show (((secs.length : Nat) : Int) != 12) = false by rw [h12]; rfl]
  simp only [Option.bind_some, ifb_false]
  refine tot_allX (P := fun _ _ => True) (E := fun _ => False) (fun i x hx => ?_) (fun _ => ?_) (fun _ h => h.elim)
  · have hi := (List.getElem?_eq_some_iff.1 hx).1
    have ex : nth [] secs (i : Int) = x := nth_nat [] hx
    have er := hS.row (i : Int) (by omega) (by omega)
    rw [ex] at er
    unfold fleet_checkSecs_b1
    refine tot_allX (P := fun _ _ => True) (E := fun _ => False) (fun j n hn => ?_) (fun _ => tot_some trivial) (fun _ h => h.elim)
    have hj := (List.getElem?_eq_some_iff.1 hn).1
    have ec : cell secs (i : Int) (j : Int) = n := by unfold cell; rw [ex]; exact nth_nat 0 hn
    have bd := hS.bd (i : Int) (j : Int) (by omega) (by omega) (by omega) (by omega)
    rw [ec] at bd
    unfold fleet_checkSecs_b2
    rw [within_eq, decide_eq_true bd, and_ifb]
    simp only [Option.bind_some, Bool.not_true, ifb_false]
    have : ((((i : Nat) : Int) == ((j : Nat) : Int)) && (n != 0)) = false := by
      by_cases e : i = j
      · subst e
        have := hS.di (i : Int) (by omega) (by omega)
        rw [ec] at this
        simp [this]
      · have : ((i : Nat) : Int) ≠ ((j : Nat) : Int) := by omega
        simp [this]
    rw [this]
    exact tot_some trivial
  refine tot_allN (P := fun _ => True) (E := fun _ => False) (fun a ha => ?_) (fun _ => ?_) (fun _ h => h.elim)
  · unfold fleet_checkSecs_b3
    refine tot_allN (P := fun _ => True) (E := fun _ => False) (fun b hb => ?_) (fun _ => tot_some trivial) (fun _ h => h.elim)
    unfold fleet_checkSecs_b4
    refine tot_allN (P := fun _ => True) (E := fun _ => False) (fun c hc => ?_) (fun _ => tot_some trivial) (fun _ h => h.elim)
    have b1 := hS.bd (a : Int) (b : Int) (by omega) (by omega) (by omega) (by omega)
    have b2 := hS.bd (b : Int) (c : Int) (by omega) (by omega) (by omega) (by omega)
    have tr := h.tri (a : Int) (b : Int) (c : Int) (by omega) (by omega) (by omega) (by omega) (by omega) (by omega)
    unfold fleet_checkSecs_b5
    rw [hS.idx (i := (a : Int)) (by omega) (by omega)]
    simp only [Option.bind_some]
    rw [hS.idx2 (by omega) (by omega) (by omega) (by omega)]
    simp only [Option.bind_some]
    rw [hS.idx2 (by omega) (by omega) (by omega) (by omega), hS.idx (i := (b : Int)) (by omega) (by omega)]
    simp only [Option.bind_some]
    rw [hS.idx2 (by omega) (by omega) (by omega) (by omega)]
    simp only [Option.bind_some]
    rw [w64_id (by omega) (by omega), decide_eq_false (by omega)]
    exact tot_some trivial
  · refine tot_bind (P := fun b => b = false) ?_ fun b _ hb => by subst hb; exact tot_some rfl
    unfold slices_ContainsFunc_fleet_Task_fleet_Task slices_IndexFunc_fleet_Task_fleet_Task
    refine tot_bind (P := fun i => i = (-1 : Int)) ?_ fun i _ hi => by subst hi; exact tot_some rfl
    refine tot_allX (P := fun _ _ => True) (E := fun _ => False) (fun i t ht => ?_) (fun _ => tot_some rfl) (fun _ h => h.elim)
    have hm := List.mem_of_getElem? ht
    have kt := hok.all t hm
    have f0 := kt.f0; have f1 := kt.f1; have o0 := kt.o0; have o1 := kt.o1; have d0 := kt.d0; have da := kt.da; have a1 := kt.a1
    have ft := h.fit t hm
    unfold slices_IndexFunc_fleet_Task_fleet_Task_b1 fleet_checkSecs_2
    simp only [Option.bind_some]
    rw [hS.idx f0 (by omega)]
    simp only [Option.bind_some]
    rw [hS.idx2 f0 (by omega) o0 (by omega)]
    simp only [Option.bind_some]
    rw [w64_id (by omega) (by omega), decide_eq_false (by omega)]
    exact tot_some trivial

/-! ### one unit each; no empty runs -/
def single (t : S_fleet_Task) : S_fleet_Task := ⟨t.From, t.To, t.Dep, t.Arr, t.Km, 1⟩
theorem single_ok (h : Empties l turn secs) : Empties (l.map single) turn secs := by
  have hok := h.ok
  refine ⟨⟨⟨by rw [List.length_map]; exact hok.len, fun t ht => ?_⟩, hok.t0, hok.t1⟩, by rw [List.length_map]; exact h.len, h.sok, h.tri, fun t ht => ?_⟩
  · obtain ⟨x, hx, rfl⟩ := List.mem_map.1 ht
    have k := hok.all x hx
    exact ⟨k.f0, k.f1, k.o0, k.o1, k.d0, k.da, k.a1, k.k0, k.k1, by show (1 : Int) ≤ 1; omega, by show (1 : Int) ≤ 4; omega⟩
  · obtain ⟨x, hx, rfl⟩ := List.mem_map.1 ht
    exact h.fit x hx
def none_ : List (List Int) := List.replicate 12 (List.replicate 12 0)
theorem none_cell {i j : Int} (h0 : 0 ≤ i) (h1 : i < 12) (h2 : 0 ≤ j) (h3 : j < 12) : cell none_ i j = 0 := by
  unfold cell none_
  rw [nth_replicate h0 h1, nth_replicate h2 h3]
theorem none_ok (h : Empties l turn secs) : Empties l turn none_ := by
  have hok := h.ok
  refine ⟨hok, h.len, ⟨rfl, fun i h0 h1 => by unfold none_; rw [nth_replicate h0 h1]; rfl, fun i j h0 h1 h2 h3 => by rw [none_cell h0 h1 h2 h3]; omega, fun i h0 h1 => none_cell h0 h1 h0 h1⟩, fun a b c h0 h1 h2 h3 h4 h5 => ?_, fun t ht => ?_⟩
  · rw [none_cell h0 h1 h4 h5, none_cell h0 h1 h2 h3, none_cell h2 h3 h4 h5]; omega
  · have k := hok.all t ht
    have := k.f0; have := k.f1; have := k.o0; have := k.o1; have := k.da
    rw [none_cell (by omega) (by omega) (by omega) (by omega)]; omega
end
theorem awake : fishkeep2_awakeFleet = some true := by kernel_rfl
theorem sets_ : fishkeep2_sets = some true := by kernel_rfl
theorem law : Go.Proofs.Ytmhpeefjjclpfaa.FleetEmpties.FleetEmptiesLaw := by
  intro l0 turn secs _ _ hsecs
  refine tot_eq (?_ : Tot _ (· = true))
  unfold fishkeep2_FleetEmpties
  rw [awake, sets_]
  simp only [Option.bind_some, Bool.not_true, ifb_false]
  refine tot_bind (empty_ok hsecs) fun e _ he => ?_
  refine tot_ifb (fun _ => tot_some rfl) fun q => ?_
  have q : e = 0 := by simpa using q
  have h0 := he q
  have hlen := h0.len
  refine tot_loopX (I := fun i s => s = (l0.take i).map single) (J := fun s => s = l0.map single) (E := fun _ => False) rfl (fun i x s hx hI => ?_) (fun s hI => by rw [hI, List.take_length]) (fun s hs => ?_) (fun _ h => h.elim)
  · subst hI
    obtain ⟨hi, hxe⟩ := List.getElem?_eq_some_iff.1 hx
    unfold fishkeep2_FleetEmpties_b1
    rw [gapp_eq (by simp only [apRoom, List.length_singleton, List.length_map, List.length_take]; omega) (by simp only [maxLen, List.length_singleton, List.length_map, List.length_take]; omega)]
    refine tot_some ?_
    show _ = (l0.take (i + 1)).map single
    rw [List.take_succ_eq_append_getElem hi, hxe, List.map_append]; rfl
  subst hs
  have hE := single_ok h0
  have hun : ∀ j : Nat, j < (l0.map single).length → units (l0.map single) j = 1 := fun j hj => by
    unfold units tk
    rw [nth_get tz hj, List.getElem_map]; rfl
  generalize l0.map single = l at hE hun
  have hok := hE.ok
  have hll := hE.len
  refine tot_bind (covers_ok hok hE.len hE.sok (check_ok hE)) fun x _ hx => ?_
  obtain ⟨x0, nex, pre, hF, hxl⟩ := hx
  refine tot_bind (turns_ok hok) fun y _ hy => ?_
  obtain ⟨y0, hT⟩ := hy
  have em : gmakec 24 12 12 ([] : List Int) = some (List.replicate 12 []) := by unfold gmakec; rw [if_pos (by decide)]; rfl
  have er : gmakec 8 12 12 (0 : Int) = some (List.replicate 12 0) := by unfold gmakec; rw [if_pos (by decide)]; rfl
  rw [em]
  simp only [Option.bind_some]
  have e12 : (List.replicate 12 ([] : List Int)).length = 12 := rfl
  rw [e12]
  refine tot_loopN (I := fun i s => s.length = 12 ∧ ∀ j : Nat, j < i → nth [] s (j : Int) = List.replicate 12 0) (J := fun s => s = none_) (E := fun _ => False) ⟨rfl, fun j h => by omega⟩ (fun i s hi hI => ?_) (fun s hI => ?_) (fun s hs => ?_) (fun _ h => h.elim)
  · obtain ⟨i1, i2⟩ := hI
    unfold fishkeep2_FleetEmpties_b2
    rw [er]
    simp only [Option.bind_some]
    rw [idx_nth [] (xs := s) (by omega) (by omega)]
    refine tot_some ⟨by rw [setI_length]; exact i1, fun j hj => ?_⟩
    rw [nth_setI [] (by omega) (by omega) (by omega)]
    by_cases e : j = i
    · rw [if_pos (by omega)]
    · rw [if_neg (by omega)]; exact i2 j (by omega)
  · obtain ⟨i1, i2⟩ := hI
    refine List.ext_getElem (by simp [none_, i1]) fun i a b => ?_
    have := i2 i (by omega)
    rw [nth_get [] a] at this
    rw [this]; exact (List.getElem_replicate b).symm
  subst hs
  have hN := none_ok hE
  refine tot_bind (covers_ok hok hN.len hN.sok (check_ok hN)) fun z _ hz => ?_
  obtain ⟨z0, nex', pre', hF', hzl⟩ := hz
  have xy : x.2.length ≤ y.1.length := by
    have := turns_ge hF (T := y.1) (fun t ht e => by have := (hT.ch t ht).ne; rw [e] at this; simp at this) (fun t ht v hv => ?_) (fun t ht i h0 h1 => ?_) fun j hj => by rw [hT.cnt j hj, hun j hj]
    · omega
    · obtain ⟨k, hk⟩ := List.getElem?_of_mem hv
      have := (hT.ch t ht).ix (k : Int) (by omega) (by have := (List.getElem?_eq_some_iff.1 hk).1; omega)
      rwa [nth_nat 0 hk] at this
    · have c := hT.ch t ht
      have h2 := c.nx i h0 h1
      have r1 := c.ix i h0 (by omega); have r2 := c.ix (i + 1) (by omega) h1
      have k1 := hok.at r1.1 r1.2
      have d := hE.sok.di (tk l (nth 0 t i)).To k1.o0 (by have := k1.o1; omega)
      unfold aft
      rw [show (((nth 0 t i).toNat : Nat) : Int) = nth 0 t i by omega, show (((nth 0 t (i + 1)).toNat : Nat) : Int) = nth 0 t (i + 1) by omega, h2.1, d]
      exact decide_eq_true (by have := h2.2; omega)
  have zx : z.2.length ≤ x.2.length := by
    have := unm_more hF hF' fun a b ha hb hab => by
      have hab := of_decide_eq_true hab
      have ka := hok.at (i := (a : Int)) (by omega) (by omega)
      have kb := hok.at (i := (b : Int)) (by omega) (by omega)
      have o0 := ka.o0; have o1 := ka.o1; have f0 := kb.f0; have f1 := kb.f1
      have bd := hE.sok.bd (tk l a).To (tk l b).From o0 (by omega) f0 (by omega)
      unfold aft
      rw [none_cell o0 (by omega) f0 (by omega)]
      exact decide_eq_true (by omega)
    omega
  rw [x0, y0, z0, show ((0 : Int) == 0) = true from rfl, ifb_true, ifb_true, ifb_true, decide_eq_true (show ((x.2.length : Nat) : Int) ≤ ((y.1.length : Nat) : Int) by omega), ifb_true, decide_eq_true (show ((z.2.length : Nat) : Int) ≤ ((x.2.length : Nat) : Int) by omega)]
  exact tot_some rfl
end Fm
namespace Go.Proofs.Ytmhpeefjjclpfaa
theorem fleetEmpties_proved : Rows.FleetEmptiesSaid := FleetEmpties.close Fm.law
end Go.Proofs.Ytmhpeefjjclpfaa
