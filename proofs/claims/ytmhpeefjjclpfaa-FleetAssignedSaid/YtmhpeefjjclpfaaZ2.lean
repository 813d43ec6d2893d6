/- FleetAssigned: the search for turns of sets. -/
import Derived.Test.YtmhpeefjjclpfaaZ1
set_option linter.unusedVariables false
set_option linter.unusedSimpArgs false
set_option maxRecDepth 100000
namespace Fl
open Go Hk Hd Pl Hs

/-- a set may take a task -/
def Fit (l : List S_fleet_Task) (turn : Int) (sets : List S_fleet_Set) (T : List (List Int)) (s k : Int) : Prop :=
  (nth [] T s = [] → (tk l k).From = (nth xz sets s).Home) ∧ (nth [] T s ≠ [] → Avail l turn k (nth [] T s))
/-- what a search comes to -/
inductive Gv (l : List S_fleet_Task) (turn : Int) (sets : List S_fleet_Set) (o : List Int) : Int → Int → Int → List (List Int) → List (List Int) → Prop
  | fin {i many from_ : Int} {T : List (List Int)} : i = o.length → Gv l turn sets o i many from_ T T
  | next {i many from_ : Int} {T F : List (List Int)} : i < o.length → many = (tk l (nth (-1) o i)).Units → Gv l turn sets o (i + 1) 0 0 T F → Gv l turn sets o i many from_ T F
  | put {i many from_ s : Int} {T F : List (List Int)} : i < o.length → many ≠ (tk l (nth (-1) o i)).Units → 0 ≤ s → from_ ≤ s → s < sets.length → Fit l turn sets T s (nth (-1) o i) →
      Gv l turn sets o i (many + 1) (s + 1) (setI T s (nth [] T s ++ [nth (-1) o i])) F → Gv l turn sets o i many from_ T F
theorem nth_app {α : Type} (z : α) {a b : List α} {i : Int} (h0 : 0 ≤ i) (h1 : i < a.length) : nth z (a ++ b) i = nth z a i := by
  unfold nth; rw [List.getElem?_append_left (by omega)]
theorem nth_end {α : Type} (z : α) {a : List α} {x : α} : nth z (a ++ [x]) (a.length : Int) = x := by
  unfold nth; rw [List.getElem?_append_right (by omega)]; simp
theorem Gv.more {l : List S_fleet_Task} {turn : Int} {sets : List S_fleet_Set} {o : List Int} (x : S_fleet_Set) {i many from_ : Int} {T F : List (List Int)} (h : Gv l turn sets o i many from_ T F) :
    T.length = sets.length → Gv l turn (sets ++ [x]) o i many from_ (T ++ [[]]) (F ++ [[]]) := by
  induction h with
  | fin h => intro _; exact .fin h
  | next h1 h2 _ ih => intro hT; exact .next h1 h2 (ih hT)
  | @put i many from_ s T F h1 h2 h3 h4 h5 h6 _ ih =>
    intro hT
    have e1 : nth [] (T ++ [[]]) s = nth [] T s := nth_app [] h3 (by omega)
    have e2 : nth xz (sets ++ [x]) s = nth xz sets s := nth_app xz h3 (by omega)
    refine .put h1 h2 h3 h4 (by simp; omega) ?_ ?_
    · unfold Fit; rw [e1, e2]; exact h6
    · have := ih (by rw [setI_length]; exact hT)
      rw [e1]
      have e3 : setI (T ++ [[]]) s (nth [] T s ++ [nth (-1) o i]) = setI T s (nth [] T s ++ [nth (-1) o i]) ++ [[]] := by
        unfold setI; rw [List.set_append_left _ _ (by omega)]
      rw [e3]; exact this

section
variable {l : List S_fleet_Task} {turn : Int} {sets : List S_fleet_Set} {s : S_fleet_Shop} {o : List Int}
def cntT (T : List (List Int)) (j : Nat) : Int := sL (fun t => (t.count (j : Int) : Int)) T
/-- how often a task has been given -/
def Pl (l : List S_fleet_Task) (o : List Int) (i many : Int) (j : Nat) : Int := if (j : Int) ∈ o.take i.toNat then units l j else if nth (-1) o i = j then many else 0
structure At (l : List S_fleet_Task) (turn : Int) (sets : List S_fleet_Set) (o : List Int) (i many from_ : Int) (T : List (List Int)) : Prop where
  tn : Tn l turn sets T
  i0 : 0 ≤ i
  i1 : i ≤ o.length
  m0 : 0 ≤ many
  mi : i < o.length → many ≤ (tk l (nth (-1) o i)).Units
  f0 : 0 ≤ from_
  f1 : from_ ≤ sets.length
  cnt : ∀ j : Nat, j < l.length → cntT T j = Pl l o i many j
structure OOk (l : List S_fleet_Task) (o : List Int) : Prop where
  p : o.Perm (ints l.length)
theorem OOk.len (h : OOk l o) : o.length = l.length := by rw [h.p.length_eq]; simp [ints]
theorem OOk.nodup (h : OOk l o) : o.Nodup := h.p.nodup_iff.2 (nodup_ints _)
theorem OOk.mem (h : OOk l o) {x : Int} : x ∈ o ↔ 0 ≤ x ∧ x < l.length := by rw [h.p.mem_iff]; exact mem_ints
theorem OOk.at (h : OOk l o) {i : Int} (h0 : 0 ≤ i) (h1 : i < o.length) : 0 ≤ nth (-1) o i ∧ nth (-1) o i < l.length := h.mem.1 (nth_mem (-1) h0 h1)
theorem take_next {i : Int} (h0 : 0 ≤ i) (h1 : i < o.length) : o.take (i + 1).toNat = o.take i.toNat ++ [nth (-1) o i] := by
  rw [show (i + 1).toNat = i.toNat + 1 by omega, List.take_succ_eq_append_getElem (by omega)]
  unfold nth; rw [List.getElem?_eq_getElem (by omega)]; rfl
theorem notin {i : Int} {j : Int} (h1 : j ∉ o.take i.toNat) (h2 : nth (-1) o i ≠ j) : j ∉ o.take i.toNat ++ [nth (-1) o i] := fun h => by
  rcases List.mem_append.1 h with h | h
  · exact h1 h
  · exact h2 (List.mem_singleton.1 h).symm
theorem At.next {i many from_ : Int} {T : List (List Int)} (hl : TasksOk l) (ho : OOk l o) (h : At l turn sets o i many from_ T) (hi : i < o.length) (hm : many = (tk l (nth (-1) o i)).Units) : At l turn sets o (i + 1) 0 0 T where
  tn := h.tn
  i0 := by have := h.i0; omega
  i1 := by omega
  m0 := by omega
  mi hi2 := by
    have hk := ho.at (i := i + 1) (by have := h.i0; omega) hi2
    have := (hl.at hk.1 hk.2).u0
    omega
  f0 := by omega
  f1 := by omega
  cnt j hj := by
    rw [h.cnt j hj]
    unfold Pl
    rw [take_next h.i0 hi]
    by_cases q : (j : Int) ∈ o.take i.toNat
    · rw [if_pos q, if_pos (List.mem_append_left _ q)]
    · rw [if_neg q]
      by_cases q2 : nth (-1) o i = j
      · rw [if_pos q2, if_pos (by simp [q2]), hm, q2]; rfl
      · rw [if_neg q2, if_neg (notin q q2)]
        split <;> rfl
theorem not_before (ho : OOk l o) {i : Int} (h0 : 0 ≤ i) (h1 : i < o.length) : nth (-1) o i ∉ o.take i.toNat := fun h => by
  obtain ⟨j, hj, e⟩ := List.mem_iff_getElem.1 h
  rw [List.length_take] at hj
  rw [List.getElem_take] at e
  have e2 : o[i.toNat]? = some (nth (-1) o i) := by unfold nth; rw [List.getElem?_eq_getElem (by omega)]; rfl
  have e1 : o[j]? = some (nth (-1) o i) := by rw [List.getElem?_eq_getElem (by omega), e]
  have := nodup_at ho.nodup e1 e2
  omega
theorem At.put {i many from_ s : Int} {T : List (List Int)} (ho : OOk l o) (h : At l turn sets o i many from_ T) (hi : i < o.length) (hm : many ≠ (tk l (nth (-1) o i)).Units) (h0 : 0 ≤ s) (h1 : s < sets.length) (hf : Fit l turn sets T s (nth (-1) o i)) :
    At l turn sets o i (many + 1) (s + 1) (setI T s (nth [] T s ++ [nth (-1) o i])) where
  tn := by
    have hTl := h.tn.len
    have hk := ho.at h.i0 hi
    have key : ∀ i' : Nat, i' < T.length → nth [] (setI T s (nth [] T s ++ [nth (-1) o i])) (i' : Int) = if (i' : Int) = s then nth [] T s ++ [nth (-1) o i] else nth [] T i' := fun i' hi' => nth_setI [] h0 (by omega) (by omega)
    obtain ⟨s', rfl⟩ : ∃ s' : Nat, s = s' := ⟨s.toNat, by omega⟩
    have hch := h.tn.ch s' (by omega)
    refine ⟨by rw [setI_length]; exact hTl, fun i' hi' => ?_, fun i' hi' => ?_⟩
    · rw [setI_length] at hi'
      rw [key i' hi']
      by_cases q : (i' : Int) = s'
      · rw [if_pos q]; exact hch.snoc hk hf.2
      · rw [if_neg q]; exact h.tn.ch i' hi'
    · rw [setI_length] at hi'
      rw [key i' hi']
      by_cases q : (i' : Int) = s'
      · rw [if_pos q]
        intro _
        by_cases q2 : nth [] T (s' : Int) = []
        · rw [q2, q]; exact hf.1 q2
        · rw [head_snoc (List.length_pos_iff.2 q2), q]; exact h.tn.hm s' (by omega) q2
      · rw [if_neg q]; exact h.tn.hm i' hi'
  i0 := h.i0
  i1 := h.i1
  m0 := by have := h.m0; omega
  mi _ := by have := h.mi hi; omega
  f0 := by omega
  f1 := by omega
  cnt j hj := by
    have hTl := h.tn.len
    have e := sL_setI [] (fun t : List Int => (t.count (j : Int) : Int)) (nth [] T s ++ [nth (-1) o i]) (l := T) h0 (by omega)
    unfold cntT
    rw [e]
    have hc := h.cnt j hj
    unfold cntT at hc
    rw [hc]
    unfold Pl
    have hnb := not_before ho h.i0 hi
    simp only [List.count_append, List.count_singleton, beq_iff_eq]
    by_cases q2 : nth (-1) o i = j
    · rw [q2] at hnb
      rw [if_neg hnb, if_neg hnb, if_pos q2, if_pos q2, if_pos q2]; omega
    · rw [if_neg q2, if_neg q2, if_neg q2]; omega
/-- how much there is to be done -/
def wt (l : List S_fleet_Task) (o : List Int) (n : Nat) : Int := sumN (fun p => (tk l (nth (-1) o (p : Int))).Units + 1) n
def mu (l : List S_fleet_Task) (o : List Int) (i many : Int) : Nat := (wt l o o.length - wt l o i.toNat - many).toNat
theorem wt_bd (hl : TasksOk l) (ho : OOk l o) : ∀ {a b : Nat}, a ≤ b → b ≤ o.length → wt l o a ≤ wt l o b ∧ wt l o b ≤ wt l o a + 5 * (b - a)
  | a, 0, h, _ => by have : a = 0 := by omega
                     subst this; exact ⟨by omega, by omega⟩
  | a, b + 1, h, hb => by
    by_cases q : a = b + 1
    · subst q; exact ⟨by omega, by omega⟩
    · have ih := wt_bd hl ho (a := a) (b := b) (by omega) (by omega)
      have hk := ho.at (i := (b : Int)) (by omega) (by omega)
      have ht := hl.at hk.1 hk.2
      have := ht.u0; have := ht.u1
      have e : wt l o (b + 1) = wt l o b + ((tk l (nth (-1) o (b : Int))).Units + 1) := rfl
      rw [e]; omega
theorem mu_next {i many from_ : Int} {T : List (List Int)} (hl : TasksOk l) (ho : OOk l o) (h : At l turn sets o i many from_ T) (hi : i < o.length) (hm : many = (tk l (nth (-1) o i)).Units) : mu l o (i + 1) 0 < mu l o i many := by
  have h0 := h.i0
  have e : wt l o (i + 1).toNat = wt l o i.toNat + ((tk l (nth (-1) o i)).Units + 1) := by
    rw [show (i + 1).toNat = i.toNat + 1 by omega]
    show wt l o i.toNat + ((tk l (nth (-1) o (i.toNat : Int))).Units + 1) = _
    rw [show ((i.toNat : Nat) : Int) = i by omega]
  have hb := wt_bd hl ho (a := (i + 1).toNat) (b := o.length) (by omega) (by omega)
  unfold mu
  omega
theorem mu_put {i many from_ : Int} {T : List (List Int)} (hl : TasksOk l) (ho : OOk l o) (h : At l turn sets o i many from_ T) (hi : i < o.length) : mu l o i (many + 1) < mu l o i many := by
  have h0 := h.i0
  have e : wt l o (i + 1).toNat = wt l o i.toNat + ((tk l (nth (-1) o i)).Units + 1) := by
    rw [show (i + 1).toNat = i.toNat + 1 by omega]
    show wt l o i.toNat + ((tk l (nth (-1) o (i.toNat : Int))).Units + 1) = _
    rw [show ((i.toNat : Nat) : Int) = i by omega]
  have hb := wt_bd hl ho (a := (i + 1).toNat) (b := o.length) (by omega) (by omega)
  have hm := h.mi hi
  unfold mu
  omega
/-- what a search comes to is what was asked for -/
theorem Gv.fits {i many from_ : Int} {T F : List (List Int)} (hl : TasksOk l) (ho : OOk l o) (h : Gv l turn sets o i many from_ T F) : At l turn sets o i many from_ T → Tn l turn sets F ∧ ∀ j : Nat, j < l.length → cntT F j = units l j := by
  induction h with
  | fin h =>
    intro hA
    refine ⟨hA.tn, fun j hj => ?_⟩
    rw [hA.cnt j hj]
    unfold Pl
    rw [if_pos]
    rw [h, show ((o.length : Int)).toNat = o.length by omega, List.take_length]
    exact ho.mem.2 ⟨by omega, by omega⟩
  | next h1 h2 _ ih => intro hA; exact ih (hA.next hl ho h1 h2)
  | put h1 h2 h3 h4 h5 h6 _ ih => intro hA; exact ih (hA.put ho h1 h2 h3 h5 h6)

/-! ### the best -/
def BI (l : List S_fleet_Task) (sets : List S_fleet_Set) (s : S_fleet_Shop) (S : List (List Int) → Prop) (b : Option (List (List Int))) (m : Int) : Prop :=
  (b = none ∧ ∀ F, S F → ¬ Good l sets s F) ∨ ∃ B, b = some B ∧ S B ∧ Good l sets s B ∧ cost l sets s B = m ∧ ∀ F, S F → Good l sets s F → m ≤ cost l sets s F
theorem BI.cong {S S' : List (List Int) → Prop} {b : Option (List (List Int))} {m : Int} (h : BI l sets s S b m) (hs : ∀ F, S F ↔ S' F) : BI l sets s S' b m := by
  rcases h with ⟨h1, h2⟩ | ⟨B, h1, h2, h3, h4, h5⟩
  · exact .inl ⟨h1, fun F hF => h2 F ((hs F).2 hF)⟩
  · exact .inr ⟨B, h1, (hs B).1 h2, h3, h4, fun F hF => h5 F ((hs F).2 hF)⟩
abbrev Ns := List S_fleet_Task × Int × List S_fleet_Set × Int × Int × Int × Option (List (List Int)) × Int
def ns (l : List S_fleet_Task) (turn : Int) (sets : List S_fleet_Set) (s : S_fleet_Shop) (b : Option (List (List Int))) (m : Int) : Ns := (l, turn, sets, s.Place, s.Long, s.Limit, b, m)
theorem note_ok (hok : Ok l turn) (hsets : SetsOk sets s 6) {F : List (List Int)} (h : Tn l turn sets F) {S : List (List Int) → Prop} {b : Option (List (List Int))} {m : Int} (hb : BI l sets s S b m) :
    Tot (fleet_giver_note l turn sets s.Place s.Long s.Limit o F b m) fun r => ∃ b' m', r = ns l turn sets s b' m' ∧ BI l sets s (fun G => S G ∨ G = F) b' m' := by
  have hFl := h.len
  have hsl := hsets.len
  have hpos : ∀ i : Nat, i < F.length → fleet_positions l (nth [] F (i : Int)) (nth xz sets (i : Int)) s = some (pOf l s (nth xz sets (i : Int)) (nth [] F (i : Int))) ∧ (pOf l s (nth xz sets (i : Int)) (nth [] F (i : Int))).2.length ≤ 200 := fun i hi => by
    have hch := h.ch i hi
    have hxo : SetOk (nth xz sets (i : Int)) s := hsets.all _ (nth_mem xz (by omega) (by omega))
    have hp := pos_eq hok.toTasksOk hch hsets.shop hxo (by have := ch_len hok hch; omega)
    exact ⟨hp.1, hp.2.1⟩
  have hsum : ∀ i : Nat, i ≤ F.length → 0 ≤ sumN (fun i => ((pOf l s (nth xz sets (i : Int)) (nth [] F (i : Int))).2.length : Int)) i ∧ sumN (fun i => ((pOf l s (nth xz sets (i : Int)) (nth [] F (i : Int))).2.length : Int)) i ≤ i * 200 := fun i hi => by
    refine ⟨sumN_pos fun j hj => by omega, ?_⟩
    have := sumN_le (f := fun i => ((pOf l s (nth xz sets (i : Int)) (nth [] F (i : Int))).2.length : Int)) (g := fun _ => 200) (n := i) fun j hj => by have := (hpos j (by omega)).2; omega
    rw [sumN_const] at this
    exact this
  unfold fleet_giver_note
  refine tot_loopX (I := fun i v => v = sumN (fun i => ((pOf l s (nth xz sets (i : Int)) (nth [] F (i : Int))).2.length : Int)) i ∧ ∀ j : Nat, j < i → (pOf l s (nth xz sets (j : Int)) (nth [] F (j : Int))).1 = true) (J := fun v => v = cost l sets s F ∧ Good l sets s F) (E := fun r => r = ns l turn sets s b m ∧ ¬ Good l sets s F)
    ⟨rfl, fun j hj => by omega⟩ (fun i t v ht hI => ?_) (fun v hI => hI) (fun v hJ => ?_) (fun r hr => ?_)
  · obtain ⟨rfl, hI⟩ := hI
    have hi := (List.getElem?_eq_some_iff.1 ht).1
    have et : nth [] F (i : Int) = t := nth_nat [] ht
    have hp := hpos i hi
    have hs1 := hsum i (by omega)
    unfold fleet_giver_note_b1
    refine tot_bind' (idx_nth xz (by omega) (by omega)) ?_
    refine tot_bind' (x := pOf l s (nth xz sets (i : Int)) (nth [] F (i : Int))) (by rw [← et]; exact hp.1) ?_
    refine tot_ifb (fun q => ?_) fun q => ?_
    · have q : (pOf l s (nth xz sets (i : Int)) (nth [] F (i : Int))).1 = false := by simpa using q
      exact tot_some ⟨rfl, fun hg => by rw [hg i hi] at q; cases q⟩
    · have q : (pOf l s (nth xz sets (i : Int)) (nth [] F (i : Int))).1 = true := by simpa using q
      rw [w64_id (by omega) (by omega)]
      refine tot_some ⟨rfl, fun j hj => ?_⟩
      by_cases e : j = i
      · subst e; exact q
      · exact hI j (by omega)
  · obtain ⟨rfl, hg⟩ := hJ
    refine tot_bind (P := fun c : Bool => c = true ↔ b = none ∨ cost l sets s F < m) ?_ fun c _ hc => ?_
    · refine tot_ifb (fun q => ?_) fun q => ?_
      · exact tot_some ⟨fun _ => .inl (Option.isNone_iff_eq_none.1 q), fun _ => rfl⟩
      · refine tot_some ⟨fun h => .inr (of_decide_eq_true h), fun h => ?_⟩
        rcases h with h | h
        · rw [h] at q; cases q
        · exact decide_eq_true h
    refine tot_ifb (fun q => ?_) fun q => ?_
    · have q := hc.1 q
      have hcl : slices_Clone_int_int_v3 F = some F := by
        unfold slices_Clone_int_int_v3
        rw [gapp_eq (by simp; have : (5000 : Nat) ≤ apRoom := (by decide); omega) (by simp; have : (1000 : Nat) ≤ maxLen := (by decide); omega)]
        rfl
      refine tot_bind' hcl ?_
      refine tot_some ⟨some F, cost l sets s F, rfl, .inr ⟨F, rfl, .inr rfl, hg, rfl, fun G hG hgG => ?_⟩⟩
      rcases hG with hG | rfl
      · rcases hb with ⟨h1, h2⟩ | ⟨B, h1, h2, h3, h4, h5⟩
        · exact absurd hgG (h2 G hG)
        · have := h5 G hG hgG
          rcases q with q | q
          · rw [h1] at q; cases q
          · omega
      · exact Int.le_refl _
    · have q2 : ¬ (b = none ∨ cost l sets s F < m) := fun k => by rw [hc.2 k] at q; cases q
      refine tot_some ⟨b, m, rfl, ?_⟩
      rcases hb with ⟨h1, h2⟩ | ⟨B, h1, h2, h3, h4, h5⟩
      · exact absurd (.inl h1) q2
      · refine .inr ⟨B, h1, .inl h2, h3, h4, fun G hG hgG => ?_⟩
        rcases hG with hG | rfl
        · exact h5 G hG hgG
        · by_cases k : m ≤ cost l sets s G
          · exact k
          · exact absurd (.inr (by omega)) q2
  · obtain ⟨rfl, hg⟩ := hr
    refine tot_some ⟨b, m, rfl, ?_⟩
    rcases hb with ⟨h1, h2⟩ | ⟨B, h1, h2, h3, h4, h5⟩
    · exact .inl ⟨h1, fun G hG => by
        rcases hG with hG | rfl
        · exact h2 G hG
        · exact hg⟩
    · exact .inr ⟨B, h1, .inl h2, h3, h4, fun G hG hgG => by
        rcases hG with hG | rfl
        · exact h5 G hG hgG
        · exact absurd hgG hg⟩
end
end Fl

/- FleetAssigned: give. -/
set_option linter.unusedVariables false
set_option linter.unusedSimpArgs false
set_option maxRecDepth 100000
namespace Fl
open Go Hk Hd Pl Hs

section
variable {l : List S_fleet_Task} {turn : Int} {sets : List S_fleet_Set} {s : S_fleet_Shop} {o : List Int}
abbrev Rs := List (List Int) × Ns
abbrev Rec := Int → Int → Int → List S_fleet_Task → Int → List S_fleet_Set → Int → Int → Int → List Int → List (List Int) → Option (List (List Int)) → Int → Option Rs
def call (R : Rec) (l : List S_fleet_Task) (turn : Int) (sets : List S_fleet_Set) (s : S_fleet_Shop) (o : List Int) (i many from_ : Int) (T : List (List Int)) (b : Option (List (List Int))) (m : Int) : Option Rs := R i many from_ l turn sets s.Place s.Long s.Limit o T b m
def Ans (l : List S_fleet_Task) (turn : Int) (sets : List S_fleet_Set) (s : S_fleet_Shop) (T : List (List Int)) (S : List (List Int) → Prop) (r : Rs) : Prop := ∃ b' m', r = (T, ns l turn sets s b' m') ∧ BI l sets s S b' m'
theorem b1_ok {m0 : Nat} {R : Rec} {i many from_ v : Int} {T : List (List Int)} {S : List (List Int) → Prop} {b : Option (List (List Int))} {m : Int} (hok : Ok l turn) (hsets : SetsOk sets s 6) (ho : OOk l o) (h : At l turn sets o i many from_ T) (hi : i < o.length) (hm : many ≠ (tk l (nth (-1) o i)).Units)
    (hv0 : from_ ≤ v) (hv1 : v < sets.length)
    (hR : ∀ (i many from_ : Int) (T : List (List Int)) (b : Option (List (List Int))) (m' : Int) (S : List (List Int) → Prop), At l turn sets o i many from_ T → mu l o i many < m0 → BI l sets s S b m' → Tot (call R l turn sets s o i many from_ T b m') (Ans l turn sets s T fun F => S F ∨ Gv l turn sets o i many from_ T F))
    (hmu : mu l o i (many + 1) < m0) (hb : BI l sets s S b m) :
    Tot (fleet_giver_give_b1 R i many o (nth (-1) o i) (v, T, ns l turn sets s b m)) fun c => ∃ b' m', c = .go (v + 1, T, ns l turn sets s b' m') ∧
      BI l sets s (fun F => S F ∨ (Fit l turn sets T v (nth (-1) o i) ∧ Gv l turn sets o i (many + 1) (v + 1) (setI T v (nth [] T v ++ [nth (-1) o i])) F)) b' m' := by
  have hTl := h.tn.len
  have hsl := hsets.len
  have f0 := h.f0
  have hk := ho.at h.i0 hi
  have hti := hok.at hk.1 hk.2
  obtain ⟨v', rfl⟩ : ∃ v' : Nat, v = v' := ⟨v.toNat, by omega⟩
  have hch := h.tn.ch v' (by omega)
  have hcl := ch_len hok hch
  have m0' := h.m0
  have hmi := h.mi hi
  have hu1 := hti.u1
  unfold fleet_giver_give_b1 ns
  dsimp only
  rw [show decide ((v' : Int) < (sets.length : Int)) = true from decide_eq_true hv1]
  rw [ifb_true]
  refine tot_bind (P := fun r => ∃ b' m', r = (T, ns l turn sets s b' m') ∧ BI l sets s (fun F => S F ∨ (Fit l turn sets T (v' : Int) (nth (-1) o i) ∧ Gv l turn sets o i (many + 1) ((v' : Int) + 1) (setI T (v' : Int) (nth [] T (v' : Int) ++ [nth (-1) o i])) F)) b' m') ?_ fun r _ hr => ?_
  · refine tot_bind' (x := nth [] T (v' : Int)) (idx_nth [] (by omega) (by omega)) ?_
    refine tot_bind (P := fun c : Bool => c = true ↔ ¬ Fit l turn sets T (v' : Int) (nth (-1) o i)) ?_ fun c _ hc => ?_
    · refine tot_ifb (fun q => ?_) fun q => ?_
      · have q : nth [] T (v' : Int) = [] := by simpa using q
        refine tot_bind' (tk_idx hk.1 hk.2) ?_
        refine tot_bind' (idx_nth xz (by omega) (by omega)) ?_
        refine tot_ifb (fun q2 => ?_) fun q2 => ?_
        · have q2 : (tk l (nth (-1) o i)).From ≠ (nth xz sets (v' : Int)).Home := by simpa using q2
          exact tot_some ⟨fun _ k => q2 (k.1 q), fun _ => rfl⟩
        · have q2 : (tk l (nth (-1) o i)).From = (nth xz sets (v' : Int)).Home := by simpa using q2
          rw [q]
          exact tot_some ⟨fun e => (by cases e), fun k => absurd ⟨fun _ => q2, fun k2 => absurd q k2⟩ k⟩
      · have q : nth [] T (v' : Int) ≠ [] := by simpa using q
        have hlen := List.length_pos_iff.2 q
        refine tot_ifb (fun q2 => ?_) fun q2 => ?_
        · have hp := hch.ix (((nth [] T (v' : Int)).length : Int) - 1) (by omega) (by omega)
          rw [w64_id (x := ((nth [] T (v' : Int)).length : Int) - 1) (by omega) (by omega)]
          refine tot_bind' (idx_nth 0 (by omega) (by omega)) ?_
          refine tot_bind' (tk_idx hp.1 hp.2) ?_
          refine tot_bind' (tk_idx hk.1 hk.2) ?_
          refine tot_bind' (follows_eq _ _ hok.t0 hok.t1 (hok.at hp.1 hp.2)) ?_
          refine tot_some ?_
          rw [Bool.not_eq_true', decide_eq_false_iff_not]
          exact ⟨fun k k2 => k (k2.2 q), fun k k2 => k ⟨fun e => absurd e q, fun _ => k2⟩⟩
        · have q2 := of_decide_eq_false q2
          omega
    refine tot_ifb (fun q => ?_) fun q => ?_
    · have q := hc.1 q
      exact tot_some ⟨b, m, rfl, hb.cong fun F => ⟨.inl, fun h => h.elim id fun h => absurd h.1 q⟩⟩
    have hf : Fit l turn sets T (v' : Int) (nth (-1) o i) := by
      by_cases k : Fit l turn sets T (v' : Int) (nth (-1) o i)
      · exact k
      · rw [hc.2 k] at q; cases q
    refine tot_bind (P := fun y => y = setI T (v' : Int) (nth [] T (v' : Int) ++ [nth (-1) o i])) ?_ fun y _ hy => ?_
    · have hcl2 : slices_Clone_int_int_v4 (nth [] T (v' : Int)) = some (nth [] T (v' : Int)) := by
        unfold slices_Clone_int_int_v4 slices_Clone_int_int_v5
        simp only [Option.isNone_some, ifb_false, Option.getD_some]
        rw [gapp_eq (by simp; have : (1000 : Nat) ≤ apRoom := (by decide); omega) (by simp; have : (1000 : Nat) ≤ maxLen := (by decide); omega)]
        rfl
      refine tot_bind' hcl2 ?_
      refine tot_bind' (gapp_eq (by simp; have : (1000 : Nat) ≤ apRoom := (by decide); omega) (by simp; have : (1000 : Nat) ≤ maxLen := (by decide); omega)) ?_
      refine tot_bind' (idx_nth [] (by omega) (by omega)) ?_
      exact tot_some rfl
    subst hy
    have hA := h.put ho hi hm (s := (v' : Int)) (by omega) hv1 hf
    rw [w64_id (x := many + 1) (by omega) (by omega), w64_id (x := (v' : Int) + 1) (by omega) (by omega)]
    refine tot_bind (hR i (many + 1) ((v' : Int) + 1) _ b m S hA hmu hb) fun r _ hr => ?_
    obtain ⟨b', m', rfl, hb'⟩ := hr
    refine tot_bind' (idx_nth [] (by omega) (by show (v' : Int) < ((setI T (v' : Int) _).length : Int); rw [setI_length]; omega)) ?_
    refine tot_some ⟨b', m', ?_, hb'.cong fun F => ⟨fun h => h.elim .inl fun h => .inr ⟨hf, h⟩, fun h => h.elim .inl fun h => .inr h.2⟩⟩
    have e : setI (setI T (v' : Int) (nth [] T (v' : Int) ++ [nth (-1) o i])) (v' : Int) (nth [] T (v' : Int)) = T := by
      unfold setI
      rw [List.set_set, Int.toNat_natCast, nth_get [] (by omega)]
      all_goals exact List.set_getElem_self _
    show (setI (setI T (v' : Int) (nth [] T (v' : Int) ++ [nth (-1) o i])) (v' : Int) (nth [] T (v' : Int)), _) = _
    rw [e]
    all_goals rfl
  · obtain ⟨b', m', rfl, hb'⟩ := hr
    have e : w64 ((v' : Int) + 1) = (v' : Int) + 1 := w64_id (by omega) (by omega)
    refine tot_some ⟨b', m', ?_, hb'⟩
    show Ctl.go (w64 ((v' : Int) + 1), T, _) = _
    rw [e]
    all_goals rfl
theorem step_ok {R : Rec} {i many from_ : Int} {T : List (List Int)} {S : List (List Int) → Prop} {b : Option (List (List Int))} {m : Int} (hok : Ok l turn) (hsets : SetsOk sets s 6) (ho : OOk l o) (h : At l turn sets o i many from_ T)
    (hR : ∀ (i' many' from_' : Int) (T : List (List Int)) (b : Option (List (List Int))) (m' : Int) (S : List (List Int) → Prop), At l turn sets o i' many' from_' T → mu l o i' many' < mu l o i many → BI l sets s S b m' → Tot (call R l turn sets s o i' many' from_' T b m') (Ans l turn sets s T fun F => S F ∨ Gv l turn sets o i' many' from_' T F))
    (hb : BI l sets s S b m) : Tot (call (fleet_giver_give_step R) l turn sets s o i many from_ T b m) (Ans l turn sets s T fun F => S F ∨ Gv l turn sets o i many from_ T F) := by
  have hol := ho.len
  have hll := hok.len
  have hi0 := h.i0
  have hi1 := h.i1
  have hsl := hsets.len
  unfold call fleet_giver_give_step
  refine tot_ifb (fun q => ?_) fun q => ?_
  · have q : i = o.length := by simpa using q
    refine tot_bind (note_ok hok hsets h.tn hb) fun r _ hr => ?_
    obtain ⟨b', m', rfl, hb'⟩ := hr
    refine tot_some ⟨b', m', rfl, hb'.cong fun F => ⟨fun h => h.elim .inl fun e => .inr (e ▸ .fin q), fun h => h.elim .inl fun h => ?_⟩⟩
    cases h with
    | fin _ => exact .inr rfl
    | next h1 => omega
    | put h1 => omega
  have q : i ≠ o.length := by simpa using q
  have hi : i < o.length := by omega
  have hk := ho.at hi0 hi
  refine tot_bind' (idx_nth (-1) hi0 hi) ?_
  refine tot_bind' (tk_idx hk.1 hk.2) ?_
  refine tot_ifb (fun q1 => ?_) fun q1 => ?_
  · have q1 : many = (tk l (nth (-1) o i)).Units := by simpa using q1
    rw [w64_id (x := i + 1) (by omega) (by omega)]
    refine tot_bind (hR (i + 1) 0 0 T b m S (h.next hok.toTasksOk ho hi q1) (mu_next hok.toTasksOk ho h hi q1) hb) fun r _ hr => ?_
    obtain ⟨b', m', rfl, hb'⟩ := hr
    refine tot_some ⟨b', m', rfl, hb'.cong fun F => ⟨fun h => h.elim .inl fun h => .inr (.next hi q1 h), fun h => h.elim .inl fun h => ?_⟩⟩
    cases h with
    | fin _ => omega
    | next h1 h2 h3 => exact .inr h3
    | put h1 h2 => exact absurd q1 h2
  have q1 : many ≠ (tk l (nth (-1) o i)).Units := by simpa using q1
  refine tot_bind (P := fun c => match c with | .go r => ∃ b' m', r = (T, ns l turn sets s b' m') ∧ BI l sets s (fun F => S F ∨ Gv l turn sets o i many from_ T F) b' m' | .out e => False) ?_ fun c _ hc => ?_
  · refine tot_iter (I := fun st => ∃ v b' m', st = (v, T, ns l turn sets s b' m') ∧ from_ ≤ v ∧ v ≤ sets.length ∧ BI l sets s (fun F => S F ∨ ∃ v', from_ ≤ v' ∧ v' < v ∧ Fit l turn sets T v' (nth (-1) o i) ∧ Gv l turn sets o i (many + 1) (v' + 1) (setI T v' (nth [] T v' ++ [nth (-1) o i])) F) b' m') (μ := fun st => (sets.length - st.1).toNat)
      ⟨from_, b, m, rfl, by omega, h.f1, hb.cong fun F => ⟨.inl, fun h => h.elim id fun ⟨v', h1, h2, _⟩ => by omega⟩⟩ (by have : 1000 < bigN := (by decide); have := h.f0; simp only; omega) ?_
    rintro st ⟨v, b', m', rfl, h1, h2, h3⟩
    have f0 := h.f0
    by_cases q2 : v < sets.length
    · refine tot_mono (b1_ok (m0 := mu l o i many) hok hsets ho h hi q1 h1 q2 hR (mu_put hok.toTasksOk ho h hi) h3) ?_
      rintro c ⟨b2, m2, rfl, h4⟩
      refine ⟨⟨v + 1, b2, m2, rfl, by omega, by omega, h4.cong fun F => ⟨?_, ?_⟩⟩, by simp only; omega⟩
      · rintro ((h | ⟨v', g1, g2, g3⟩) | h)
        · exact .inl h
        · exact .inr ⟨v', g1, by omega, g3⟩
        · exact .inr ⟨v, h1, by omega, h⟩
      · rintro (h | ⟨v', g1, g2, g3⟩)
        · exact .inl (.inl h)
        · by_cases e : v' = v
          · subst e; exact .inr g3
          · exact .inl (.inr ⟨v', g1, by omega, g3⟩)
    · unfold fleet_giver_give_b1 ns
      rw [show decide (v < (sets.length : Int)) = false from decide_eq_false q2, ifb_false]
      refine tot_some ⟨b', m', rfl, h3.cong fun F => ⟨fun h => h.elim .inl fun ⟨v', g1, g2, g3, g4⟩ => .inr (.put hi q1 (by omega) g1 (by omega) g3 g4), fun h => h.elim .inl fun h => ?_⟩⟩
      cases h with
      | fin _ => omega
      | next h1 h2 => exact absurd h2 q1
      | put g1 g2 g3 g4 g5 g6 g7 => exact .inr ⟨_, g4, by omega, g6, g7⟩
  · cases c with
    | out e => exact hc.elim
    | go r =>
      obtain ⟨b', m', rfl, hb'⟩ := hc
      exact tot_some ⟨b', m', rfl, hb'⟩
theorem give_ok (hok : Ok l turn) (hsets : SetsOk sets s 6) (ho : OOk l o) : ∀ (n : Nat) (i many from_ : Int) (T : List (List Int)) (b : Option (List (List Int))) (m : Int) (S : List (List Int) → Prop), At l turn sets o i many from_ T → mu l o i many < n → BI l sets s S b m →
    Tot (call (fleet_giver_give_n n) l turn sets s o i many from_ T b m) (Ans l turn sets s T fun F => S F ∨ Gv l turn sets o i many from_ T F)
  | 0, _, _, _, _, _, _, _, _, h, _ => by omega
  | n + 1, i, many, from_, T, b, m, S, h, hn, hb => step_ok hok hsets ho h (fun i' many' from_' T b m' S h' hm hb => give_ok hok hsets ho n i' many' from_' T b m' S h' (by omega) hb) hb
end
end Fl
