/- What the checks of package run say, and how far a train goes until it is slow enough. -/
import Derived.Test.YtohpilnjebnelaaDoorZP
import Derived.Test.YtohpilnjebnelaaDoorK5
import Derived.Test.YtohpilnjebnelaaDoorZC
set_option linter.unusedVariables false
set_option linter.unusedSimpArgs false
set_option maxRecDepth 100000
namespace Rm
open Go Hk Hd Pl

theorem awake : fishkeep1_awakeRun = some () := by kernel_rfl
theorem within_eq (a b c : Int) : run_within a b c = some (decide (b ≤ a ∧ a ≤ c)) := by
  unfold run_within
  by_cases h1 : a ≥ b <;> by_cases h2 : a ≤ c <;> simp [ifb, h1, h2]
theorem name_tot {s : ByteArray} (h : s.size ≤ maxLen) : Tot (run_name s) fun _ => True := by
  unfold run_name
  refine tot_bind' (x := (sl8 s).map fun b => (b.toNat : Int)) (by unfold sbytes; rw [if_pos (by unfold maxLen at h; omega)]) ?_
  refine tot_allX (P := fun _ _ => True) (E := fun _ => True) (fun i x hx => ?_) (fun _ => ?_) (fun _ _ => tot_some trivial)
  · unfold run_name_b1
    rw [ifb_some, Option.bind_some]
    exact tot_ifb (fun _ => tot_some trivial) (fun _ => tot_some trivial)
  · rw [ifb_some, Option.bind_some]
    exact tot_some trivial
/-- stock that may be -/
structure Stk (p : S_api_Stock) : Prop where
  length : 10 ≤ p.Length ∧ p.Length ≤ 400
  mass : 10 ≤ p.Mass ∧ p.Mass ≤ 2000
  start : 60 ≤ p.Start ∧ p.Start ≤ 150
  power : 10000 ≤ p.Power ∧ p.Power ≤ 2000000
  roll : 0 ≤ p.Roll ∧ p.Roll ≤ 10
  drag : 1000000 ≤ p.Drag ∧ p.Drag ≤ 100000000
  brake : 60 ≤ p.Brake ∧ p.Brake ≤ 150
  top : 500 ≤ p.Top ∧ p.Top ≤ 6000
  seats : 0 ≤ p.Seats ∧ p.Seats ≤ 1000
theorem check_tot {p : S_api_Stock} (h : p.Name.size ≤ maxLen) : Tot (run_Check p) fun r => r = 0 → Stk p := by
  unfold run_Check
  refine tot_bind (name_tot h) fun x _ _ => ?_
  refine tot_ifb (fun _ => tot_some fun h => absurd h (by decide)) fun _ => ?_
  refine tot_bind' (x := ()) rfl ?_
  refine tot_bind' (x := _) rfl ?_
  let num : List Int := [p.Length, p.Mass, p.Start, p.Power, p.Roll, p.Drag, p.Brake, p.Top, p.Seats]
  let bnd : List Int := [10, 400, 10, 2000, 60, 150, 10000, 2000000, 0, 10, 1000000, 100000000, 60, 150, 500, 6000, 0, 1000]
  refine tot_bind (tot_iter (E := fun c => match c with | .go _ => Stk p | .out r => r ≠ 0) (I := fun i => ∃ k : Nat, i = k ∧ k ≤ 9 ∧ ∀ j, j < k → nth 0 bnd (j * 2) ≤ nth 0 num j ∧ nth 0 num j ≤ nth 0 bnd (j * 2 + 1)) (μ := fun i => (9 - i).toNat) ⟨0, rfl, by omega, fun j hj => by omega⟩ (Nat.lt_of_lt_of_le (by decide : (9 - (0 : Int)).toNat < 10) (by decide +kernel)) ?_) fun c _ hc => ?_
  · rintro i ⟨k, rfl, hk, hI⟩
    unfold run_Check_b1
    refine tot_ifb (fun hlt => ?_) fun hge => tot_some ?_
    · have hlt : (k : Int) < 9 := of_decide_eq_true hlt
      refine tot_bind' (idx_nth 0 (xs := num) (by omega) (by show (k : Int) < 9; omega)) ?_
      have g : gix 9 (k : Int) = some () := by unfold gix; rw [if_pos (by omega)]
      rw [g]
      refine tot_bind' rfl (tot_bind' (x := ()) rfl ?_)
      refine tot_bind' (idx_nth 0 (xs := bnd) (by omega) (by show _ < (18 : Int); omega)) ?_
      refine tot_bind' rfl (tot_bind' (x := ()) rfl ?_)
      refine tot_bind' (idx_nth 0 (xs := bnd) (by omega) (by show _ < (18 : Int); omega)) ?_
      rw [within_eq, Option.bind_some]
      refine tot_ifb (fun _ => tot_some (show (2 : Int) ≠ 0 by decide)) fun hb => tot_some ?_
      have hb : nth 0 bnd (0 + (k : Int) * 2 + 0 * 1) ≤ nth 0 num k ∧ nth 0 num k ≤ nth 0 bnd (0 + (k : Int) * 2 + 1 * 1) := by simpa using hb
      rw [show (0 + (k : Int) * 2 + 0 * 1) = (k : Int) * 2 by omega, show (0 + (k : Int) * 2 + 1 * 1) = (k : Int) * 2 + 1 by omega] at hb
      rw [w64_id (by omega) (by omega)]
      refine ⟨⟨k + 1, by omega, by omega, fun j hj => ?_⟩, by omega⟩
      rcases Nat.lt_or_ge j k with h | h
      · exact hI j h
      · have : j = k := by omega
        subst this; exact hb
    · have hge : ¬ (k : Int) < 9 := of_decide_eq_false hge
      have : k = 9 := by omega
      subst this
      exact ⟨hI 0 (by omega), hI 1 (by omega), hI 2 (by omega), hI 3 (by omega), hI 4 (by omega), hI 5 (by omega), hI 6 (by omega), hI 7 (by omega), hI 8 (by omega)⟩
  · refine tot_on (fun s hs => tot_some fun _ => ?_) (fun r hr => tot_some fun h => ?_)
    · subst hs; exact hc
    · subst hr; exact absurd h hc
end Rm

/- A run comes to its end, whatever its stock, its way and its limit: nothing is read beyond an end, and no speed is above the limit. -/
set_option linter.unusedVariables false
set_option linter.unusedSimpArgs false
set_option maxRecDepth 100000
namespace Rm
open Go Hk Hd Pl

/-- what is kept of distances -/
def MOk (m : List (Int × List Int)) : Prop := ∀ q ∈ m, q.2.length ≤ 6001
theorem mfind_ok : ∀ {m : List (Int × List Int)}, MOk m → ∀ x, ((mfind ieq x m).getD []).length ≤ 6001
  | [], _, x => by simp [mfind]
  | (a, b) :: m, h, x => by
    unfold mfind
    cases ieq x a with
    | true => exact h (a, b) (by simp)
    | false => exact mfind_ok (fun q hq => h q (by simp [hq])) x
theorem mset_ok : ∀ {m : List (Int × List Int)}, MOk m → ∀ {x : Int} {y : List Int}, y.length ≤ 6001 → MOk (mset ieq x y m)
  | [], _, x, y, hy => by intro q hq; simp [mset] at hq; subst hq; exact hy
  | (a, b) :: m, h, x, y, hy => by
    unfold mset
    cases ieq x a with
    | true =>
      intro q hq
      rcases List.mem_cons.1 hq with rfl | hq
      · exact hy
      · exact h q (by simp [hq])
    | false =>
      intro q hq
      rcases List.mem_cons.1 hq with rfl | hq
      · exact h _ (by simp)
      · exact mset_ok (fun q hq => h q (by simp [hq])) hy q hq
theorem keyIs_self (x : Int) : keyIs ieq x x = some () := by unfold keyIs ieq; simp
theorem gapp_ok {α : Type} {b : Nat} {xs ys : List α} (h : (xs.length + ys.length) * b ≤ 1000000) (h2 : xs.length + ys.length ≤ 1000000) : gapp b xs ys = some (xs ++ ys) := by
  unfold gapp
  rw [if_pos ⟨by unfold apRoom; omega, by unfold maxLen; omega⟩]
theorem gmax_max (a b : Int) : gmax a b = max a b := by unfold gmax; omega
theorem gmin_min (a b : Int) : gmin a b = min a b := by unfold gmin; omega
theorem gone_tot (a b : Int) : Tot (run_gone a b) fun _ => True := by
  unfold run_gone gquoK
  rw [if_neg (by decide)]
  exact tot_some trivial
theorem into_tot (v t : Int) (p2 : ByteArray) (p3 p4 p5 p6 p7 p8 B p10 p11 : Int) (ps : List S_api_Piece) (st : List Int) (p14 p15 : Int) (m : List (Int × List Int)) (hv : v ≤ 6000) (ht : 0 ≤ t) (hB : 60 ≤ B ∧ B ≤ 150) (hm : MOk m) :
    Tot (run_runner_into v t p2 p3 p4 p5 p6 p7 p8 B p10 p11 ps st p14 p15 m) fun r => MOk r.2.1 ∧ r.2.2.1 = ps ∧ r.2.2.2 = st := by
  unfold run_runner_into
  refine tot_ifb (fun _ => tot_some ⟨hm, rfl, rfl⟩) fun hvt => ?_
  have hvt : ¬ v ≤ t := of_decide_eq_false hvt
  have hl := mfind_ok hm t
  generalize (mfind ieq t m).getD [] = l0 at hl
  refine tot_bind (tot_iter (E := fun c => match c with | .go l => l.length ≤ 6001 ∧ v < l.length | .out _ => False) (I := fun s => s.1 = s.2.length ∧ s.2.length ≤ 6001) (μ := fun s => (6001 - s.1).toNat) ⟨rfl, hl⟩ (by unfold bigN; dsimp only; omega) ?_) fun c _ hc => ?_
  · rintro ⟨i, l⟩ ⟨h1, h2⟩
    dsimp only at h1 h2
    unfold run_runner_into_b1
    dsimp only
    refine tot_ifb (fun hle => ?_) fun hgt => tot_some ?_
    · have hle : i ≤ v := of_decide_eq_true hle
      refine tot_bind (P := fun _ => True) ?_ fun x _ _ => ?_
      · refine tot_ifb (fun hit => ?_) fun _ => tot_some trivial
        have hit : i > t := of_decide_eq_true hit
        refine tot_bind (gone_tot _ _) fun g _ _ => ?_
        rw [w64_id (x := B - 40) (by omega) (by omega), w64_id (x := i - (B - 40)) (by omega) (by omega), gmax_max]
        exact tot_bind (tot_idx (Q := fun _ => True) 0 (by omega) (by omega) trivial) fun y _ _ => tot_some trivial
      · rw [gapp_ok (by simp only [List.length_cons, List.length_nil]; omega) (by simp only [List.length_cons, List.length_nil]; omega), Option.bind_some]
        refine tot_some ?_
        rw [w64_id (by omega) (by omega)]
        refine ⟨⟨?_, ?_⟩, ?_⟩
        all_goals simp only [List.length_append, List.length_cons, List.length_nil]
        all_goals omega
    · have hgt : ¬ i ≤ v := of_decide_eq_false hgt
      exact ⟨h2, by omega⟩
  · refine tot_on (fun l hl => ?_) (fun x hx => ?_)
    · subst hl
      rw [keyIs_self, Option.bind_some]
      refine tot_bind (tot_idx (Q := fun _ => True) 0 (by omega) hc.2 trivial) fun y _ _ => tot_some ⟨mset_ok (mset_ok hm hc.1) hc.1, rfl, rfl⟩
    · subst hx; exact hc.elim
/-- a way that may be -/
def WayOk (ps : List S_api_Piece) : Prop := ∀ x ∈ ps, -40 ≤ x.Grade ∧ x.Grade ≤ 40 ∧ 1 ≤ x.Speed ∧ x.Speed ≤ 6000
theorem may_tot (p0 p1 v : Int) (p3 : ByteArray) (p4 p5 p6 p7 p8 p9 B p11 p12 : Int) (ps : List S_api_Piece) (st : List Int) (p15 p16 : Int) (m : List (Int × List Int)) (hv : v ≤ 6000) (hB : 60 ≤ B ∧ B ≤ 150) (hw : WayOk ps) (hst : st.length = ps.length + 1) (hl : ps.length ≤ 60) (hm : MOk m) :
    Tot (run_runner_may p0 p1 v p3 p4 p5 p6 p7 p8 p9 B p11 p12 ps st p15 p16 m) fun r => MOk r.2.1 ∧ r.2.2.1 = ps ∧ r.2.2.2 = st := by
  unfold run_runner_may
  refine tot_bind (into_tot v 0 p3 p4 p5 p6 p7 p8 p9 B p11 p12 ps st p15 p16 m hv (by omega) hB hm) fun r _ hr => ?_
  obtain ⟨h1, h2, h3⟩ := hr
  refine tot_ifb (fun _ => tot_some ⟨h1, h2, h3⟩) fun _ => ?_
  rw [h2, h3]
  refine tot_loopX (I := fun _ s => MOk s.1 ∧ s.2.1 = ps ∧ s.2.2 = st) (J := fun s => MOk s.1 ∧ s.2.1 = ps ∧ s.2.2 = st) (E := fun r => MOk r.2.1 ∧ r.2.2.1 = ps ∧ r.2.2.2 = st) ⟨h1, rfl, rfl⟩ (fun i x s hx hs => ?_) (fun s hs => hs) (fun s hs => tot_some hs) (fun r hr => tot_some hr)
  obtain ⟨m1, s2, s3⟩ := s
  obtain ⟨k1, k2, k3⟩ := hs
  dsimp only at k1 k2 k3
  subst k2 k3
  have hi := (List.getElem?_eq_some_iff.1 hx).1
  have hxw := hw x (List.mem_of_getElem? hx)
  unfold run_runner_may_b1
  dsimp only
  refine tot_bind (tot_idx (Q := fun _ => True) 0 (by omega) (by omega) trivial) fun y _ _ => ?_
  refine tot_ifb (fun _ => ?_) fun _ => ?_
  · refine tot_bind (into_tot v x.Speed p3 p4 p5 p6 p7 p8 p9 B p11 p12 s2 s3 p15 p16 m1 hv (by omega) hB k1) fun r _ hr => ?_
    exact tot_ifb (fun _ => tot_some hr) fun _ => tot_some hr
  · refine tot_bind (P := fun _ => True) ?_ fun b _ _ => ?_
    · rw [w64_id (by omega) (by omega)]
      refine tot_bind (tot_idx (Q := fun _ => True) 0 (by omega) (by omega) trivial) fun y _ _ => ?_
      exact tot_ifb (fun _ => tot_some trivial) fun _ => tot_some trivial
    · exact tot_ifb (fun _ => tot_some ⟨k1, rfl, rfl⟩) fun _ => tot_some ⟨k1, rfl, rfl⟩
theorem grade_tot (at_ : Int) (p1 : ByteArray) (p2 p3 p4 p5 p6 p7 p8 p9 p10 : Int) (ps : List S_api_Piece) (st : List Int) (p13 p14 : Int) (m : List (Int × List Int)) (hw : WayOk ps) (hst : st.length = ps.length + 1) (hl : ps.length ≤ 60) (h0 : 0 < ps.length) :
    Tot (run_runner_grade at_ p1 p2 p3 p4 p5 p6 p7 p8 p9 p10 ps st p13 p14 m) fun r => -40 ≤ r.1 ∧ r.1 ≤ 40 ∧ r.2.1 = ps ∧ r.2.2 = st := by
  unfold run_runner_grade
  refine tot_bind (tot_iter (E := fun c => match c with | .go i => 0 ≤ i ∧ i < (ps.length : Int) | .out _ => False) (I := fun i => 0 ≤ i ∧ i < (ps.length : Int)) (μ := fun i => (100 - i).toNat) ⟨by omega, by omega⟩ (by unfold bigN; decide) ?_) fun c _ hc => ?_
  · rintro i ⟨h1, h2⟩
    unfold run_runner_grade_b1
    rw [w64_id (x := i + 1) (by omega) (by omega)]
    refine tot_bind (P := fun b => b = true → i + 1 < (ps.length : Int)) ?_ fun b _ hb => ?_
    · refine tot_ifb (fun h => ?_) fun _ => tot_some fun h => by cases h
      have h := of_decide_eq_true h
      exact tot_bind (tot_idx (Q := fun _ => True) 0 (by omega) (by omega) trivial) fun y _ _ => tot_some fun _ => h
    · refine tot_ifb (fun h => tot_some ?_) fun _ => tot_some ⟨h1, h2⟩
      have := hb h
      exact ⟨⟨by omega, by omega⟩, by omega⟩
  · refine tot_on (fun i hi => ?_) (fun x hx => ?_)
    · subst hi
      obtain ⟨a1, a2⟩ := hc
      refine tot_bind (tot_idx (Q := fun x => x ∈ ps) (S_api_Piece.mk 0 0 0) a1 a2 (nth_mem _ a1 a2)) fun y _ hy => tot_some ?_
      have := hw y hy
      exact ⟨this.1, this.2.1, rfl, rfl⟩
    · subst hx; exact hc.elim
theorem gain_tot (p : S_api_Stock) (v g : Int) (hd : p.Drag ≠ 0) : Tot (run_gain p v g) fun _ => True := by
  unfold run_gain run_pull
  refine tot_bind (P := fun _ => True) ?_ fun x _ _ => ?_
  · refine tot_ifb (fun _ => tot_some trivial) fun h => ?_
    have h : v ≠ 0 := by intro e; subst e; simp at h
    unfold gquoK
    rw [if_neg h]
    exact tot_some trivial
  · unfold gquoK
    rw [if_neg hd]
    exact tot_some trivial
theorem second_tot (s : S_api_State) (p1 : ByteArray) (p2 p3 p4 p5 p6 D B p9 p10 : Int) (ps : List S_api_Piece) (st : List Int) (p13 cap : Int) (m : List (Int × List Int)) (hB : 60 ≤ B ∧ B ≤ 150) (hD : D ≠ 0) (hc0 : 0 ≤ cap) (hc : cap ≤ 6000) (hw : WayOk ps) (hst : st.length = ps.length + 1) (hl : ps.length ≤ 60) (h0 : 0 < ps.length)
    (hs : 0 ≤ s.Speed ∧ s.Speed ≤ cap) (hm : MOk m) :
    Tot (run_runner_second s p1 p2 p3 p4 p5 p6 D B p9 p10 ps st p13 cap m) fun r => (0 ≤ r.1.Speed ∧ r.1.Speed ≤ cap) ∧ MOk r.2.1 ∧ r.2.2.1 = ps ∧ r.2.2.2 = st := by
  unfold run_runner_second
  refine tot_bind (grade_tot _ _ _ _ _ _ _ _ _ _ _ ps st _ _ m hw hst hl h0) fun r _ hr => ?_
  obtain ⟨g, r2, r3⟩ := r
  obtain ⟨h1, h2, h3, h4⟩ := hr
  dsimp only at h1 h2 h3 h4
  subst h3 h4
  refine tot_bind (gain_tot _ _ _ hD) fun x _ _ => ?_
  dsimp only
  have hw1 : w64 (B + g) = B + g := w64_id (by omega) (by omega)
  have hw2 : w64 (s.Speed - (B + g)) = s.Speed - (B + g) := w64_id (by omega) (by omega)
  refine tot_bind (tot_iter (E := fun c => match c with | .go s => s.1 ≤ cap ∧ MOk s.2.1 ∧ s.2.2.1 = r2 ∧ s.2.2.2 = r3 | .out _ => False) (I := fun s => s.1 ≤ cap ∧ MOk s.2.1 ∧ s.2.2.1 = r2 ∧ s.2.2.2 = r3) (μ := fun s => (s.1 + 2).toNat)
    ⟨by rw [gmin_min]; dsimp only; omega, hm, rfl, rfl⟩ (by unfold bigN; rw [gmin_min]; dsimp only; omega) ?_) fun c _ hcc => ?_
  · rintro ⟨v, m1, q2, q3⟩ ⟨k1, k2, k3, k4⟩
    dsimp only at k1 k2 k3 k4
    subst k3 k4
    unfold run_runner_second_b1
    dsimp only
    rw [hw1, hw2, gmax_max]
    refine tot_bind (P := fun r => MOk r.2.1 ∧ r.2.2.1 = q2 ∧ r.2.2.2 = q3 ∧ (r.1 = true → 0 ≤ v)) ?_ fun r _ hr => ?_
    · refine tot_ifb (fun h => ?_) fun _ => tot_some ⟨k2, rfl, rfl, fun h => by cases h⟩
      have h := of_decide_eq_true h
      refine tot_bind (gone_tot _ _) fun x _ _ => ?_
      refine tot_bind (may_tot _ _ v _ _ _ _ _ _ _ B _ _ q2 q3 _ _ m1 (by omega) hB hw hst hl k2) fun r _ hr => tot_some ⟨hr.1, hr.2.1, hr.2.2, fun _ => by omega⟩
    · obtain ⟨j1, j2, j3, j4⟩ := hr
      refine tot_ifb (fun h => tot_some ?_) fun _ => tot_some ⟨k1, j1, j2, j3⟩
      have := j4 h
      dsimp only
      rw [w64_id (by omega) (by omega)]
      exact ⟨⟨by omega, j1, j2, j3⟩, by omega⟩
  · refine tot_on (fun q hq => ?_) (fun x hx => ?_)
    · subst hq
      obtain ⟨j1, j2, j3, j4⟩ := hcc
      refine tot_bind (tot_bind (gone_tot _ _) fun y _ _ => tot_some (Q := fun r : Int × Int × Int => r.2.1 = gmax q.1 (gmax 0 (w64 (s.Speed - (w64 (B + g)))))) rfl) fun z _ hz => ?_
      refine tot_bind (P := fun _ => True) ?_ fun u _ _ => tot_some ⟨?_, j2, j3, j4⟩
      · unfold gquoK
        rw [if_neg hD, Option.bind_some]
        exact tot_ifb (fun _ => tot_some trivial) fun _ => tot_some trivial
      · dsimp only
        rw [hz, hw1, hw2, gmax_max, gmax_max]
        omega
    · subst hx; exact hcc.elim
theorem rstates_tot (a : Int) (p1 : ByteArray) (p2 p3 p4 p5 p6 D B p9 p10 : Int) (ps : List S_api_Piece) (st : List Int) (e cap : Int) (hB : 60 ≤ B ∧ B ≤ 150) (hD : D ≠ 0) (hc0 : 0 ≤ cap) (hc : cap ≤ 6000) (hw : WayOk ps) (hst : st.length = ps.length + 1) (hl : ps.length ≤ 60) (h0 : 0 < ps.length) :
    Tot (run_runner_states a p1 p2 p3 p4 p5 p6 D B p9 p10 ps st e cap []) fun r => ∀ x ∈ r.2.2.2.2, x.Speed ≤ cap := by
  unfold run_runner_states
  refine tot_bind (tot_iter (E := fun c => match c with | .go _ => True | .out r => ∀ x ∈ r.2.2.2.2, x.Speed ≤ cap)
    (I := fun s => 0 ≤ s.1 ∧ s.1 ≤ 3601 ∧ MOk s.2.1 ∧ s.2.2.1 = ps ∧ s.2.2.2.1 = st ∧ s.1 + 1 = s.2.2.2.2.length ∧ ∀ x ∈ s.2.2.2.2, 0 ≤ x.Speed ∧ x.Speed ≤ cap) (μ := fun s => (4000 - s.1).toNat)
    ⟨by dsimp only; omega, by dsimp only; omega, by intro q hq; simp at hq, rfl, rfl, rfl, by intro x hx; simp at hx; subst hx; exact ⟨Int.le_refl 0, hc0⟩⟩ (by unfold bigN; dsimp only; omega) ?_) fun c _ hcc => ?_
  · rintro ⟨k, m, q2, q3, l⟩ ⟨k1, k2, k3, k4, k5, k6, k7⟩
    dsimp only at k1 k2 k3 k4 k5 k6 k7
    subst k4 k5
    unfold run_runner_states_b1
    dsimp only
    refine tot_ifb (fun hlt => ?_) fun _ => tot_some trivial
    have hlt : k < 3601 := of_decide_eq_true hlt
    have hw1 : w64 ((l.length : Int) - 1) = (l.length : Int) - 1 := w64_id (by omega) (by omega)
    rw [hw1]
    refine tot_bind (tot_idx (Q := fun x => x ∈ l) (S_api_State.mk 0 0 0) (by omega) (by omega) (nth_mem _ (by omega) (by omega))) fun x _ hx => ?_
    refine tot_bind (P := fun _ => True) (tot_ifb (fun _ => tot_some trivial) fun _ => tot_some trivial) fun b _ _ => ?_
    refine tot_ifb (fun _ => tot_some ?_) fun _ => ?_
    · show ∀ y ∈ setI l ((l.length : Int) - 1) (S_api_State.mk e x.Speed x.Work), y.Speed ≤ cap
      intro y hy
      have : y ∈ l ∨ y = S_api_State.mk e x.Speed x.Work := by
        unfold setI at hy
        exact List.mem_or_eq_of_mem_set hy
      rcases this with h | h
      · exact (k7 y h).2
      · subst h; exact (k7 x hx).2
    · refine tot_bind (second_tot x p1 p2 p3 p4 p5 p6 D B p9 p10 q2 q3 e cap m hB hD hc0 hc hw hst hl h0 (k7 x hx) k3) fun r _ hr => ?_
      obtain ⟨r1, r2, r3, r4⟩ := hr
      rw [gapp_ok (by simp only [List.length_cons, List.length_nil]; omega) (by simp only [List.length_cons, List.length_nil]; omega), Option.bind_some]
      refine tot_some ?_
      dsimp only
      rw [w64_id (by omega) (by omega)]
      refine ⟨⟨by omega, by omega, r2, r3, r4, by simp only [List.length_append, List.length_cons, List.length_nil]; omega, fun y hy => ?_⟩, by omega⟩
      rcases List.mem_append.1 hy with h | h
      · exact k7 y h
      · simp at h; subst h; exact r1
  · refine tot_on (fun q hq => tot_some (by intro x hx; simp at hx)) (fun x hx => tot_some ?_)
    subst hx; exact hcc
end Rm

/- RunSaved: with the limit that Saving returns the run takes at most so many seconds, and is never above it; with 50 less it takes longer. -/
set_option linter.unusedVariables false
set_option linter.unusedSimpArgs false
set_option maxRecDepth 100000
namespace Go.Proofs.YtohpilnjebnelaaDoor
open Go Hk Hd Pl Rm

theorem newRunner_eq (p : S_api_Stock) (ps : List S_api_Piece) (a b : Int) (hl : ps.length ≤ 60) :
    ∃ st : List Int, st.length = ps.length + 1 ∧ run_newRunner p ps a b = some (p.Name, p.Length, p.Mass, p.Start, p.Power, p.Roll, p.Drag, p.Brake, p.Top, p.Seats, ps, a, b, st, ([] : List (Int × (List Int)))) := by
  have : Tot (run_newRunner p ps a b) fun r => ∃ st : List Int, st.length = ps.length + 1 ∧ r = (p.Name, p.Length, p.Mass, p.Start, p.Power, p.Roll, p.Drag, p.Brake, p.Top, p.Seats, ps, a, b, st, ([] : List (Int × (List Int)))) := by
    unfold run_newRunner
    refine tot_loopX (I := fun i s => s.length = i + 1) (J := fun s => s.length = ps.length + 1) (E := fun x => x.elim) rfl (fun i x s hx hs => ?_) (fun s hs => hs) (fun s hs => tot_some ⟨s, hs, rfl⟩) (fun x hx => x.elim)
    have hi := (List.getElem?_eq_some_iff.1 hx).1
    unfold run_newRunner_b1
    refine tot_bind (tot_idx (Q := fun _ => True) 0 (by omega) (by omega) trivial) fun y _ _ => ?_
    rw [gapp_ok (by simp only [List.length_cons, List.length_nil]; omega) (by simp only [List.length_cons, List.length_nil]; omega), Option.bind_some]
    exact tot_some (by simp [hs])
  obtain ⟨r, h1, st, h2, h3⟩ := this
  exact ⟨st, h2, by rw [h1, h3]⟩
theorem states_tot {p : S_api_Stock} {ps : List S_api_Piece} (hp : Stk p) (hw : WayOk ps) (hl : ps.length ≤ 60) (h0 : 0 < ps.length) (a e cap : Int) (hc0 : 0 ≤ cap) (hc : cap ≤ 6000) :
    Tot (run_states p ps a e cap) fun r => (r.1 = 4 ∨ r.1 = 0) ∧ ∀ x ∈ r.2, x.Speed ≤ cap := by
  unfold run_states
  obtain ⟨st, h1, h2⟩ := newRunner_eq p ps e cap hl
  rw [h2, Option.bind_some]
  refine tot_bind (rstates_tot a p.Name p.Length p.Mass p.Start p.Power p.Roll p.Drag p.Brake p.Top p.Seats ps st e cap hp.brake (by have := hp.drag; omega) hc0 hc hw h1 hl h0) fun r _ hr => ?_
  refine tot_ifb (fun _ => tot_some ⟨.inl rfl, by intro x hx; simp at hx⟩) fun _ => tot_some ⟨.inr rfl, hr⟩
theorem check_way {p : S_api_Stock} {ps : List S_api_Piece} (s : S_api_State) (e : Int) (h : p.Name.size ≤ maxLen) : Tot (run_check p ps s e) fun r => r = 0 → Stk p ∧ WayOk ps ∧ ps.length ≤ 60 ∧ 0 < ps.length := by
  unfold run_check
  refine tot_bind (check_tot h) fun r _ hr => ?_
  refine tot_ifb (fun h => tot_some fun h0 => by rw [h0] at h; simp at h) fun hr0 => ?_
  have hr0 : r = 0 := by simpa using hr0
  have hs := hr hr0
  refine tot_ifb (fun _ => tot_some fun h => absurd h (by decide)) fun h1 => ?_
  refine tot_ifb (fun _ => tot_some fun h => absurd h (by decide)) fun h2 => ?_
  have h1 : ¬ (ps.length : Int) = 0 := by simpa using h1
  have h2 : ¬ (ps.length : Int) > 60 := of_decide_eq_false h2
  refine tot_loopX (I := fun i _ => ∀ (j : Nat) x, j < i → ps[j]? = some x → -40 ≤ x.Grade ∧ x.Grade ≤ 40 ∧ 1 ≤ x.Speed ∧ x.Speed ≤ 6000) (J := fun _ => WayOk ps) (E := fun r => r = 2) (fun j x hj => by omega) (fun i x s hx hs => ?_) (fun s hs x hx => ?_) (fun s hs => ?_) (fun r hr => tot_some fun h => by rw [hr] at h; exact absurd h (by decide))
  · unfold run_check_b1
    rw [within_eq, within_eq, within_eq]
    refine tot_bind (P := fun b => b = false → -40 ≤ x.Grade ∧ x.Grade ≤ 40 ∧ 1 ≤ x.Speed ∧ x.Speed ≤ 6000) ?_ fun b _ hb => ?_
    · rw [Option.bind_some]
      refine tot_ifb (fun _ => tot_some fun h => by cases h) fun _ => ?_
      rw [Option.bind_some]
      refine tot_ifb (fun _ => tot_some fun h => by cases h) fun h3 => ?_
      rw [Option.bind_some]
      refine tot_some fun h4 => ?_
      have h3 : -40 ≤ x.Grade ∧ x.Grade ≤ 40 := by simpa using h3
      have h4 : 1 ≤ x.Speed ∧ x.Speed ≤ 6000 := by simpa using h4
      exact ⟨h3.1, h3.2, h4.1, h4.2⟩
    · refine tot_ifb (fun _ => tot_some rfl) fun hbf => tot_some ?_
      intro j y hj hy
      by_cases hji : j = i
      · subst hji
        rw [hx] at hy
        injection hy with hy
        subst hy
        exact hb hbf
      · exact hs j y (by omega) hy
  · obtain ⟨j, hj⟩ := List.mem_iff_getElem?.1 hx
    exact hs j x (List.getElem?_eq_some_iff.1 hj).1 hj
  · refine tot_bind (P := fun _ => True) ?_ fun b _ _ => ?_
    · rw [within_eq, within_eq, within_eq, within_eq]
      simp only [Option.bind_some]
      refine tot_ifb (fun _ => tot_some trivial) fun _ => ?_
      refine tot_ifb (fun _ => tot_some trivial) fun _ => ?_
      refine tot_ifb (fun _ => tot_some trivial) fun _ => tot_some trivial
    · exact tot_ifb (fun _ => tot_some fun h => absurd h (by decide)) fun _ => tot_some fun _ => ⟨‹_›, ‹_›, by omega, by omega⟩
/-- the limit number i -/
def lim (i : Int) : Int := 500 + 50 * i
def SavedOk (p : S_api_Stock) (ps : List S_api_Piece) (a e T i : Int) : Prop :=
  0 ≤ i ∧ i ≤ 110 ∧ (∃ l, run_states p ps a e (gmin p.Top (lim i)) = some (0, l) ∧ w64 ((l.length : Int) - 1) ≤ T) ∧
    (0 < i → ∀ x, run_states p ps a e (gmin p.Top (lim (i - 1))) = some x → x.1 = 0 → ¬ w64 ((x.2.length : Int) - 1) ≤ T)
theorem lim_w {i : Int} (h0 : 0 ≤ i) (h1 : i ≤ 200) : w64 (500 + w64 (50 * i)) = lim i := by
  unfold lim
  rw [w64_id (x := 50 * i) (by omega) (by omega), w64_id (by omega) (by omega)]
theorem saving_tot {p : S_api_Stock} {ps : List S_api_Piece} (hn : p.Name.size ≤ maxLen) (a e T : Int) : Tot (run_Saving p ps a e T) fun r => (r.2 ≠ 0 → r.1 = 0) ∧
    (r.2 = 0 → run_check p ps (S_api_State.mk a 0 0) e = some 0 ∧ Stk p ∧ WayOk ps ∧ ps.length ≤ 60 ∧ 0 < ps.length ∧ ∃ i : Int, r.1 = lim i ∧ SavedOk p ps a e T i) := by
  unfold run_Saving
  refine tot_bind (check_way (S_api_State.mk a 0 0) e hn) fun r hre hr => ?_
  refine tot_ifb (fun h => tot_some ⟨fun _ => rfl, fun h0 => ?_⟩) fun hr0 => ?_
  · have h0 : r = 0 := h0
    subst h0; simp at h
  have hr0 : r = 0 := by simpa using hr0
  subst hr0
  obtain ⟨hs, hw, hl, h0⟩ := hr rfl
  have ht := hs.top
  rw [within_eq, Option.bind_some]
  refine tot_ifb (fun _ => tot_some ⟨fun _ => rfl, fun h => absurd h (by decide)⟩) fun hT => ?_
  refine tot_bind (tot_iter (E := fun c => match c with | .go _ => True | .out r => r.2 = 0 ∧ ∃ i : Int, r.1 = lim i ∧ SavedOk p ps a e T i)
    (I := fun i => 0 ≤ i ∧ i ≤ 111 ∧ (0 < i → ∀ x, run_states p ps a e (gmin p.Top (lim (i - 1))) = some x → x.1 = 0 → ¬ w64 ((x.2.length : Int) - 1) ≤ T)) (μ := fun i => (200 - i).toNat)
    ⟨by omega, by omega, fun h => by omega⟩ (by unfold bigN; decide) ?_) fun c _ hc => ?_
  · rintro i ⟨h1, h2, h3⟩
    unfold run_Saving_b1
    refine tot_ifb (fun hlt => ?_) fun _ => tot_some trivial
    have hlt : i < 111 := of_decide_eq_true hlt
    rw [lim_w h1 (by omega)]
    have hlim : 500 ≤ lim i ∧ lim i ≤ 6000 := by unfold lim; omega
    refine tot_bind (states_tot hs hw hl h0 a e (gmin p.Top (lim i)) (by rw [gmin_min]; omega) (by rw [gmin_min]; omega)) fun x hx hxr => ?_
    obtain ⟨x1, x2⟩ := x
    dsimp only
    refine tot_bind (P := fun b => b = true ↔ x1 = 0 ∧ w64 ((x2.length : Int) - 1) ≤ T) ?_ fun b _ hb => ?_
    · refine tot_ifb (fun h => tot_some ?_) fun h => tot_some ?_
      · have h : x1 = 0 := by simpa using h
        simp [h]
      · have h : ¬ x1 = 0 := by simpa using h
        simp [h]
    · refine tot_ifb (fun h => tot_some ?_) fun h => ?_
      · obtain ⟨e1, e2⟩ := hb.1 h
        subst e1
        exact ⟨rfl, i, rfl, h1, by omega, ⟨x2, hx, e2⟩, h3⟩
      · refine tot_ifb (fun _ => tot_some trivial) fun _ => tot_some ?_
        rw [w64_id (by omega) (by omega)]
        refine ⟨⟨by omega, by omega, fun _ y hy hy0 hle => ?_⟩, by omega⟩
        rw [show i + 1 - 1 = i by omega, hx] at hy
        injection hy with hy
        subst hy
        have := hb.2 ⟨hy0, hle⟩
        rw [h] at this
        cases this
  · refine tot_on (fun q hq => tot_some ⟨fun _ => rfl, fun h => absurd h (by decide)⟩) (fun x hx => tot_some ?_)
    subst hx
    obtain ⟨e1, i, e2, e3⟩ := hc
    exact ⟨fun h => absurd e1 h, fun _ => ⟨hre, hs, hw, hl, h0, i, e2, e3⟩⟩
theorem capped_eq {p : S_api_Stock} {ps : List S_api_Piece} {a e : Int} (hc : run_check p ps (S_api_State.mk a 0 0) e = some 0) {c : Int} (h1 : 500 ≤ c) (h2 : c ≤ 6000) {x : Int × List S_api_State} (hx : run_states p ps a e (gmin p.Top c) = some x) : run_Capped p ps a e c = some x := by
  unfold run_Capped
  rw [hc, Option.bind_some, within_eq, Option.bind_some, hx]
  simp [ifb, h1, h2]
theorem runSaved_law : RunSaved.RunSavedLaw := by
  intro p ps a e T hp hps ha he hT
  refine tot_eq ?_
  unfold fishkeep1_RunSaved
  rw [awake, Option.bind_some]
  refine tot_bind (saving_tot hp.1 a e T) fun r _ hr => ?_
  obtain ⟨c, er⟩ := r
  obtain ⟨hr1, hr2⟩ := hr
  dsimp only at hr1 hr2 ⊢
  refine tot_ifb (fun h => tot_some ?_) fun h => ?_
  · have h : er ≠ 0 := by simpa using h
    rw [hr1 h]; rfl
  have h : er = 0 := by simpa using h
  obtain ⟨hck, hs, hw, hl, h0, i, rfl, i0, i1, ⟨l, hl1, hl2⟩, hless⟩ := hr2 h
  have ht := hs.top
  have hlim : 500 ≤ lim i ∧ lim i ≤ 6000 := by unfold lim; omega
  rw [capped_eq hck hlim.1 hlim.2 hl1, Option.bind_some]
  dsimp only
  rw [show decide (w64 ((l.length : Int) - 1) > T) = false from decide_eq_false (by omega)]
  simp only [bne_self_eq_false, ifb_false, Option.bind_some]
  obtain ⟨y, hy, _, hspd⟩ := states_tot hs hw hl h0 a e (gmin p.Top (lim i)) (by rw [gmin_min]; omega) (by rw [gmin_min]; omega)
  rw [hl1] at hy
  injection hy with hy
  subst hy
  refine tot_loopX (I := fun _ _ => True) (J := fun _ => True) (E := fun _ => False) trivial (fun k x s hx _ => ?_) (fun _ _ => trivial) (fun s _ => ?_) (fun x hx => hx.elim)
  · unfold fishkeep1_RunSaved_b1
    refine tot_ifb (fun h => ?_) fun _ => tot_some trivial
    have h : x.Speed > lim i := of_decide_eq_true h
    have := hspd x (List.mem_of_getElem? hx)
    rw [gmin_min] at this
    omega
  · refine tot_ifb (fun _ => tot_some rfl) fun hne => ?_
    have hne : ¬ lim i = 500 := by simpa using hne
    have hi : 0 < i := by unfold lim at hne; omega
    have hw1 : w64 (lim i - 50) = lim (i - 1) := by
      rw [w64_id (by omega) (by omega)]; unfold lim; omega
    have hlim1 : 500 ≤ lim (i - 1) ∧ lim (i - 1) ≤ 6000 := by unfold lim; omega
    rw [hw1]
    obtain ⟨y, hy, hy1, _⟩ := states_tot hs hw hl h0 a e (gmin p.Top (lim (i - 1))) (by rw [gmin_min]; omega) (by rw [gmin_min]; omega)
    rw [capped_eq hck hlim1.1 hlim1.2 hy, Option.bind_some]
    have hn := hless hi y hy
    obtain ⟨y1, y2⟩ := y
    dsimp only at hy1 hn ⊢
    rcases hy1 with h4 | h4
    · subst h4; exact tot_some rfl
    · subst h4
      have := hn rfl
      rw [show decide (w64 ((y2.length : Int) - 1) > T) = true from decide_eq_true (by omega)]
      exact tot_some rfl
theorem runSaved_proved : Rows.RunSavedCardSaid := RunSaved.close runSaved_law
#print axioms runSaved_proved
end Go.Proofs.YtohpilnjebnelaaDoor
