/- What the checks of package run say, and how far a train goes until it is slow enough. -/
import Derived.Test.YtgflagiblnkchaaDoorZP
import Derived.Test.YtgflagiblnkchaaDoorK5
set_option linter.unusedVariables false
set_option linter.unusedSimpArgs false
set_option maxRecDepth 100000
namespace Gm
open Go Hk Hd Pl

theorem awake : fishkeep1_awakeGuard = some true := by kernel_rfl
theorem within_eq (a b c : Int) : run_within a b c = some (decide (b ≤ a ∧ a ≤ c)) := by
  unfold run_within
  by_cases h1 : a ≥ b <;> by_cases h2 : a ≤ c <;> simp [ifb, h1, h2]
theorem name_tot {s : ByteArray} (h : s.size ≤ maxLen) : Tot (run_name s) fun _ => True := by
  unfold run_name
  refine tot_bind' (x := (sl8 s).map fun b => (b.toNat : Int)) (by unfold sbytes; rw [if_pos (by unfold maxLen at h; omega)]) ?_
  refine tot_allX (P := fun _ _ => True) (E := fun _ => True) (fun i x hx => ?_) (fun _ => ?_) (fun _ _ => tot_some trivial)
  · unfold run_name_b1
    rw [ifb_some, Option.bind_some]
    exact tot_ifb (fun _ => tot_some trivial) (fun _ => tot_some trivial)
  · rw [ifb_some, Option.bind_some]
    exact tot_some trivial
/-- stock that may be -/
structure Stk (p : S_api_Stock) : Prop where
  length : 10 ≤ p.Length ∧ p.Length ≤ 400
  mass : 10 ≤ p.Mass ∧ p.Mass ≤ 2000
  start : 60 ≤ p.Start ∧ p.Start ≤ 150
  power : 10000 ≤ p.Power ∧ p.Power ≤ 2000000
  roll : 0 ≤ p.Roll ∧ p.Roll ≤ 10
  drag : 1000000 ≤ p.Drag ∧ p.Drag ≤ 100000000
  brake : 60 ≤ p.Brake ∧ p.Brake ≤ 150
  top : 500 ≤ p.Top ∧ p.Top ≤ 6000
  seats : 0 ≤ p.Seats ∧ p.Seats ≤ 1000
theorem check_tot {p : S_api_Stock} (h : p.Name.size ≤ maxLen) : Tot (run_Check p) fun r => r = 0 → Stk p := by
  unfold run_Check
  refine tot_bind (name_tot h) fun x _ _ => ?_
  refine tot_ifb (fun _ => tot_some fun h => absurd h (by decide)) fun _ => ?_
  refine tot_bind' (x := ()) rfl ?_
  refine tot_bind' (x := _) rfl ?_
  let num : List Int := [p.Length, p.Mass, p.Start, p.Power, p.Roll, p.Drag, p.Brake, p.Top, p.Seats]
  let bnd : List Int := [10, 400, 10, 2000, 60, 150, 10000, 2000000, 0, 10, 1000000, 100000000, 60, 150, 500, 6000, 0, 1000]
  refine tot_bind (tot_iter (E := fun c => match c with | .go _ => Stk p | .out r => r ≠ 0) (I := fun i => ∃ k : Nat, i = k ∧ k ≤ 9 ∧ ∀ j, j < k → nth 0 bnd (j * 2) ≤ nth 0 num j ∧ nth 0 num j ≤ nth 0 bnd (j * 2 + 1)) (μ := fun i => (9 - i).toNat) ⟨0, rfl, by omega, fun j hj => by omega⟩ (Nat.lt_of_lt_of_le (by decide : (9 - (0 : Int)).toNat < 10) (by decide +kernel)) ?_) fun c _ hc => ?_
  · rintro i ⟨k, rfl, hk, hI⟩
    unfold run_Check_b1
    refine tot_ifb (fun hlt => ?_) fun hge => tot_some ?_
    · have hlt : (k : Int) < 9 := of_decide_eq_true hlt
      refine tot_bind' (idx_nth 0 (xs := num) (by omega) (by show (k : Int) < 9; omega)) ?_
      have g : gix 9 (k : Int) = some () := by unfold gix; rw [if_pos (by omega)]
      rw [g]
      refine tot_bind' rfl (tot_bind' (x := ()) rfl ?_)
      refine tot_bind' (idx_nth 0 (xs := bnd) (by omega) (by show _ < (18 : Int); omega)) ?_
      refine tot_bind' rfl (tot_bind' (x := ()) rfl ?_)
      refine tot_bind' (idx_nth 0 (xs := bnd) (by omega) (by show _ < (18 : Int); omega)) ?_
      rw [within_eq, Option.bind_some]
      refine tot_ifb (fun _ => tot_some (show (2 : Int) ≠ 0 by decide)) fun hb => tot_some ?_
      have hb : nth 0 bnd (0 + (k : Int) * 2 + 0 * 1) ≤ nth 0 num k ∧ nth 0 num k ≤ nth 0 bnd (0 + (k : Int) * 2 + 1 * 1) := by simpa using hb
      rw [show (0 + (k : Int) * 2 + 0 * 1) = (k : Int) * 2 by omega, show (0 + (k : Int) * 2 + 1 * 1) = (k : Int) * 2 + 1 by omega] at hb
      rw [w64_id (by omega) (by omega)]
      refine ⟨⟨k + 1, by omega, by omega, fun j hj => ?_⟩, by omega⟩
      rcases Nat.lt_or_ge j k with h | h
      · exact hI j h
      · have : j = k := by omega
        subst this; exact hb
    · have hge : ¬ (k : Int) < 9 := of_decide_eq_false hge
      have : k = 9 := by omega
      subst this
      exact ⟨hI 0 (by omega), hI 1 (by omega), hI 2 (by omega), hI 3 (by omega), hI 4 (by omega), hI 5 (by omega), hI 6 (by omega), hI 7 (by omega), hI 8 (by omega)⟩
  · refine tot_on (fun s hs => tot_some fun _ => ?_) (fun r hr => tot_some fun h => ?_)
    · subst hs; exact hc
    · subst hr; exact absurd h hc
end Gm

/- A run comes to its end, whatever its stock, its way and its limit: nothing is read beyond an end, and no speed is above the limit. -/
set_option linter.unusedVariables false
set_option linter.unusedSimpArgs false
set_option maxRecDepth 100000
namespace Gm
open Go Hk Hd Pl

/-- what is kept of distances -/
def MOk (m : List (Int × List Int)) : Prop := ∀ q ∈ m, q.2.length ≤ 6001
theorem mfind_ok : ∀ {m : List (Int × List Int)}, MOk m → ∀ x, ((mfind ieq x m).getD []).length ≤ 6001
  | [], _, x => by simp [mfind]
  | (a, b) :: m, h, x => by
    unfold mfind
    cases ieq x a with
    | true => exact h (a, b) (by simp)
    | false => exact mfind_ok (fun q hq => h q (by simp [hq])) x
theorem mset_ok : ∀ {m : List (Int × List Int)}, MOk m → ∀ {x : Int} {y : List Int}, y.length ≤ 6001 → MOk (mset ieq x y m)
  | [], _, x, y, hy => by intro q hq; simp [mset] at hq; subst hq; exact hy
  | (a, b) :: m, h, x, y, hy => by
    unfold mset
    cases ieq x a with
    | true =>
      intro q hq
      rcases List.mem_cons.1 hq with rfl | hq
      · exact hy
      · exact h q (by simp [hq])
    | false =>
      intro q hq
      rcases List.mem_cons.1 hq with rfl | hq
      · exact h _ (by simp)
      · exact mset_ok (fun q hq => h q (by simp [hq])) hy q hq
theorem keyIs_self (x : Int) : keyIs ieq x x = some () := by unfold keyIs ieq; simp
theorem gapp_ok {α : Type} {b : Nat} {xs ys : List α} (h : (xs.length + ys.length) * b ≤ 1000000) (h2 : xs.length + ys.length ≤ 1000000) : gapp b xs ys = some (xs ++ ys) := by
  unfold gapp
  rw [if_pos ⟨by unfold apRoom; omega, by unfold maxLen; omega⟩]
theorem gmax_max (a b : Int) : gmax a b = max a b := by unfold gmax; omega
theorem gmin_min (a b : Int) : gmin a b = min a b := by unfold gmin; omega
theorem gone_tot (a b : Int) : Tot (run_gone a b) fun _ => True := by
  unfold run_gone gquoK
  rw [if_neg (by decide)]
  exact tot_some trivial
theorem into_tot (v t : Int) (p2 : ByteArray) (p3 p4 p5 p6 p7 p8 B p10 p11 : Int) (ps : List S_api_Piece) (st : List Int) (p14 p15 : Int) (m : List (Int × List Int)) (hv : v ≤ 6000) (ht : 0 ≤ t) (hB : 60 ≤ B ∧ B ≤ 150) (hm : MOk m) :
    Tot (run_runner_into v t p2 p3 p4 p5 p6 p7 p8 B p10 p11 ps st p14 p15 m) fun r => MOk r.2.1 ∧ r.2.2.1 = ps ∧ r.2.2.2 = st := by
  unfold run_runner_into
  refine tot_ifb (fun _ => tot_some ⟨hm, rfl, rfl⟩) fun hvt => ?_
  have hvt : ¬ v ≤ t := of_decide_eq_false hvt
  have hl := mfind_ok hm t
  generalize (mfind ieq t m).getD [] = l0 at hl
  refine tot_bind (tot_iter (E := fun c => match c with | .go l => l.length ≤ 6001 ∧ v < l.length | .out _ => False) (I := fun s => s.1 = s.2.length ∧ s.2.length ≤ 6001) (μ := fun s => (6001 - s.1).toNat) ⟨rfl, hl⟩ (by unfold bigN; dsimp only; omega) ?_) fun c _ hc => ?_
  · rintro ⟨i, l⟩ ⟨h1, h2⟩
    dsimp only at h1 h2
    unfold run_runner_into_b1
    dsimp only
    refine tot_ifb (fun hle => ?_) fun hgt => tot_some ?_
    · have hle : i ≤ v := of_decide_eq_true hle
      refine tot_bind (P := fun _ => True) ?_ fun x _ _ => ?_
      · refine tot_ifb (fun hit => ?_) fun _ => tot_some trivial
        have hit : i > t := of_decide_eq_true hit
        refine tot_bind (gone_tot _ _) fun g _ _ => ?_
        rw [w64_id (x := B - 40) (by omega) (by omega), w64_id (x := i - (B - 40)) (by omega) (by omega), gmax_max]
        exact tot_bind (tot_idx (Q := fun _ => True) 0 (by omega) (by omega) trivial) fun y _ _ => tot_some trivial
      · rw [gapp_ok (by simp only [List.length_cons, List.length_nil]; omega) (by simp only [List.length_cons, List.length_nil]; omega), Option.bind_some]
        refine tot_some ?_
        rw [w64_id (by omega) (by omega)]
        refine ⟨⟨?_, ?_⟩, ?_⟩
        all_goals simp only [List.length_append, List.length_cons, List.length_nil]
        all_goals omega
    · have hgt : ¬ i ≤ v := of_decide_eq_false hgt
      exact ⟨h2, by omega⟩
  · refine tot_on (fun l hl => ?_) (fun x hx => ?_)
    · subst hl
      rw [keyIs_self, Option.bind_some]
      refine tot_bind (tot_idx (Q := fun _ => True) 0 (by omega) hc.2 trivial) fun y _ _ => tot_some ⟨mset_ok (mset_ok hm hc.1) hc.1, rfl, rfl⟩
    · subst hx; exact hc.elim
/-- a way that may be -/
def WayOk (ps : List S_api_Piece) : Prop := ∀ x ∈ ps, -40 ≤ x.Grade ∧ x.Grade ≤ 40 ∧ 1 ≤ x.Speed ∧ x.Speed ≤ 6000
theorem may_tot (p0 p1 v : Int) (p3 : ByteArray) (p4 p5 p6 p7 p8 p9 B p11 p12 : Int) (ps : List S_api_Piece) (st : List Int) (p15 p16 : Int) (m : List (Int × List Int)) (hv : v ≤ 6000) (hB : 60 ≤ B ∧ B ≤ 150) (hw : WayOk ps) (hst : st.length = ps.length + 1) (hl : ps.length ≤ 60) (hm : MOk m) :
    Tot (run_runner_may p0 p1 v p3 p4 p5 p6 p7 p8 p9 B p11 p12 ps st p15 p16 m) fun r => MOk r.2.1 ∧ r.2.2.1 = ps ∧ r.2.2.2 = st := by
  unfold run_runner_may
  refine tot_bind (into_tot v 0 p3 p4 p5 p6 p7 p8 p9 B p11 p12 ps st p15 p16 m hv (by omega) hB hm) fun r _ hr => ?_
  obtain ⟨h1, h2, h3⟩ := hr
  refine tot_ifb (fun _ => tot_some ⟨h1, h2, h3⟩) fun _ => ?_
  rw [h2, h3]
  refine tot_loopX (I := fun _ s => MOk s.1 ∧ s.2.1 = ps ∧ s.2.2 = st) (J := fun s => MOk s.1 ∧ s.2.1 = ps ∧ s.2.2 = st) (E := fun r => MOk r.2.1 ∧ r.2.2.1 = ps ∧ r.2.2.2 = st) ⟨h1, rfl, rfl⟩ (fun i x s hx hs => ?_) (fun s hs => hs) (fun s hs => tot_some hs) (fun r hr => tot_some hr)
  obtain ⟨m1, s2, s3⟩ := s
  obtain ⟨k1, k2, k3⟩ := hs
  dsimp only at k1 k2 k3
  subst k2 k3
  have hi := (List.getElem?_eq_some_iff.1 hx).1
  have hxw := hw x (List.mem_of_getElem? hx)
  unfold run_runner_may_b1
  dsimp only
  refine tot_bind (tot_idx (Q := fun _ => True) 0 (by omega) (by omega) trivial) fun y _ _ => ?_
  refine tot_ifb (fun _ => ?_) fun _ => ?_
  · refine tot_bind (into_tot v x.Speed p3 p4 p5 p6 p7 p8 p9 B p11 p12 s2 s3 p15 p16 m1 hv (by omega) hB k1) fun r _ hr => ?_
    exact tot_ifb (fun _ => tot_some hr) fun _ => tot_some hr
  · refine tot_bind (P := fun _ => True) ?_ fun b _ _ => ?_
    · rw [w64_id (by omega) (by omega)]
      refine tot_bind (tot_idx (Q := fun _ => True) 0 (by omega) (by omega) trivial) fun y _ _ => ?_
      exact tot_ifb (fun _ => tot_some trivial) fun _ => tot_some trivial
    · exact tot_ifb (fun _ => tot_some ⟨k1, rfl, rfl⟩) fun _ => tot_some ⟨k1, rfl, rfl⟩
theorem grade_tot (at_ : Int) (p1 : ByteArray) (p2 p3 p4 p5 p6 p7 p8 p9 p10 : Int) (ps : List S_api_Piece) (st : List Int) (p13 p14 : Int) (m : List (Int × List Int)) (hw : WayOk ps) (hst : st.length = ps.length + 1) (hl : ps.length ≤ 60) (h0 : 0 < ps.length) :
    Tot (run_runner_grade at_ p1 p2 p3 p4 p5 p6 p7 p8 p9 p10 ps st p13 p14 m) fun r => -40 ≤ r.1 ∧ r.1 ≤ 40 ∧ r.2.1 = ps ∧ r.2.2 = st := by
  unfold run_runner_grade
  refine tot_bind (tot_iter (E := fun c => match c with | .go i => 0 ≤ i ∧ i < (ps.length : Int) | .out _ => False) (I := fun i => 0 ≤ i ∧ i < (ps.length : Int)) (μ := fun i => (100 - i).toNat) ⟨by omega, by omega⟩ (by unfold bigN; decide) ?_) fun c _ hc => ?_
  · rintro i ⟨h1, h2⟩
    unfold run_runner_grade_b1
    rw [w64_id (x := i + 1) (by omega) (by omega)]
    refine tot_bind (P := fun b => b = true → i + 1 < (ps.length : Int)) ?_ fun b _ hb => ?_
    · refine tot_ifb (fun h => ?_) fun _ => tot_some fun h => by cases h
      have h := of_decide_eq_true h
      exact tot_bind (tot_idx (Q := fun _ => True) 0 (by omega) (by omega) trivial) fun y _ _ => tot_some fun _ => h
    · refine tot_ifb (fun h => tot_some ?_) fun _ => tot_some ⟨h1, h2⟩
      have := hb h
      exact ⟨⟨by omega, by omega⟩, by omega⟩
  · refine tot_on (fun i hi => ?_) (fun x hx => ?_)
    · subst hi
      obtain ⟨a1, a2⟩ := hc
      refine tot_bind (tot_idx (Q := fun x => x ∈ ps) (S_api_Piece.mk 0 0 0) a1 a2 (nth_mem _ a1 a2)) fun y _ hy => tot_some ?_
      have := hw y hy
      exact ⟨this.1, this.2.1, rfl, rfl⟩
    · subst hx; exact hc.elim
theorem gain_tot (p : S_api_Stock) (v g : Int) (hd : p.Drag ≠ 0) : Tot (run_gain p v g) fun _ => True := by
  unfold run_gain run_pull
  refine tot_bind (P := fun _ => True) ?_ fun x _ _ => ?_
  · refine tot_ifb (fun _ => tot_some trivial) fun h => ?_
    have h : v ≠ 0 := by intro e; subst e; simp at h
    unfold gquoK
    rw [if_neg h]
    exact tot_some trivial
  · unfold gquoK
    rw [if_neg hd]
    exact tot_some trivial
theorem second_tot (s : S_api_State) (p1 : ByteArray) (p2 p3 p4 p5 p6 D B p9 p10 : Int) (ps : List S_api_Piece) (st : List Int) (p13 cap : Int) (m : List (Int × List Int)) (hB : 60 ≤ B ∧ B ≤ 150) (hD : D ≠ 0) (hc0 : 0 ≤ cap) (hc : cap ≤ 6000) (hw : WayOk ps) (hst : st.length = ps.length + 1) (hl : ps.length ≤ 60) (h0 : 0 < ps.length)
    (hs : 0 ≤ s.Speed ∧ s.Speed ≤ cap) (hm : MOk m) :
    Tot (run_runner_second s p1 p2 p3 p4 p5 p6 D B p9 p10 ps st p13 cap m) fun r => (0 ≤ r.1.Speed ∧ r.1.Speed ≤ cap) ∧ MOk r.2.1 ∧ r.2.2.1 = ps ∧ r.2.2.2 = st := by
  unfold run_runner_second
  refine tot_bind (grade_tot _ _ _ _ _ _ _ _ _ _ _ ps st _ _ m hw hst hl h0) fun r _ hr => ?_
  obtain ⟨g, r2, r3⟩ := r
  obtain ⟨h1, h2, h3, h4⟩ := hr
  dsimp only at h1 h2 h3 h4
  subst h3 h4
  refine tot_bind (gain_tot _ _ _ hD) fun x _ _ => ?_
  dsimp only
  have hw1 : w64 (B + g) = B + g := w64_id (by omega) (by omega)
  have hw2 : w64 (s.Speed - (B + g)) = s.Speed - (B + g) := w64_id (by omega) (by omega)
  refine tot_bind (tot_iter (E := fun c => match c with | .go s => s.1 ≤ cap ∧ MOk s.2.1 ∧ s.2.2.1 = r2 ∧ s.2.2.2 = r3 | .out _ => False) (I := fun s => s.1 ≤ cap ∧ MOk s.2.1 ∧ s.2.2.1 = r2 ∧ s.2.2.2 = r3) (μ := fun s => (s.1 + 2).toNat)
    ⟨by rw [gmin_min]; dsimp only; omega, hm, rfl, rfl⟩ (by unfold bigN; rw [gmin_min]; dsimp only; omega) ?_) fun c _ hcc => ?_
  · rintro ⟨v, m1, q2, q3⟩ ⟨k1, k2, k3, k4⟩
    dsimp only at k1 k2 k3 k4
    subst k3 k4
    unfold run_runner_second_b1
    dsimp only
    rw [hw1, hw2, gmax_max]
    refine tot_bind (P := fun r => MOk r.2.1 ∧ r.2.2.1 = q2 ∧ r.2.2.2 = q3 ∧ (r.1 = true → 0 ≤ v)) ?_ fun r _ hr => ?_
    · refine tot_ifb (fun h => ?_) fun _ => tot_some ⟨k2, rfl, rfl, fun h => by cases h⟩
      have h := of_decide_eq_true h
      refine tot_bind (gone_tot _ _) fun x _ _ => ?_
      refine tot_bind (may_tot _ _ v _ _ _ _ _ _ _ B _ _ q2 q3 _ _ m1 (by omega) hB hw hst hl k2) fun r _ hr => tot_some ⟨hr.1, hr.2.1, hr.2.2, fun _ => by omega⟩
    · obtain ⟨j1, j2, j3, j4⟩ := hr
      refine tot_ifb (fun h => tot_some ?_) fun _ => tot_some ⟨k1, j1, j2, j3⟩
      have := j4 h
      dsimp only
      rw [w64_id (by omega) (by omega)]
      exact ⟨⟨by omega, j1, j2, j3⟩, by omega⟩
  · refine tot_on (fun q hq => ?_) (fun x hx => ?_)
    · subst hq
      obtain ⟨j1, j2, j3, j4⟩ := hcc
      refine tot_bind (tot_bind (gone_tot _ _) fun y _ _ => tot_some (Q := fun r : Int × Int × Int => r.2.1 = gmax q.1 (gmax 0 (w64 (s.Speed - (w64 (B + g)))))) rfl) fun z _ hz => ?_
      refine tot_bind (P := fun _ => True) ?_ fun u _ _ => tot_some ⟨?_, j2, j3, j4⟩
      · unfold gquoK
        rw [if_neg hD, Option.bind_some]
        exact tot_ifb (fun _ => tot_some trivial) fun _ => tot_some trivial
      · dsimp only
        rw [hz, hw1, hw2, gmax_max, gmax_max]
        omega
    · subst hx; exact hcc.elim
end Gm

/- How far a train goes until it is slow enough; the tables of 'into' hold just that; what 'may' says. -/
set_option linter.unusedVariables false
set_option linter.unusedSimpArgs false
set_option maxRecDepth 100000
namespace Gm
open Go Hk Hd Pl

/-- how far a train goes until its speed is t; d: how much slower it becomes in a second -/
def inD (d t v : Int) : Int := if h : v ≤ t ∨ d ≤ 0 then 0 else (v + max t (v - d) + 1) / 2 + inD d t (max t (v - d))
termination_by (v - t).toNat
decreasing_by omega
theorem inD_le {d t v : Int} (h : v ≤ t) : inD d t v = 0 := by
  unfold inD; rw [dif_pos (Or.inl h)]
theorem inD_gt {d t v : Int} (hd : 0 < d) (h : t < v) : inD d t v = (v + max t (v - d) + 1) / 2 + inD d t (max t (v - d)) := by
  conv => lhs; unfold inD
  rw [dif_neg (by omega)]
theorem inD_bound {d t : Int} (hd : 0 < d) (ht : 0 ≤ t) : ∀ (n : Nat) (v : Int), (v - t).toNat ≤ n → v ≤ 6001 → 0 ≤ inD d t v ∧ inD d t v ≤ 6001 * (if v ≤ t then 0 else v - t)
  | n, v, hn, hv => by
    by_cases h : v ≤ t
    · rw [inD_le h, if_pos h]; omega
    · rw [inD_gt hd (by omega), if_neg h]
      match n, hn with
      | 0, hn => omega
      | n + 1, hn =>
        have ih := inD_bound hd ht n (max t (v - d)) (by omega) (by omega)
        split at ih <;> omega
theorem inD_mono {d t : Int} (hd : 0 < d) (ht : 0 ≤ t) : ∀ (n : Nat) (v v' : Int), (v' - t).toNat ≤ n → v ≤ v' → v' ≤ 6001 → inD d t v ≤ inD d t v'
  | n, v, v', hn, hv, h6 => by
    by_cases h : v ≤ t
    · rw [inD_le h]; exact (inD_bound hd ht _ v' (Nat.le_refl _) h6).1
    · rw [inD_gt hd (by omega), inD_gt hd (by omega : t < v')]
      match n, hn with
      | 0, hn => omega
      | n + 1, hn =>
        have ih := inD_mono hd ht n (max t (v - d)) (max t (v' - d)) (by omega) (by omega) (by omega)
        omega
theorem gone_eq {v w : Int} (h0 : 0 ≤ v) (h1 : v ≤ 6001) (h2 : 0 ≤ w) (h3 : w ≤ 6001) : run_gone v w = some ((v + w + 1) / 2) := by
  unfold run_gone
  rw [w64_id (x := v + w) (by omega) (by omega), w64_id (x := v + w + 1) (by omega) (by omega)]
  have : gquoK .i64 (v + w + 1) 2 = some ((v + w + 1) / 2) := by
    unfold gquoK
    rw [if_neg (by decide), Int.tdiv_eq_ediv_of_nonneg (by omega)]
    exact congrArg some (w64_id (by omega) (by omega))
  rw [this]; rfl
/-- the tables are right -/
def MEq (d : Int) (m : List (Int × List Int)) : Prop := ∀ q ∈ m, q.2.length ≤ 6001 ∧ ∀ (i : Nat) x, q.2[i]? = some x → x = inD d q.1 i
theorem mfind_eq {d : Int} : ∀ {m : List (Int × List Int)}, MEq d m → ∀ x, ((mfind ieq x m).getD []).length ≤ 6001 ∧ ∀ (i : Nat) y, ((mfind ieq x m).getD [])[i]? = some y → y = inD d x i
  | [], _, x => ⟨by simp [mfind], fun i y h => by simp [mfind] at h⟩
  | (a, b) :: m, h, x => by
    unfold mfind
    cases he : ieq x a with
    | true =>
      have : x = a := by unfold ieq at he; exact eq_of_beq he
      subst this
      exact h (x, b) (by simp)
    | false => exact mfind_eq (fun q hq => h q (by simp [hq])) x
theorem mset_eq {d : Int} : ∀ {m : List (Int × List Int)}, MEq d m → ∀ {x : Int} {y : List Int}, y.length ≤ 6001 → (∀ (i : Nat) z, y[i]? = some z → z = inD d x i) → MEq d (mset ieq x y m)
  | [], _, x, y, hy, hz => by intro q hq; simp [mset] at hq; subst hq; exact ⟨hy, hz⟩
  | (a, b) :: m, h, x, y, hy, hz => by
    unfold mset
    cases ieq x a with
    | true =>
      intro q hq
      rcases List.mem_cons.1 hq with rfl | hq
      · exact ⟨hy, hz⟩
      · exact h q (by simp [hq])
    | false =>
      intro q hq
      rcases List.mem_cons.1 hq with rfl | hq
      · exact h _ (by simp)
      · exact mset_eq (fun q hq => h q (by simp [hq])) hy hz q hq
theorem inD_big {d t v : Int} (hd : 0 < d) (ht : 0 ≤ t) (hv : v ≤ 6001) : 0 ≤ inD d t v ∧ inD d t v ≤ 36012001 := by
  have b := inD_bound hd ht _ v (Nat.le_refl _) hv
  refine ⟨b.1, ?_⟩
  have := b.2
  split at this <;> omega
theorem into_val (v t : Int) (p2 : ByteArray) (p3 p4 p5 p6 p7 p8 B p10 p11 : Int) (ps : List S_api_Piece) (st : List Int) (p14 p15 : Int) (m : List (Int × List Int)) (h0 : 0 ≤ v) (hv : v ≤ 6000) (ht : 0 ≤ t) (hB : 60 ≤ B ∧ B ≤ 150) (hm : MEq (B - 40) m) :
    Tot (run_runner_into v t p2 p3 p4 p5 p6 p7 p8 B p10 p11 ps st p14 p15 m) fun r => r.1 = inD (B - 40) t v ∧ MEq (B - 40) r.2.1 ∧ r.2.2.1 = ps ∧ r.2.2.2 = st := by
  unfold run_runner_into
  have hd : 0 < B - 40 := by omega
  refine tot_ifb (fun h => tot_some ⟨?_, hm, rfl, rfl⟩) fun hvt => ?_
  · have h : v ≤ t := of_decide_eq_true h
    rw [inD_le h]
  have hvt : ¬ v ≤ t := of_decide_eq_false hvt
  have hl := mfind_eq hm t
  generalize (mfind ieq t m).getD [] = l0 at hl
  refine tot_bind (tot_iter (E := fun c => match c with | .go l => l.length ≤ 6001 ∧ v < l.length ∧ ∀ (i : Nat) z, l[i]? = some z → z = inD (B - 40) t i | .out _ => False) (I := fun s => s.1 = s.2.length ∧ s.2.length ≤ 6001 ∧ ∀ (i : Nat) z, s.2[i]? = some z → z = inD (B - 40) t i) (μ := fun s => (6001 - s.1).toNat) ⟨rfl, hl.1, hl.2⟩ (by unfold bigN; dsimp only; omega) ?_) fun c _ hc => ?_
  · rintro ⟨i, l⟩ ⟨h1, h2, h3⟩
    dsimp only at h1 h2 h3
    unfold run_runner_into_b1
    dsimp only
    refine tot_ifb (fun hle => ?_) fun hgt => tot_some ?_
    · have hle : i ≤ v := of_decide_eq_true hle
      refine tot_bind (P := fun x => x = inD (B - 40) t i) ?_ fun x _ hx => ?_
      · refine tot_ifb (fun hit => ?_) fun hit => tot_some ?_
        · have hit : i > t := of_decide_eq_true hit
          rw [w64_id (x := B - 40) (by omega) (by omega), w64_id (x := i - (B - 40)) (by omega) (by omega), gmax_max, gone_eq (by omega) (by omega) (by omega) (by omega), Option.bind_some]
          have hu0 : 0 ≤ max t (i - (B - 40)) := by omega
          have hul : max t (i - (B - 40)) < (l.length : Int) := by omega
          refine tot_bind (tot_idx (Q := fun y => y = inD (B - 40) t (max t (i - (B - 40)))) 0 hu0 hul ?_) fun y _ hy => tot_some ?_
          · have := h3 (max t (i - (B - 40))).toNat (nth 0 l (max t (i - (B - 40)))) (by
              unfold nth
              rw [List.getElem?_eq_getElem (by omega)]
              rfl)
            rw [this, Int.toNat_of_nonneg hu0]
          · subst hy
            have e := inD_gt hd hit
            have b := inD_big hd ht (v := max t (i - (B - 40))) (by omega)
            rw [w64_id (by omega) (by omega), e]
        · have hit : ¬ i > t := of_decide_eq_false hit
          rw [inD_le (by omega)]
      · rw [gapp_ok (by simp only [List.length_cons, List.length_nil]; omega) (by simp only [List.length_cons, List.length_nil]; omega), Option.bind_some]
        refine tot_some ?_
        rw [w64_id (by omega) (by omega)]
        refine ⟨⟨?_, ?_, fun j z hz => ?_⟩, ?_⟩
        · simp only [List.length_append, List.length_cons, List.length_nil]; omega
        · simp only [List.length_append, List.length_cons, List.length_nil]; omega
        · rcases Nat.lt_trichotomy j l.length with hj | hj | hj
          · rw [List.getElem?_append_left hj] at hz
            exact h3 j z hz
          · subst hj
            rw [List.getElem?_append_right (Nat.le_refl _)] at hz
            simp at hz
            rw [← hz, hx, h1]
          · rw [List.getElem?_eq_none (by simp; omega)] at hz; cases hz
        · dsimp only; omega
    · have hgt : ¬ i ≤ v := of_decide_eq_false hgt
      exact ⟨h2, by omega, h3⟩
  · refine tot_on (fun l hl => ?_) (fun x hx => ?_)
    · subst hl
      rw [keyIs_self, Option.bind_some]
      obtain ⟨c1, c2, c3⟩ := hc
      refine tot_bind (tot_idx (Q := fun y => y = inD (B - 40) t v) 0 h0 c2 ?_) fun y _ hy => tot_some ⟨hy, mset_eq (mset_eq hm c1 c3) c1 c3, rfl, rfl⟩
      have := c3 v.toNat (nth 0 l v) (by
        unfold nth
        rw [List.getElem?_eq_getElem (by omega)]
        rfl)
      rw [this, Int.toNat_of_nonneg h0]
    · subst hx; exact hc.elim
/-- a speed that may be behind a second: d: the sure brake; rear and front: of the train in that second -/
structure MayOk (d rear front v e : Int) (ps : List S_api_Piece) (st : List Int) : Prop where
  stop : inD d 0 v ≤ e - front
  ahead : ∀ (i : Nat) x a, ps[i]? = some x → st[i]? = some a → front ≤ a → inD d x.Speed v ≤ a - front
  touched : ∀ (i : Nat) x a b, ps[i]? = some x → st[i]? = some a → st[i + 1]? = some b → a < front → rear < b → v ≤ x.Speed
theorem get_nth {α : Type} (z : α) {xs : List α} {i : Int} (h0 : 0 ≤ i) (h1 : i < xs.length) : xs[i.toNat]? = some (nth z xs i) := by
  unfold nth
  rw [List.getElem?_eq_getElem (by omega)]
  rfl
theorem may_val (rear front v : Int) (p3 : ByteArray) (p4 p5 p6 p7 p8 p9 B p11 p12 : Int) (ps : List S_api_Piece) (st : List Int) (e p16 : Int) (m : List (Int × List Int)) (hv0 : 0 ≤ v) (hv : v ≤ 6000) (hB : 60 ≤ B ∧ B ≤ 150) (hw : WayOk ps) (hst : st.length = ps.length + 1) (hl : ps.length ≤ 60)
    (hf : 0 ≤ front ∧ front ≤ 20000000) (he : 0 ≤ e ∧ e ≤ 20000000) (hs : ∀ a ∈ st, 0 ≤ a ∧ a ≤ 20000000) (hm : MEq (B - 40) m) :
    Tot (run_runner_may rear front v p3 p4 p5 p6 p7 p8 p9 B p11 p12 ps st e p16 m) fun r => (r.1 = true ↔ MayOk (B - 40) rear front v e ps st) ∧ MEq (B - 40) r.2.1 ∧ r.2.2.1 = ps ∧ r.2.2.2 = st := by
  unfold run_runner_may
  refine tot_bind (into_val v 0 p3 p4 p5 p6 p7 p8 p9 B p11 p12 ps st e p16 m hv0 hv (by omega) hB hm) fun r _ hr => ?_
  obtain ⟨h0, h1, h2, h3⟩ := hr
  rw [h0, w64_id (x := e - front) (by omega) (by omega)]
  refine tot_ifb (fun h => tot_some ⟨⟨fun h => (by cases h), fun hk => ?_⟩, h1, h2, h3⟩) fun h => ?_
  · have h : inD (B - 40) 0 v > e - front := of_decide_eq_true h
    have := hk.stop
    omega
  have hstop : ¬ inD (B - 40) 0 v > e - front := of_decide_eq_false h
  rw [h2, h3]
  refine tot_loopX (I := fun k s => MEq (B - 40) s.1 ∧ s.2.1 = ps ∧ s.2.2 = st ∧ ∀ (i : Nat) x a b, i < k → ps[i]? = some x → st[i]? = some a → st[i + 1]? = some b → (front ≤ a → inD (B - 40) x.Speed v ≤ a - front) ∧ (a < front → rear < b → v ≤ x.Speed))
    (J := fun s => MEq (B - 40) s.1 ∧ s.2.1 = ps ∧ s.2.2 = st ∧ MayOk (B - 40) rear front v e ps st) (E := fun r => r.1 = false ∧ ¬ MayOk (B - 40) rear front v e ps st ∧ MEq (B - 40) r.2.1 ∧ r.2.2.1 = ps ∧ r.2.2.2 = st)
    ⟨h1, rfl, rfl, fun i x a b hi => by omega⟩ (fun i x s hx hs' => ?_) (fun s hs' => ?_) (fun s hs' => tot_some ⟨⟨fun _ => hs'.2.2.2, fun _ => rfl⟩, hs'.1, hs'.2.1, hs'.2.2.1⟩) (fun r hr => tot_some ⟨⟨fun h => (by rw [hr.1] at h; cases h), fun h => absurd h hr.2.1⟩, hr.2.2⟩)
  · obtain ⟨m1, s2, s3⟩ := s
    obtain ⟨k1, k2, k3, k4⟩ := hs'
    dsimp only at k1 k2 k3
    subst k2 k3
    have hi := (List.getElem?_eq_some_iff.1 hx).1
    have hxw := hw x (List.mem_of_getElem? hx)
    unfold run_runner_may_b1
    dsimp only
    have ga := get_nth 0 (xs := s3) (i := (i : Int)) (by omega) (by omega)
    have gb := get_nth 0 (xs := s3) (i := (i : Int) + 1) (by omega) (by omega)
    rw [show ((i : Int)).toNat = i by omega] at ga
    rw [show ((i : Int) + 1).toNat = i + 1 by omega] at gb
    have ra := hs _ (List.mem_of_getElem? ga)
    have rb := hs _ (List.mem_of_getElem? gb)
    rw [idx_nth 0 (xs := s3) (i := (i : Int)) (by omega) (by omega), Option.bind_some, w64_id (x := (i : Int) + 1) (by omega) (by omega), idx_nth 0 (xs := s3) (i := (i : Int) + 1) (by omega) (by omega)]
    generalize nth 0 s3 (i : Int) = a at ga ra
    generalize nth 0 s3 ((i : Int) + 1) = b at gb rb
    have step : ((front ≤ a → inD (B - 40) x.Speed v ≤ a - front) ∧ (a < front → rear < b → v ≤ x.Speed)) → ∀ (j : Nat) y a' b', j < i + 1 → s2[j]? = some y → s3[j]? = some a' → s3[j + 1]? = some b' → (front ≤ a' → inD (B - 40) y.Speed v ≤ a' - front) ∧ (a' < front → rear < b' → v ≤ y.Speed) := by
      intro hh j y a' b' hj hy ha' hb'
      by_cases hji : j = i
      · subst hji
        rw [hx] at hy; rw [ga] at ha'; rw [gb] at hb'
        injection hy with hy; injection ha' with ha'; injection hb' with hb'
        subst hy ha' hb'
        exact hh
      · exact k4 j y a' b' (by omega) hy ha' hb'
    refine tot_ifb (fun h => ?_) fun h => ?_
    · have h : a ≥ front := of_decide_eq_true h
      refine tot_bind (into_val v x.Speed p3 p4 p5 p6 p7 p8 p9 B p11 p12 s2 s3 e p16 m1 hv0 hv (by omega) hB k1) fun r _ hr => ?_
      obtain ⟨q0, q1, q2, q3⟩ := hr
      rw [q0, w64_id (x := a - front) (by omega) (by omega)]
      refine tot_ifb (fun h2 => tot_some ⟨rfl, fun hk => ?_, q1, q2, q3⟩) fun h2 => tot_some ⟨q1, q2, q3, step ⟨fun _ => ?_, fun h3 => by omega⟩⟩
      · have h2 : inD (B - 40) x.Speed v > a - front := of_decide_eq_true h2
        have := hk.ahead i x a hx ga h
        omega
      · have h2 : ¬ inD (B - 40) x.Speed v > a - front := of_decide_eq_false h2
        omega
    · have h : ¬ a ≥ front := of_decide_eq_false h
      rw [Option.bind_some]
      refine tot_bind (P := fun t => t = true ↔ rear < b ∧ ¬ v ≤ x.Speed) ?_ fun t _ ht => ?_
      · refine tot_ifb (fun h2 => tot_some ?_) fun h2 => tot_some ?_
        · have h2 : b > rear := of_decide_eq_true h2
          simp only [decide_eq_true_eq]
          omega
        · have h2 : ¬ b > rear := of_decide_eq_false h2
          constructor
          · intro h3; cases h3
          · rintro ⟨h3, _⟩; omega
      · refine tot_ifb (fun h2 => tot_some ⟨rfl, fun hk => ?_, k1, rfl, rfl⟩) fun h2 => tot_some ⟨k1, rfl, rfl, step ⟨fun h3 => by omega, fun _ h3 => ?_⟩⟩
        · obtain ⟨h3, h4⟩ := ht.1 h2
          exact h4 (hk.touched i x a b hx ga gb (by omega) h3)
        · by_cases h4 : x.Speed < v
          · have := ht.2 ⟨h3, by omega⟩
            rw [h2] at this; cases this
          · omega
  · obtain ⟨k1, k2, k3, k4⟩ := hs'
    refine ⟨k1, k2, k3, ⟨by omega, fun i x a hx ha hfa => ?_, fun i x a b hx ha hb h4 h5 => ?_⟩⟩
    · have hi := (List.getElem?_eq_some_iff.1 hx).1
      obtain ⟨b, hb⟩ : ∃ b, st[i + 1]? = some b := ⟨st[i + 1]'(by omega), List.getElem?_eq_getElem (by omega)⟩
      exact (k4 i x a b hi hx ha hb).1 hfa
    · exact (k4 i x a b (List.getElem?_eq_some_iff.1 hx).1 hx ha hb).2 h4 h5
end Gm

/- A state that is safe, and what a second makes of it. -/
set_option linter.unusedVariables false
set_option linter.unusedSimpArgs false
set_option maxRecDepth 100000
namespace Gm
open Go Hk Hd Pl

/-- the sure brake is enough, wherever the train is to be slower -/
structure Safe (d len e : Int) (ps : List S_api_Piece) (st : List Int) (s : S_api_State) : Prop where
  v0 : 0 ≤ s.Speed
  stop : inD d 0 s.Speed ≤ e - s.At
  ahead : ∀ (i : Nat) x a, ps[i]? = some x → st[i]? = some a → s.At ≤ a → inD d x.Speed s.Speed ≤ a - s.At
  touched : ∀ (i : Nat) x a b, ps[i]? = some x → st[i]? = some a → st[i + 1]? = some b → a < s.At → s.At - 100 * len < b → s.Speed ≤ x.Speed
/-- a second in which the train becomes slower at least as the sure brake makes it -/
theorem inD_step {d t s v : Int} (hd : 0 < d) (ht : 0 ≤ t) (hs : s ≤ 6000) (hts : t < s) (hv0 : 0 ≤ v) (hv : v ≤ max t (s - d)) : (s + v + 1) / 2 + inD d t v ≤ inD d t s := by
  rw [inD_gt hd hts]
  have := inD_mono hd ht _ v (max t (s - d)) (Nat.le_refl _) hv (by omega)
  omega
/-- the least speed of a second is one that may be -/
theorem floor_may {d len e : Int} {ps : List S_api_Piece} {st : List Int} {s : S_api_State} {v : Int} (hd : 0 < d) (hw : WayOk ps) (hs : Safe d len e ps st s) (h6 : s.Speed ≤ 6000) (hv0 : 0 ≤ v) (hv : v ≤ max 0 (s.Speed - d)) (hvs : v ≤ s.Speed) :
    MayOk d (s.At - 100 * len) (s.At + (s.Speed + v + 1) / 2) v e ps st := by
  have h0 := hs.v0
  refine ⟨?_, fun i x a hx ha hfa => ?_, fun i x a b hx ha hb h1 h2 => ?_⟩
  · by_cases h : 0 < s.Speed
    · have := inD_step hd (Int.le_refl 0) h6 h hv0 hv
      have := hs.stop
      omega
    · have e1 : s.Speed = 0 := by omega
      have e2 : v = 0 := by omega
      have := hs.stop
      rw [e1] at this
      rw [e1, e2]
      omega
  · have hxs := hw x (List.mem_of_getElem? hx)
    have hAt : s.At ≤ a := by omega
    by_cases h : x.Speed < s.Speed
    · have := inD_step (v := v) hd (show 0 ≤ x.Speed by omega) h6 h hv0 (by omega)
      have := hs.ahead i x a hx ha hAt
      omega
    · rw [inD_le (by omega)]; omega
  · have hxs := hw x (List.mem_of_getElem? hx)
    by_cases hAt : a < s.At
    · have := hs.touched i x a b hx ha hb hAt h2
      omega
    · by_cases h : x.Speed < s.Speed
      · have h3 := inD_step (v := v) hd (show 0 ≤ x.Speed by omega) h6 h hv0 (by omega)
        have h4 := hs.ahead i x a hx ha (by omega)
        have h5 := (inD_big hd (show 0 ≤ x.Speed by omega) (v := v) (by omega)).1
        omega
      · omega
/-- what may be is safe -/
theorem may_safe {d len e at_ front v w : Int} {ps : List S_api_Piece} {st : List Int} (hv0 : 0 ≤ v) (hf : at_ ≤ front) (h : MayOk d (at_ - 100 * len) front v e ps st) : Safe d len e ps st (S_api_State.mk front v w) :=
  ⟨hv0, h.stop, h.ahead, fun i x a b hx ha hb h1 h2 => h.touched i x a b hx ha hb h1 (by have h2 : front - 100 * len < b := h2; omega)⟩
/-- the grade where the train is -/
def GradeAt (ps : List S_api_Piece) (st : List Int) (at_ g : Int) : Prop := ∃ (i : Nat) (x : S_api_Piece), ps[i]? = some x ∧ g = x.Grade ∧ (0 < i → ∃ a, st[i]? = some a ∧ a ≤ at_) ∧ (i + 1 < ps.length → ∃ b, st[i + 1]? = some b ∧ at_ < b)
theorem grade_val (at_ : Int) (p1 : ByteArray) (p2 p3 p4 p5 p6 p7 p8 p9 p10 : Int) (ps : List S_api_Piece) (st : List Int) (p13 p14 : Int) (m : List (Int × List Int)) (hst : st.length = ps.length + 1) (hl : ps.length ≤ 60) (h0 : 0 < ps.length) :
    Tot (run_runner_grade at_ p1 p2 p3 p4 p5 p6 p7 p8 p9 p10 ps st p13 p14 m) fun r => GradeAt ps st at_ r.1 ∧ r.2.1 = ps ∧ r.2.2 = st := by
  unfold run_runner_grade
  refine tot_bind (tot_iter (E := fun c => match c with | .go i => 0 ≤ i ∧ i < (ps.length : Int) ∧ (0 < i → ∃ a, st[i.toNat]? = some a ∧ a ≤ at_) ∧ (i + 1 < (ps.length : Int) → ∃ b, st[i.toNat + 1]? = some b ∧ at_ < b) | .out _ => False) (I := fun i => 0 ≤ i ∧ i < (ps.length : Int) ∧ (0 < i → ∃ a, st[i.toNat]? = some a ∧ a ≤ at_)) (μ := fun i => (100 - i).toNat) ⟨by omega, by omega, fun h => by omega⟩ (by unfold bigN; decide) ?_) fun c _ hc => ?_
  · rintro i ⟨h1, h2, h3⟩
    unfold run_runner_grade_b1
    rw [w64_id (x := i + 1) (by omega) (by omega)]
    have gb := get_nth 0 (xs := st) (i := i + 1) (by omega) (by omega)
    rw [show (i + 1).toNat = i.toNat + 1 by omega] at gb
    refine tot_bind (P := fun b => b = true ↔ i + 1 < (ps.length : Int) ∧ nth 0 st (i + 1) ≤ at_) ?_ fun b _ hb => ?_
    · refine tot_ifb (fun h => ?_) fun h => tot_some ?_
      · have h := of_decide_eq_true h
        rw [idx_nth 0 (xs := st) (i := i + 1) (by omega) (by omega), Option.bind_some]
        refine tot_some ?_
        simp [h]
      · have h := of_decide_eq_false h
        simp [h]
    · refine tot_ifb (fun h => tot_some ?_) fun h => tot_some ⟨h1, h2, h3, fun h4 => ⟨_, gb, ?_⟩⟩
      · obtain ⟨h4, h5⟩ := hb.1 h
        refine ⟨⟨by omega, by omega, fun _ => ⟨_, ?_, h5⟩⟩, by omega⟩
        rw [show (i + 1).toNat = i.toNat + 1 by omega]
        exact gb
      · by_cases h5 : nth 0 st (i + 1) ≤ at_
        · have := hb.2 ⟨h4, h5⟩
          rw [h] at this; cases this
        · omega
  · refine tot_on (fun i hi => ?_) (fun x hx => ?_)
    · subst hi
      obtain ⟨a1, a2, a3, a4⟩ := hc
      have gx := get_nth (S_api_Piece.mk 0 0 0) (xs := ps) (i := i) a1 a2
      rw [idx_nth (S_api_Piece.mk 0 0 0) a1 a2, Option.bind_some]
      exact tot_some ⟨⟨i.toNat, _, gx, rfl, fun h => a3 (by omega), fun h => a4 (by omega)⟩, rfl, rfl⟩
    · subst hx; exact hc.elim
/-- a second of a run -/
structure Step (p : S_api_Stock) (e cap : Int) (ps : List S_api_Piece) (st : List Int) (a b : S_api_State) : Prop where
  at_ : b.At = a.At + (a.Speed + b.Speed + 1) / 2
  v0 : 0 ≤ b.Speed
  vc : b.Speed ≤ cap
  may : MayOk (p.Brake - 40) (a.At - 100 * p.Length) b.At b.Speed e ps st
  ex : ∃ g gn, GradeAt ps st a.At g ∧ run_gain p a.Speed g = some gn ∧ max 0 (a.Speed - (p.Brake + g)) ≤ b.Speed ∧ b.Speed ≤ max (min (w64 (a.Speed + gn)) cap) (max 0 (a.Speed - (p.Brake + g)))
  work : a.Work ≤ b.Work ∧ b.Work ≤ a.Work + 100000000000
end Gm

/- Where pieces begin; what the checks say; the grade. -/
set_option linter.unusedVariables false
set_option linter.unusedSimpArgs false
set_option maxRecDepth 100000
namespace Gm
open Go Hk Hd Pl

theorem drag_quo {v D : Int} (h0 : 0 ≤ v) (h6 : v ≤ 6000) (hD : 1000000 ≤ D) : ∃ q, gquoK .i64 (w64 (v * v)) D = some q ∧ 0 ≤ q ∧ q ≤ 36 := by
  have hb : v * v ≤ 6000 * 6000 := Int.mul_le_mul h6 h6 h0 (by omega)
  have hn : 0 ≤ v * v := Int.mul_nonneg h0 h0
  rw [w64_id (x := v * v) (by omega) (by omega)]
  unfold gquoK
  rw [if_neg (by omega), Int.tdiv_eq_ediv_of_nonneg hn]
  have h1 : 0 ≤ v * v / D := Int.ediv_nonneg hn (by omega)
  have h2 : v * v / D ≤ 36 := by
    have : v * v / D < 37 := Int.ediv_lt_of_lt_mul (by omega) (by omega)
    omega
  exact ⟨_, congrArg some (w64_id (by omega) (by omega)), h1, h2⟩
theorem gradeAt_bound {ps : List S_api_Piece} {st : List Int} {a g : Int} (hw : WayOk ps) (h : GradeAt ps st a g) : -40 ≤ g ∧ g ≤ 40 := by
  obtain ⟨i, x, h1, h2, _⟩ := h
  have := hw x (List.mem_of_getElem? h1)
  omega
/-- where the pieces begin -/
structure Starts (ps : List S_api_Piece) (st : List Int) : Prop where
  len : st.length = ps.length + 1
  zero : st[0]? = some 0
  next : ∀ (i : Nat) x a, ps[i]? = some x → st[i]? = some a → st[i + 1]? = some (a + x.Length)
theorem starts_mono {ps : List S_api_Piece} {st : List Int} (h : Starts ps st) (hL : ∀ x ∈ ps, 1 ≤ x.Length ∧ x.Length ≤ 300000) {i : Nat} {a : Int} (ha : st[i]? = some a) : ∀ (k : Nat) b, st[i + k]? = some b → a + k ≤ b ∧ b ≤ a + k * 300000
  | 0, b, hb => by rw [Nat.add_zero, ha] at hb; injection hb with hb; omega
  | k + 1, b, hb => by
    have hlt := (List.getElem?_eq_some_iff.1 hb).1
    have hl := h.len
    obtain ⟨c, hc⟩ : ∃ c, st[i + k]? = some c := ⟨st[i + k]'(by omega), List.getElem?_eq_getElem (by omega)⟩
    obtain ⟨x, hx⟩ : ∃ x, ps[i + k]? = some x := ⟨ps[i + k]'(by omega), List.getElem?_eq_getElem (by omega)⟩
    have ih := starts_mono h hL ha k c hc
    have hn := h.next _ x c hx hc
    rw [show i + (k + 1) = i + k + 1 by omega, hn] at hb
    injection hb with hb
    have := hL x (List.mem_of_getElem? hx)
    rw [← hb]
    have e : ((k + 1 : Nat) : Int) * 300000 = (k : Int) * 300000 + 300000 := by push_cast; omega
    rw [e]
    omega
theorem starts_all {ps : List S_api_Piece} {st : List Int} (h : Starts ps st) (hL : ∀ x ∈ ps, 1 ≤ x.Length ∧ x.Length ≤ 300000) (hl : ps.length ≤ 60) : ∀ a ∈ st, 0 ≤ a ∧ a ≤ 20000000 := by
  intro a ha
  obtain ⟨i, hi⟩ := List.mem_iff_getElem?.1 ha
  have hlt := (List.getElem?_eq_some_iff.1 hi).1
  have := starts_mono h hL h.zero i a (by simpa using hi)
  have hl2 := h.len
  omega
theorem newRunner_val (p : S_api_Stock) (ps : List S_api_Piece) (a b : Int) (hl : ps.length ≤ 60) (hL : ∀ x ∈ ps, 1 ≤ x.Length ∧ x.Length ≤ 300000) :
    ∃ st : List Int, Starts ps st ∧ run_newRunner p ps a b = some (p.Name, p.Length, p.Mass, p.Start, p.Power, p.Roll, p.Drag, p.Brake, p.Top, p.Seats, ps, a, b, st, ([] : List (Int × (List Int)))) := by
  have : Tot (run_newRunner p ps a b) fun r => ∃ st : List Int, Starts ps st ∧ r = (p.Name, p.Length, p.Mass, p.Start, p.Power, p.Roll, p.Drag, p.Brake, p.Top, p.Seats, ps, a, b, st, ([] : List (Int × (List Int)))) := by
    unfold run_newRunner
    refine tot_loopX (I := fun i s => s.length = i + 1 ∧ s[0]? = some 0 ∧ (∀ (j : Nat) x c, j < i → ps[j]? = some x → s[j]? = some c → s[j + 1]? = some (c + x.Length)) ∧ ∀ c, s[i]? = some c → 0 ≤ c ∧ c ≤ i * 300000) (J := fun s => Starts ps s) (E := fun x => x.elim) ⟨rfl, rfl, fun j x c hj => by omega, fun c hc => by simp at hc; subst hc; simp⟩ (fun i x s hx hs => ?_) (fun s hs => ⟨hs.1, hs.2.1, fun i x c hx hc => hs.2.2.1 i x c (List.getElem?_eq_some_iff.1 hx).1 hx hc⟩) (fun s hs => tot_some ⟨s, hs, rfl⟩) (fun x hx => x.elim)
    obtain ⟨h1, h2, h3, h4⟩ := hs
    have hi := (List.getElem?_eq_some_iff.1 hx).1
    unfold run_newRunner_b1
    have gy := get_nth 0 (xs := s) (i := (i : Int)) (by omega) (by omega)
    rw [show ((i : Int)).toNat = i by omega] at gy
    rw [idx_nth 0 (xs := s) (i := (i : Int)) (by omega) (by omega), Option.bind_some]
    generalize nth 0 s (i : Int) = y at gy
    have hy := h4 y gy
    have hx2 := hL x (List.mem_of_getElem? hx)
    rw [w64_id (x := y + x.Length) (by omega) (by omega), gapp_ok (by simp only [List.length_cons, List.length_nil]; omega) (by simp only [List.length_cons, List.length_nil]; omega), Option.bind_some]
    refine tot_some ⟨by simp [h1], by rw [List.getElem?_append_left (by omega)]; exact h2, fun j z c hj hz hc => ?_, fun c hc => ?_⟩
    · rw [List.getElem?_append_left (by omega)] at hc
      by_cases hji : j = i
      · subst hji
        rw [hx] at hz; injection hz with hz; subst hz
        rw [gy] at hc; injection hc with hc; subst hc
        rw [List.getElem?_append_right (by omega), show j + 1 - s.length = 0 by omega]
        rfl
      · rw [List.getElem?_append_left (by omega)]
        exact h3 j z c (by omega) hz hc
    · rw [List.getElem?_append_right (by omega), show i + 1 - s.length = 0 by omega] at hc
      simp at hc
      have e : ((i + 1 : Nat) : Int) * 300000 = (i : Int) * 300000 + 300000 := by push_cast; omega
      rw [e]
      omega
  obtain ⟨r, h1, st, h2, h3⟩ := this
  exact ⟨st, h2, by rw [h1, h3]⟩
theorem check_val {p : S_api_Stock} {ps : List S_api_Piece} (s : S_api_State) (e : Int) (h : p.Name.size ≤ maxLen) : Tot (run_check p ps s e) fun r => r = 0 → run_Check p = some 0 ∧ Stk p ∧ WayOk ps ∧ (∀ x ∈ ps, 1 ≤ x.Length ∧ x.Length ≤ 300000) ∧ ps.length ≤ 60 ∧ 0 < ps.length ∧ 0 ≤ e ∧ e ≤ 18000000 ∧ 0 ≤ s.At ∧ s.At ≤ e := by
  unfold run_check
  refine tot_bind (check_tot h) fun r hrc hr => ?_
  refine tot_ifb (fun h => tot_some fun h0 => by rw [h0] at h; simp at h) fun hr0 => ?_
  have hr0 : r = 0 := by simpa using hr0
  have hs := hr hr0
  subst hr0
  refine tot_ifb (fun _ => tot_some fun h => absurd h (by decide)) fun h1 => ?_
  refine tot_ifb (fun _ => tot_some fun h => absurd h (by decide)) fun h2 => ?_
  have h1 : ¬ (ps.length : Int) = 0 := by simpa using h1
  have h2 : ¬ (ps.length : Int) > 60 := of_decide_eq_false h2
  let PO (x : S_api_Piece) : Prop := (1 ≤ x.Length ∧ x.Length ≤ 300000) ∧ -40 ≤ x.Grade ∧ x.Grade ≤ 40 ∧ 1 ≤ x.Speed ∧ x.Speed ≤ 6000
  refine tot_loopX (I := fun i t => (0 ≤ t ∧ t ≤ i * 300000) ∧ ∀ (j : Nat) x, j < i → ps[j]? = some x → PO x) (J := fun t => (0 ≤ t ∧ t ≤ 18000000) ∧ ∀ x ∈ ps, PO x) (E := fun r => r = 2) ⟨by simp, fun j x hj => by omega⟩ (fun i x s hx hs => ?_) (fun s hs => ?_) (fun t ht => ?_) (fun r hr => tot_some fun h => by rw [hr] at h; exact absurd h (by decide))
  · unfold run_check_b1
    rw [within_eq, within_eq, within_eq]
    have hi := (List.getElem?_eq_some_iff.1 hx).1
    refine tot_bind (P := fun b => b = false → PO x) ?_ fun b _ hb => ?_
    · rw [Option.bind_some]
      refine tot_ifb (fun _ => tot_some fun h => by cases h) fun h5 => ?_
      rw [Option.bind_some]
      refine tot_ifb (fun _ => tot_some fun h => by cases h) fun h3 => ?_
      rw [Option.bind_some]
      refine tot_some fun h4 => ?_
      have h5 : 1 ≤ x.Length ∧ x.Length ≤ 300000 := by simpa using h5
      have h3 : -40 ≤ x.Grade ∧ x.Grade ≤ 40 := by simpa using h3
      have h4 : 1 ≤ x.Speed ∧ x.Speed ≤ 6000 := by simpa using h4
      exact ⟨h5, h3.1, h3.2, h4.1, h4.2⟩
    · refine tot_ifb (fun _ => tot_some rfl) fun hbf => tot_some ?_
      have hpo := hb hbf
      obtain ⟨⟨t0, t1⟩, hall⟩ := hs
      have hp1 := hpo.1
      dsimp only
      rw [w64_id (by omega) (by omega)]
      have e : ((i + 1 : Nat) : Int) * 300000 = (i : Int) * 300000 + 300000 := by push_cast; omega
      refine ⟨⟨by omega, by rw [e]; omega⟩, fun j y hj hy => ?_⟩
      by_cases hji : j = i
      · subst hji
        rw [hx] at hy
        injection hy with hy
        subst hy
        exact hpo
      · exact hall j y (by omega) hy
  · obtain ⟨⟨t0, t1⟩, hall⟩ := hs
    refine ⟨⟨t0, by omega⟩, fun x hx => ?_⟩
    obtain ⟨j, hj⟩ := List.mem_iff_getElem?.1 hx
    exact hall j x (List.getElem?_eq_some_iff.1 hj).1 hj
  · obtain ⟨⟨t0, t1⟩, hall⟩ := ht
    refine tot_bind (P := fun b => b = false → (0 ≤ e ∧ e ≤ t) ∧ 0 ≤ s.At ∧ s.At ≤ e) ?_ fun b _ hb => ?_
    · rw [within_eq, within_eq, within_eq, within_eq]
      simp only [Option.bind_some]
      refine tot_ifb (fun _ => tot_some fun h => by cases h) fun h3 => ?_
      refine tot_ifb (fun _ => tot_some fun h => by cases h) fun h4 => ?_
      have h3 : 0 ≤ e ∧ e ≤ t := by simpa using h3
      have h4 : 0 ≤ s.At ∧ s.At ≤ e := by simpa using h4
      refine tot_ifb (fun _ => tot_some fun h => by cases h) fun _ => tot_some fun _ => ⟨h3, h4⟩
    · refine tot_ifb (fun _ => tot_some fun h => absurd h (by decide)) fun hbf => tot_some fun _ => ?_
      obtain ⟨h3, h4⟩ := hb hbf
      exact ⟨hrc, hs, fun x hx => (hall x hx).2, fun x hx => (hall x hx).1, by omega, by omega, h3.1, by omega, h4.1, h4.2⟩
theorem grade_unique {ps : List S_api_Piece} {st : List Int} (h : Starts ps st) (hL : ∀ x ∈ ps, 1 ≤ x.Length ∧ x.Length ≤ 300000) {at_ g g' : Int} (h1 : GradeAt ps st at_ g) (h2 : GradeAt ps st at_ g') : g = g' := by
  have key : ∀ (i j : Nat), i < ps.length → j < ps.length → (0 < j → ∃ a, st[j]? = some a ∧ a ≤ at_) → (i + 1 < ps.length → ∃ b, st[i + 1]? = some b ∧ at_ < b) → ¬ i < j := by
    intro i j hi hj ha hb hij
    obtain ⟨a, a1, a2⟩ := ha (by omega)
    obtain ⟨b, b1, b2⟩ := hb (by omega)
    have := starts_mono h hL b1 (j - (i + 1)) a (by rw [show i + 1 + (j - (i + 1)) = j by omega]; exact a1)
    omega
  obtain ⟨i, x, a1, a2, a3, a4⟩ := h1
  obtain ⟨j, y, b1, b2, b3, b4⟩ := h2
  have li := (List.getElem?_eq_some_iff.1 a1).1
  have lj := (List.getElem?_eq_some_iff.1 b1).1
  have k1 := key i j li lj b3 a4
  have k2 := key j i lj li a3 b4
  have : i = j := by omega
  subst this
  rw [a1] at b1
  injection b1 with b1
  subst b1
  omega
theorem Gain_val {p : S_api_Stock} (hck : run_Check p = some 0) {v g gn : Int} (hv : 0 ≤ v ∧ v ≤ 6000) (hg : -40 ≤ g ∧ g ≤ 40) (h : run_gain p v g = some gn) : run_Gain p v g = some (gn, 0) := by
  unfold run_Gain
  rw [hck, Option.bind_some, within_eq, within_eq, Option.bind_some, Option.bind_some, h]
  simp [ifb, hv, hg]
end Gm
