/- A telegram's sum: what it is of bits, and that it is linear. -/
import Derived.Test.YtgflagiblnkchaaDoorZP
import Derived.Test.YtgflagiblnkchaaDoorK5
set_option linter.unusedVariables false
set_option linter.unusedSimpArgs false
set_option maxRecDepth 100000
namespace Gp
open Go Hk Hd Pl

theorem wrap8 (n : Int) : IntKind.u8.wrap n = n % 256 := by simp [IntKind.wrap, IntKind.bits, IntKind.signed]
theorem wrap16 (n : Int) : IntKind.u16.wrap n = n % 65536 := by simp [IntKind.wrap, IntKind.bits, IntKind.signed]
def bs (l : List (BitVec 8)) : List Int := l.map fun b => (b.toNat : Int)
def step (x : BitVec 16) : BitVec 16 := bif x.msb then (x <<< 1) ^^^ 4129#16 else x <<< 1
def stepN : Nat → BitVec 16 → BitVec 16
  | 0, x => x
  | n + 1, x => step (stepN n x)
def inB (s : BitVec 16) (b : BitVec 8) : BitVec 16 := stepN 8 (s ^^^ (b.setWidth 16 <<< 8))
theorem xx (a b c d : BitVec 16) : (a ^^^ b) ^^^ (c ^^^ d) = (a ^^^ c) ^^^ (b ^^^ d) := by
  rw [BitVec.xor_assoc, BitVec.xor_assoc, ← BitVec.xor_assoc b, BitVec.xor_comm b c, BitVec.xor_assoc c]
theorem step_xor (x y : BitVec 16) : step (x ^^^ y) = step x ^^^ step y := by
  unfold step
  rw [BitVec.msb_xor, BitVec.shiftLeft_xor_distrib]
  cases x.msb <;> cases y.msb
  · rfl
  · simp [BitVec.xor_assoc]
  · simp only [Bool.xor_false, cond_true, cond_false]
    rw [BitVec.xor_assoc, BitVec.xor_comm (y <<< 1), ← BitVec.xor_assoc]
  · simp only [Bool.xor_true, Bool.not_true, cond_true, cond_false]
    rw [xx, BitVec.xor_self, BitVec.xor_zero]
theorem stepN_xor : ∀ n (x y : BitVec 16), stepN n (x ^^^ y) = stepN n x ^^^ stepN n y
  | 0, _, _ => rfl
  | n + 1, x, y => by
    unfold stepN
    rw [stepN_xor n, step_xor]
theorem inB_xor (s t : BitVec 16) (b c : BitVec 8) : inB (s ^^^ t) (b ^^^ c) = inB s b ^^^ inB t c := by
  unfold inB
  rw [← stepN_xor, BitVec.setWidth_xor, BitVec.shiftLeft_xor_distrib, xx]
def sumB (s : BitVec 16) (l : List (BitVec 8)) : BitVec 16 := l.foldl inB s
/-- what Read looks at: the sum of the first six, and the last two -/
def syn (s : BitVec 16) : List (BitVec 8) → BitVec 16
  | [a, b, c, d, e, f, g, h] => inB (inB (inB (inB (inB (inB s a) b) c) d) e) f ^^^ (g.setWidth 16 <<< 8 ^^^ h.setWidth 16)
  | _ => 0
theorem syn_xor (s t : BitVec 16) {a b c d e f g h a' b' c' d' e' f' g' h' : BitVec 8} :
    syn (s ^^^ t) [a ^^^ a', b ^^^ b', c ^^^ c', d ^^^ d', e ^^^ e', f ^^^ f', g ^^^ g', h ^^^ h'] = syn s [a, b, c, d, e, f, g, h] ^^^ syn t [a', b', c', d', e', f', g', h'] := by
  unfold syn
  dsimp only
  simp only [inB_xor, BitVec.setWidth_xor, BitVec.shiftLeft_xor_distrib]
  simp only [xx]
/-- the bit number n alone -/
def unitB (n : Nat) : List (BitVec 8) := (List.replicate 8 0#8).set (n / 8) (1#8 <<< (n % 8))
def tB (n : Nat) : BitVec 16 := syn 0 (unitB n)
def flipB (l : List (BitVec 8)) (n : Nat) : List (BitVec 8) := l.set (n / 8) ((l[n / 8]?).getD 0 ^^^ (1#8 <<< (n % 8)))
theorem flipB_len (l : List (BitVec 8)) (n : Nat) : (flipB l n).length = l.length := by unfold flipB; simp
theorem len8 {l : List (BitVec 8)} (h : l.length = 8) : ∃ a b c d e f g i, l = [a, b, c, d, e, f, g, i] := by
  match l, h with
  | [a, b, c, d, e, f, g, i], _ => exact ⟨a, b, c, d, e, f, g, i, rfl⟩
theorem syn_flip {l : List (BitVec 8)} (s : BitVec 16) (h : l.length = 8) {n : Nat} (hn : n < 64) : syn s (flipB l n) = syn s l ^^^ tB n := by
  obtain ⟨a, b, c, d, e, f, g, i, rfl⟩ := len8 h
  have h8 : n / 8 < 8 := by omega
  unfold tB flipB unitB
  generalize n / 8 = k at h8
  have hs : s = s ^^^ 0#16 := by simp
  generalize (1#8 <<< (n % 8)) = u
  match k, h8 with
  | 0, _ => have := syn_xor s 0 (a := a) (b := b) (c := c) (d := d) (e := e) (f := f) (g := g) (h := i) (a' := u) (b' := 0) (c' := 0) (d' := 0) (e' := 0) (f' := 0) (g' := 0) (h' := 0); simpa using this
  | 1, _ => have := syn_xor s 0 (a := a) (b := b) (c := c) (d := d) (e := e) (f := f) (g := g) (h := i) (a' := 0) (b' := u) (c' := 0) (d' := 0) (e' := 0) (f' := 0) (g' := 0) (h' := 0); simpa using this
  | 2, _ => have := syn_xor s 0 (a := a) (b := b) (c := c) (d := d) (e := e) (f := f) (g := g) (h := i) (a' := 0) (b' := 0) (c' := u) (d' := 0) (e' := 0) (f' := 0) (g' := 0) (h' := 0); simpa using this
  | 3, _ => have := syn_xor s 0 (a := a) (b := b) (c := c) (d := d) (e := e) (f := f) (g := g) (h := i) (a' := 0) (b' := 0) (c' := 0) (d' := u) (e' := 0) (f' := 0) (g' := 0) (h' := 0); simpa using this
  | 4, _ => have := syn_xor s 0 (a := a) (b := b) (c := c) (d := d) (e := e) (f := f) (g := g) (h := i) (a' := 0) (b' := 0) (c' := 0) (d' := 0) (e' := u) (f' := 0) (g' := 0) (h' := 0); simpa using this
  | 5, _ => have := syn_xor s 0 (a := a) (b := b) (c := c) (d := d) (e := e) (f := f) (g := g) (h := i) (a' := 0) (b' := 0) (c' := 0) (d' := 0) (e' := 0) (f' := u) (g' := 0) (h' := 0); simpa using this
  | 6, _ => have := syn_xor s 0 (a := a) (b := b) (c := c) (d := d) (e := e) (f := f) (g := g) (h := i) (a' := 0) (b' := 0) (c' := 0) (d' := 0) (e' := 0) (f' := 0) (g' := u) (h' := 0); simpa using this
  | 7, _ => have := syn_xor s 0 (a := a) (b := b) (c := c) (d := d) (e := e) (f := f) (g := g) (h := i) (a' := 0) (b' := 0) (c' := 0) (d' := 0) (e' := 0) (f' := 0) (g' := 0) (h' := u); simpa using this
def tabB : List Nat := (List.range 64).map fun n => (tB n).toNat
theorem one_two : (tabB.all fun x => x != 0 && tabB.all fun y => (x == y) || (x ^^^ y != 0 && tabB.all fun z => x ^^^ y ^^^ z != 0)) = true := by decide +kernel
theorem nodupB : tabB.Nodup := by decide +kernel
end Gp

/- GuardFlips: what Write writes Read reads; with one, two or three bits changed it is refused. -/
set_option linter.unusedVariables false
set_option linter.unusedSimpArgs false
set_option maxRecDepth 100000
namespace Gp
open Go Hk Hd Pl

theorem of16 (S : BitVec 16) : BitVec.ofInt 16 (S.toNat : Int) = S := by
  rw [BitVec.ofInt_natCast, BitVec.ofNat_toNat, BitVec.setWidth_eq]
theorem ixor16 (S T : BitVec 16) : Hd.ixor .u16 (S.toNat : Int) (T.toNat : Int) = ((S ^^^ T).toNat : Int) := by
  show IntKind.u16.wrap (((BitVec.ofInt 16 (S.toNat : Int) ^^^ BitVec.ofInt 16 (T.toNat : Int) : BitVec 16).toNat : Nat) : Int) = _
  rw [of16, of16, wrap16]
  have := (S ^^^ T).isLt
  exact Int.emod_eq_of_lt (Int.natCast_nonneg _) (by omega)
theorem gshl16 (S : BitVec 16) : gshl .u16 (S.toNat : Int) 1 = some ((S <<< 1).toNat : Int) := by
  unfold gshl
  rw [if_neg (by decide), wrap16, BitVec.toNat_shiftLeft, Nat.shiftLeft_eq]
  refine congrArg some ?_
  have : min (1 : Int).toNat IntKind.u16.bits = 1 := by decide
  rw [this]
  omega
theorem and_pow (n : Nat) : (n &&& 32768 % 2 ^ 16) = (n.testBit 15).toNat * 2 ^ 15 := by
  have e : 32768 % 2 ^ 16 = 2 ^ 15 := by decide
  rw [e]
  apply Nat.eq_of_testBit_eq
  intro j
  rw [Nat.testBit_and, Nat.testBit_two_pow]
  by_cases h : 15 = j
  · subst h
    cases n.testBit 15
    · simp
    · rw [Bool.toNat_true, Nat.one_mul, Nat.testBit_two_pow]; rfl
  · cases n.testBit 15
    · simp [h]
    · rw [Bool.toNat_true, Nat.one_mul, Nat.testBit_two_pow]; simp [h]
theorem top16 (S : BitVec 16) : (Hd.iand .u16 (S.toNat : Int) 32768 != 0) = S.msb := by
  show (IntKind.u16.wrap (((BitVec.ofInt 16 (S.toNat : Int) &&& BitVec.ofInt 16 32768 : BitVec 16).toNat : Nat) : Int) != 0) = _
  rw [of16, wrap16]
  have e : BitVec.ofInt 16 32768 = 32768#16 := by decide
  have l := (S &&& 32768#16).isLt
  rw [e, Int.emod_eq_of_lt (Int.natCast_nonneg _) (by omega), BitVec.toNat_and, BitVec.toNat_ofNat]
  have : (S.toNat &&& 32768 % 2 ^ 16) = (S.toNat.testBit 15).toNat * 2 ^ 15 := by
    exact and_pow S.toNat
  rw [this]
  have m : S.msb = S.toNat.testBit 15 := by
    rw [BitVec.msb_eq_getLsbD_last]; rfl
  rw [m]
  cases S.toNat.testBit 15 <;> rfl
theorem shl8 (b : BitVec 8) : gshl .u16 (IntKind.u16.wrap (b.toNat : Int)) 8 = some ((b.setWidth 16 <<< 8).toNat : Int) := by
  have hb := b.isLt
  unfold gshl
  rw [if_neg (by decide), wrap16, wrap16, BitVec.toNat_shiftLeft, Nat.shiftLeft_eq, BitVec.toNat_setWidth]
  refine congrArg some ?_
  have : min (8 : Int).toNat IntKind.u16.bits = 8 := by decide
  rw [this]
  omega
theorem round_tot (S : BitVec 16) : iter guard_Sum_b2 ((S.toNat : Int), 0) = some (.go ((stepN 8 S).toNat : Int)) := by
  refine tot_eq (tot_iter (I := fun s => 0 ≤ s.2 ∧ s.2 ≤ 8 ∧ s.1 = ((stepN s.2.toNat S).toNat : Int)) (μ := fun s => (8 - s.2).toNat) ⟨by simp, by simp, rfl⟩ (by unfold bigN; simp) ?_)
  rintro ⟨s, k⟩ ⟨h0, h1, h2⟩
  dsimp only at h0 h1 h2
  subst h2
  unfold guard_Sum_b2
  dsimp only
  refine tot_ifb (fun hk => ?_) fun hk => ?_
  · have hk : k < 8 := of_decide_eq_true hk
    rw [gshl16, Option.bind_some, top16]
    have hw : w64 (k + 1) = k + 1 := w64_id (by omega) (by omega)
    have hn : (k + 1).toNat = k.toNat + 1 := by omega
    have e : stepN (k.toNat + 1) S = step (stepN k.toNat S) := rfl
    refine tot_bind (P := fun x => x = ((step (stepN k.toNat S)).toNat : Int)) ?_ fun x _ hx => tot_some ?_
    · unfold step
      have e4 : (4129 : Int) = ((4129#16).toNat : Int) := by decide
      refine tot_ifb (fun hm => tot_some ?_) fun hm => tot_some ?_
      · rw [hm, cond_true, e4, ixor16]
      · rw [hm, cond_false]
    · subst hx
      dsimp only
      rw [hw, hn]
      exact ⟨⟨by omega, by omega, by rw [e]⟩, by omega⟩
  · have hk : ¬ k < 8 := of_decide_eq_false hk
    have : k = 8 := by omega
    subst this
    exact tot_some rfl
theorem sum_eq (l : List (BitVec 8)) (hl : l.length < 100) : guard_Sum (bs l) = some ((sumB 65535#16 l).toNat : Int) := by
  unfold guard_Sum
  refine tot_eq (tot_loopX (I := fun i s => s = ((sumB 65535#16 (l.take i)).toNat : Int)) (J := fun s => s = ((sumB 65535#16 l).toNat : Int)) (E := fun _ => False) ?_ ?_ ?_ ?_ (fun x h => h.elim))
  · rfl
  · intro i x s hx hs
    subst hs
    unfold bs at hx
    rw [List.getElem?_map] at hx
    cases hg : l[i]? with
    | none => rw [hg] at hx; cases hx
    | some b =>
      rw [hg] at hx
      injection hx with hx
      subst hx
      unfold guard_Sum_b1
      rw [shl8, Option.bind_some, ixor16, round_tot, Option.bind_some]
      refine tot_some ?_
      show _ = _
      have hi := (List.getElem?_eq_some_iff.1 hg).1
      have hb := (List.getElem?_eq_some_iff.1 hg).2
      rw [List.take_add_one, hg]
      unfold sumB
      rw [List.foldl_append]
      rfl
  · intro s hs
    rw [hs]
    unfold bs
    rw [List.length_map, List.take_length]
  · intro s hs
    subst hs
    refine tot_some (w64_id (by omega) ?_)
    have := (sumB 65535#16 l).isLt
    omega
theorem xor_or (a : Nat) {b : Nat} (h : b < 256) : (a * 2 ^ 8 ^^^ b) = (a * 2 ^ 8 ||| b) := by
  apply Nat.eq_of_testBit_eq
  intro j
  rw [Nat.testBit_xor, Nat.testBit_or, Nat.testBit_mul_two_pow]
  by_cases hj : 8 ≤ j
  · have : b.testBit j = false := Nat.testBit_lt_two_pow (Nat.lt_of_lt_of_le h (Nat.pow_le_pow_right (by decide : 0 < 2) hj))
    rw [this]; simp
  · simp [hj]
theorem shl64 (g : BitVec 8) : gshl .i64 (w64 (g.toNat : Int)) 8 = some ((g.toNat * 256 : Nat) : Int) := by
  have hg := g.isLt
  unfold gshl
  rw [if_neg (by decide), w64_id (x := (g.toNat : Int)) (by omega) (by omega)]
  have : min (8 : Int).toNat IntKind.i64.bits = 8 := by decide
  rw [this]
  refine congrArg some ?_
  rw [show IntKind.i64.wrap _ = w64 _ from rfl, w64_id (by omega) (by omega)]
  omega
theorem or64 (g i : BitVec 8) : Hd.ior .i64 ((g.toNat * 256 : Nat) : Int) (w64 (i.toNat : Int)) = ((g.toNat * 256 + i.toNat : Nat) : Int) := by
  have hg := g.isLt
  have hi := i.isLt
  rw [w64_id (x := (i.toNat : Int)) (by omega) (by omega)]
  unfold Hd.ior
  rw [BitVec.ofInt_natCast, BitVec.ofInt_natCast, BitVec.toNat_or, BitVec.toNat_ofNat, BitVec.toNat_ofNat]
  have b64 : IntKind.i64.bits = 64 := rfl
  rw [b64, Nat.mod_eq_of_lt (a := g.toNat * 256) (by omega), Nat.mod_eq_of_lt (a := i.toNat) (by omega)]
  have := Nat.shiftLeft_add_eq_or_of_lt (b := i.toNat) (i := 8) hi g.toNat
  rw [Nat.shiftLeft_eq] at this
  rw [show g.toNat * 256 = g.toNat * 2 ^ 8 from rfl, ← this]
  exact w64_id (by omega) (by omega)
theorem two8 (g i : BitVec 8) : (g.setWidth 16 <<< 8 ^^^ i.setWidth 16 : BitVec 16).toNat = g.toNat * 256 + i.toNat := by
  have hg := g.isLt
  have hi := i.isLt
  rw [BitVec.toNat_xor, BitVec.toNat_shiftLeft, BitVec.toNat_setWidth, BitVec.toNat_setWidth, Nat.shiftLeft_eq, Nat.mod_eq_of_lt (a := g.toNat) (by omega), Nat.mod_eq_of_lt (a := i.toNat) (by omega), Nat.mod_eq_of_lt (by omega)]
  have := Nat.shiftLeft_add_eq_or_of_lt (b := i.toNat) (i := 8) hi g.toNat
  rw [Nat.shiftLeft_eq] at this
  rw [show g.toNat * 256 = g.toNat * 2 ^ 8 from rfl, this]
  exact xor_or g.toNat hi
theorem syn_zero {a b c d e f g i : BitVec 8} : syn 65535#16 [a, b, c, d, e, f, g, i] = 0 ↔ (sumB 65535#16 [a, b, c, d, e, f]).toNat = g.toNat * 256 + i.toNat := by
  rw [← two8]
  constructor
  · intro h
    unfold syn at h
    dsimp only at h
    have := BitVec.xor_eq_zero_iff.1 h
    rw [← this]
    rfl
  · intro h
    unfold syn
    dsimp only
    exact BitVec.xor_eq_zero_iff.2 (BitVec.eq_of_toNat_eq h)
/-- how Read begins -/
theorem read_head (a b c d e f g i : BitVec 8) {Q : Int × S_guard_Telegram → Prop} (hbad : syn 65535#16 [a, b, c, d, e, f, g, i] ≠ 0 → Q (11, S_guard_Telegram.mk 0 0 0))
    (hgood : syn 65535#16 [a, b, c, d, e, f, g, i] = 0 → Tot (ifb ((a.toNat : Int) != 82) (some (1, (S_guard_Telegram.mk 0 0 0))) ((guard_Telegram_check (S_guard_Telegram.mk ((b.toNat * 256 + c.toNat : Nat) : Int) (d.toNat : Int) ((e.toNat * 256 + f.toNat : Nat) : Int))).bind fun (x28 : Int) => (ifb (x28 != 0) (some (x28, (S_guard_Telegram.mk 0 0 0))) (some (0, (S_guard_Telegram.mk ((b.toNat * 256 + c.toNat : Nat) : Int) (d.toNat : Int) ((e.toNat * 256 + f.toNat : Nat) : Int))))))) Q) :
    Tot (guard_Read (bs [a, b, c, d, e, f, g, i])) Q := by
  unfold guard_Read
  have e6 : gcut (bs [a, b, c, d, e, f, g, i]) 0 6 = some (bs [a, b, c, d, e, f]) := rfl
  have i0 : idx (bs [a, b, c, d, e, f, g, i]) (0 : Int) = some (a.toNat : Int) := rfl
  have i1 : idx (bs [a, b, c, d, e, f, g, i]) (1 : Int) = some (b.toNat : Int) := rfl
  have i2 : idx (bs [a, b, c, d, e, f, g, i]) (2 : Int) = some (c.toNat : Int) := rfl
  have i3 : idx (bs [a, b, c, d, e, f, g, i]) (3 : Int) = some (d.toNat : Int) := rfl
  have i4 : idx (bs [a, b, c, d, e, f, g, i]) (4 : Int) = some (e.toNat : Int) := rfl
  have i5 : idx (bs [a, b, c, d, e, f, g, i]) (5 : Int) = some (f.toNat : Int) := rfl
  have i6 : idx (bs [a, b, c, d, e, f, g, i]) (6 : Int) = some (g.toNat : Int) := rfl
  have i7 : idx (bs [a, b, c, d, e, f, g, i]) (7 : Int) = some (i.toNat : Int) := rfl
  have hd := d.isLt
  refine tot_ifb (fun hx => absurd hx (by simp [bs])) fun _ => ?_
  rw [e6, Option.bind_some, sum_eq _ (by simp), Option.bind_some, i6, Option.bind_some, shl64, Option.bind_some, i7, Option.bind_some, or64]
  refine tot_ifb (fun hx => tot_some (hbad fun h => ?_)) fun hx => ?_
  · have hx := bne_iff_ne.1 hx
    exact hx (by rw [syn_zero.1 h])
  · have hx := bne_eq_false_iff_eq.1 hx
    have := hgood (syn_zero.2 (by exact_mod_cast hx))
    rw [i0, Option.bind_some, i1, Option.bind_some, shl64, Option.bind_some, i2, Option.bind_some, or64, i3, Option.bind_some, w64_id (x := (d.toNat : Int)) (by omega) (by omega), i4, Option.bind_some, shl64, Option.bind_some, i5, Option.bind_some, or64]
    exact this
theorem read_bad {l : List (BitVec 8)} (h : l.length = 8) (hs : syn 65535#16 l ≠ 0) : Tot (guard_Read (bs l)) fun r => r.1 = 11 := by
  obtain ⟨a, b, c, d, e, f, g, i, rfl⟩ := len8 h
  exact read_head a b c d e f g i (fun _ => rfl) (fun h => absurd h hs)
end Gp

/- GuardFlips: what Write writes Read reads; with one, two or three bits changed it is refused. -/
set_option linter.unusedVariables false
set_option linter.unusedSimpArgs false
set_option maxRecDepth 100000
namespace Gp
open Go Hk Hd Pl

theorem awake : fishkeep1_awakeGuard = some true := by kernel_rfl
theorem within_eq (a b c : Int) : guard_within a b c = some (decide (b ≤ a ∧ a ≤ c)) := by
  unfold guard_within
  by_cases h1 : a ≥ b <;> by_cases h2 : a ≤ c <;> simp [ifb, h1, h2]
def Okt (p : S_guard_Telegram) : Prop := (0 ≤ p.Link ∧ p.Link ≤ 89) ∧ (0 ≤ p.Section ∧ p.Section ≤ 59) ∧ (0 ≤ p.Away ∧ p.Away ≤ 60000)
theorem check_eq (p : S_guard_Telegram) : (Okt p ∧ guard_Telegram_check p = some 0) ∨ (¬ Okt p ∧ guard_Telegram_check p = some 2) := by
  unfold guard_Telegram_check Okt
  simp only [within_eq, Option.bind_some]
  by_cases h1 : 0 ≤ p.Link ∧ p.Link ≤ 89 <;> by_cases h2 : 0 ≤ p.Section ∧ p.Section ≤ 59 <;> by_cases h3 : 0 ≤ p.Away ∧ p.Away ≤ 60000 <;> simp [h1, h2, h3, ifb]
theorem shr64 {a : Int} (h : 0 ≤ a) : gshr .i64 a 8 = some (a / 256) := by
  unfold gshr
  rw [if_neg (by decide)]
  have : min (8 : Int).toNat IntKind.i64.bits = 8 := by decide
  rw [this, Int.fdiv_eq_ediv_of_nonneg _ (by decide)]
  rfl
theorem wr (n : Nat) : IntKind.u8.wrap (n : Int) = ((BitVec.ofNat 8 n).toNat : Int) := by
  rw [wrap8, BitVec.toNat_ofNat]; omega
theorem write_ok {p : S_guard_Telegram} (h : Okt p) : Tot (guard_Write p) fun r => r.1 = 0 ∧ ∃ l : List (BitVec 8), r.2 = bs l ∧ l.length = 8 ∧ syn 65535#16 l = 0 ∧ guard_Read (bs l) = some (0, p) := by
  have hc : guard_Telegram_check p = some 0 := by
    rcases check_eq p with h' | h'
    · exact h'.2
    · exact absurd h h'.1
  obtain ⟨link, sec, away⟩ := p
  unfold Okt at h
  dsimp only at h
  obtain ⟨⟨a1, a2⟩, ⟨b1, b2⟩, c1, c2⟩ := h
  obtain ⟨a, rfl⟩ := Int.eq_ofNat_of_zero_le a1
  obtain ⟨b, rfl⟩ := Int.eq_ofNat_of_zero_le b1
  obtain ⟨c, rfl⟩ := Int.eq_ofNat_of_zero_le c1
  unfold guard_Write
  rw [hc, Option.bind_some]
  refine tot_ifb (fun hx => absurd hx (by decide)) fun _ => ?_
  have sh : ∀ n : Nat, gshr .i64 (n : Int) 8 = some ((n / 256 : Nat) : Int) := fun n => by rw [shr64 (Int.natCast_nonneg n)]; rfl
  dsimp only
  rw [sh, Option.bind_some, sh, Option.bind_some]
  have g1 : glen (List.replicate 8 (0 : Int)) 8 = some () := rfl
  rw [g1, Option.bind_some, wr, wr, wr, wr, wr]
  generalize h1 : BitVec.ofNat 8 (a / 256) = B1
  generalize h2 : BitVec.ofNat 8 a = B2
  generalize h3 : BitVec.ofNat 8 b = B3
  generalize h4 : BitVec.ofNat 8 (c / 256) = B4
  generalize h5 : BitVec.ofNat 8 c = B5
  have hl : ([82, (B1.toNat : Int), (B2.toNat : Int), (B3.toNat : Int), (B4.toNat : Int), (B5.toNat : Int), 0, 0] : List Int) = bs [82#8, B1, B2, B3, B4, B5, 0#8, 0#8] := rfl
  rw [hl]
  have g2 : glen (bs [82#8, B1, B2, B3, B4, B5, 0#8, 0#8]) 8 = some () := rfl
  have g3 : gcut (bs [82#8, B1, B2, B3, B4, B5, 0#8, 0#8]) 0 6 = some (bs [82#8, B1, B2, B3, B4, B5]) := rfl
  rw [g2, Option.bind_some, g3, Option.bind_some, Option.bind_some, sum_eq _ (by simp), Option.bind_some]
  generalize hS : sumB 65535#16 [82#8, B1, B2, B3, B4, B5] = S
  rw [sh, Option.bind_some, wr, wr]
  generalize h6 : BitVec.ofNat 8 (S.toNat / 256) = B6
  generalize h7 : BitVec.ofNat 8 S.toNat = B7
  have g4 : gix 8 6 = some () := rfl
  have g5 : gix 8 7 = some () := rfl
  have s1 : setI (bs [82#8, B1, B2, B3, B4, B5, 0#8, 0#8]) (0 + 6 * 1) (B6.toNat : Int) = bs [82#8, B1, B2, B3, B4, B5, B6, 0#8] := rfl
  have s2 : setI (bs [82#8, B1, B2, B3, B4, B5, B6, 0#8]) (0 + 7 * 1) (B7.toNat : Int) = bs [82#8, B1, B2, B3, B4, B5, B6, B7] := rfl
  have i1 : idx (bs [82#8, B1, B2, B3, B4, B5, 0#8, 0#8]) (0 + 6 * 1) = some 0 := rfl
  have i2 : idx (bs [82#8, B1, B2, B3, B4, B5, B6, 0#8]) (0 + 7 * 1) = some 0 := rfl
  have g6 : glen (bs [82#8, B1, B2, B3, B4, B5, B6, B7]) 8 = some () := rfl
  have g7 : gcut (bs [82#8, B1, B2, B3, B4, B5, B6, B7]) 0 8 = some (bs [82#8, B1, B2, B3, B4, B5, B6, B7]) := rfl
  have g8 : gapp 1 ([] : List Int) (bs [82#8, B1, B2, B3, B4, B5, B6, B7]) = some (bs [82#8, B1, B2, B3, B4, B5, B6, B7]) := by
    unfold gapp
    rw [if_pos (by refine ⟨?_, ?_⟩ <;> simp [bs, apRoom, maxLen])]
    rfl
  rw [g4, Option.bind_some, i1, Option.bind_some, g5, Option.bind_some, s1, i2, Option.bind_some, s2, g6, Option.bind_some, g7, Option.bind_some, g8, Option.bind_some]
  have hs := S.isLt
  have z : syn 65535#16 [82#8, B1, B2, B3, B4, B5, B6, B7] = 0 := by
    rw [syn_zero, hS, ← h6, ← h7, BitVec.toNat_ofNat, BitVec.toNat_ofNat]
    omega
  refine tot_some ⟨rfl, _, rfl, rfl, z, tot_eq (read_head _ _ _ _ _ _ _ _ (fun h => absurd z h) fun _ => ?_)⟩
  refine tot_ifb (fun hx => absurd hx (by decide)) fun _ => ?_
  have e1 : ((B1.toNat * 256 + B2.toNat : Nat) : Int) = (a : Int) := by
    rw [← h1, ← h2, BitVec.toNat_ofNat, BitVec.toNat_ofNat]; omega
  have e2 : (B3.toNat : Int) = (b : Int) := by
    rw [← h3, BitVec.toNat_ofNat]; omega
  have e3 : ((B4.toNat * 256 + B5.toNat : Nat) : Int) = (c : Int) := by
    rw [← h4, ← h5, BitVec.toNat_ofNat, BitVec.toNat_ofNat]; omega
  rw [e1, e2, e3, hc, Option.bind_some]
  exact tot_some rfl
theorem foldl_syn : ∀ (ns : List Nat) {l : List (BitVec 8)}, l.length = 8 → (∀ n ∈ ns, n < 64) → (ns.foldl flipB l).length = 8 ∧ syn 65535#16 (ns.foldl flipB l) = ns.foldl (fun s n => s ^^^ tB n) (syn 65535#16 l)
  | [], l, h, _ => ⟨h, rfl⟩
  | n :: ns, l, h, hn => by
    rw [List.foldl_cons, List.foldl_cons]
    have := foldl_syn ns (l := flipB l n) (by rw [flipB_len, h]) fun m hm => hn m (List.mem_cons_of_mem _ hm)
    rw [syn_flip _ h (hn n (List.mem_cons_self ..))] at this
    exact this
theorem tab_get {n : Nat} (h : n < 64) : (tB n).toNat ∈ tabB := by
  unfold tabB
  exact List.mem_map.2 ⟨n, List.mem_range.2 h, rfl⟩
theorem tab_inj {n m : Nat} (hn : n < 64) (hm : m < 64) (h : (tB n).toNat = (tB m).toNat) : n = m := by
  have hp := nodupB
  unfold tabB at hp
  have ln : n < ((List.range 64).map fun n => (tB n).toNat).length := by simpa using hn
  have lm : m < ((List.range 64).map fun n => (tB n).toNat).length := by simpa using hm
  have hp := List.pairwise_iff_getElem.1 hp
  rcases Nat.lt_trichotomy n m with hnm | hnm | hnm
  · exact absurd (by simpa using h) (hp n m ln lm hnm)
  · exact hnm
  · exact absurd (by simpa using h.symm) (hp m n lm ln hnm)
theorem no_syn {ns : List Nat} (hl : 1 ≤ ns.length ∧ ns.length ≤ 3) (hn : ∀ n ∈ ns, n < 64) (hd : ns.Nodup) : ns.foldl (fun s n => s ^^^ tB n) 0#16 ≠ 0#16 := by
  have key := one_two
  rw [List.all_eq_true] at key
  have toz : ∀ x : BitVec 16, x = 0#16 → x.toNat = 0 := fun x h => by rw [h]; rfl
  match ns, hl with
  | [a], _ =>
    intro h
    have ha := key _ (tab_get (hn a (by simp)))
    rw [Bool.and_eq_true] at ha
    have h := toz _ h
    rw [List.foldl_cons, List.foldl_nil, BitVec.zero_xor] at h
    rw [h] at ha
    exact absurd ha.1 (by decide)
  | [a, b], _ =>
    intro h
    have ha := key _ (tab_get (hn a (by simp)))
    rw [Bool.and_eq_true, List.all_eq_true] at ha
    have hb := ha.2 _ (tab_get (hn b (by simp)))
    have h := toz _ h
    rw [List.foldl_cons, List.foldl_cons, List.foldl_nil, BitVec.zero_xor, BitVec.toNat_xor] at h
    rw [h, Bool.or_eq_true] at hb
    rcases hb with hb | hb
    · have := tab_inj (hn a (by simp)) (hn b (by simp)) (beq_iff_eq.1 hb)
      simp [this] at hd
    · simp at hb
  | [a, b, c], _ =>
    intro h
    have ha := key _ (tab_get (hn a (by simp)))
    rw [Bool.and_eq_true, List.all_eq_true] at ha
    have hb := ha.2 _ (tab_get (hn b (by simp)))
    rw [Bool.or_eq_true] at hb
    have h := toz _ h
    rw [List.foldl_cons, List.foldl_cons, List.foldl_cons, List.foldl_nil, BitVec.zero_xor, BitVec.toNat_xor, BitVec.toNat_xor] at h
    rcases hb with hb | hb
    · have := tab_inj (hn a (by simp)) (hn b (by simp)) (beq_iff_eq.1 hb)
      simp [this] at hd
    · rw [Bool.and_eq_true, List.all_eq_true] at hb
      have hc := hb.2 _ (tab_get (hn c (by simp)))
      rw [h] at hc
      exact absurd hc (by decide)
end Gp

/- GuardFlips: the loop over the bits, and the law. -/
set_option linter.unusedVariables false
set_option linter.unusedSimpArgs false
set_option maxRecDepth 100000
namespace Gp
open Go Hk Hd Pl

theorem index_tot (xs : List Int) (v : Int) (hl : xs.length ≤ maxLen) : Tot (slices_Contains_int_int xs v) fun r => r = true ↔ v ∈ xs := by
  unfold slices_Contains_int_int slices_Index_int_int
  refine tot_bind (P := fun r => (0 ≤ r ∧ v ∈ xs) ∨ (r = -1 ∧ v ∉ xs)) ?_ fun r _ hr => tot_some ?_
  · refine tot_allX (P := fun _ x => v ≠ x) (E := fun r => 0 ≤ r ∧ v ∈ xs) (fun i x hx => ?_) (fun h => tot_some (Or.inr ⟨rfl, fun hm => ?_⟩)) (fun y hy => tot_some (Or.inl hy))
    · unfold slices_Index_int_int_b1
      refine tot_ifb (fun he => tot_some ?_) fun he => tot_some ?_
      · have he := beq_iff_eq.1 he
        subst he
        exact ⟨Int.natCast_nonneg _, List.mem_of_getElem? hx⟩
      · exact fun h => by rw [h] at he; simp at he
    · obtain ⟨i, hi⟩ := List.getElem?_of_mem hm
      exact h i v hi rfl
  · rcases hr with ⟨h1, h2⟩ | ⟨h1, h2⟩
    · simp [h1, h2]
    · subst h1; simp [h2]
theorem gshl8 {k : Nat} (h : k < 8) : gshl .u8 1 (k : Int) = some ((1#8 <<< k).toNat : Int) := by
  match k, h with
  | 0, _ => rfl
  | 1, _ => rfl
  | 2, _ => rfl
  | 3, _ => rfl
  | 4, _ => rfl
  | 5, _ => rfl
  | 6, _ => rfl
  | 7, _ => rfl
theorem ixor8 (S T : BitVec 8) : Hd.ixor .u8 (S.toNat : Int) (T.toNat : Int) = ((S ^^^ T).toNat : Int) := by
  show IntKind.u8.wrap (((BitVec.ofInt 8 (S.toNat : Int) ^^^ BitVec.ofInt 8 (T.toNat : Int) : BitVec 8).toNat : Nat) : Int) = _
  have of8 : ∀ S : BitVec 8, BitVec.ofInt 8 (S.toNat : Int) = S := fun S => by rw [BitVec.ofInt_natCast, BitVec.ofNat_toNat, BitVec.setWidth_eq]
  rw [of8, of8, wrap8]
  have := (S ^^^ T).isLt
  exact Int.emod_eq_of_lt (Int.natCast_nonneg _) (by omega)
theorem flip_tot (p1 : List Int) (hp : p1.length ≤ maxLen) {i : Nat} {x : Int} (hx : p1[i]? = some x) (l : List (BitVec 8)) (hl : l.length = 8) :
    Tot (fishkeep1_GuardFlips_b1 p1 i x (bs l)) fun c => match c with
      | .go s => 0 ≤ x ∧ x < 64 ∧ x ∉ p1.take i ∧ s = bs (flipB l x.toNat)
      | .out (.go _) => False
      | .out (.out y) => y = true := by
  have hi := (List.getElem?_eq_some_iff.1 hx).1
  unfold fishkeep1_GuardFlips_b1
  refine tot_bind (P := fun s => s = false → 0 ≤ x ∧ x < 64 ∧ x ∉ p1.take i) ?_ fun s _ hs => ?_
  · refine tot_ifb (fun _ => tot_some fun h => by cases h) fun h0 => tot_ifb (fun _ => tot_some fun h => by cases h) fun h1 => ?_
    have h0 : ¬ x < 0 := of_decide_eq_false h0
    have h1 : ¬ x ≥ 64 := of_decide_eq_false h1
    have hc : gcut p1 0 (i : Int) = some (p1.take i) := by
      unfold gcut
      rw [if_pos (by omega)]
      simp
    rw [hc, Option.bind_some]
    refine tot_bind (index_tot _ _ (by rw [List.length_take]; omega)) fun b _ hb => tot_some fun hf => ⟨by omega, by omega, fun hm => ?_⟩
    rw [hb.2 hm] at hf
    cases hf
  · refine tot_ifb (fun _ => tot_some rfl) fun hf => ?_
    obtain ⟨h0, h1, h2⟩ := hs hf
    obtain ⟨n, rfl⟩ := Int.eq_ofNat_of_zero_le h0
    have hn : n < 64 := by omega
    have q : gquoK .i64 (n : Int) 8 = some ((n / 8 : Nat) : Int) := by
      unfold gquoK
      rw [if_neg (by decide), Int.tdiv_eq_ediv_of_nonneg h0]
      exact congrArg some (w64_id (by omega) (by omega))
    have r : gremK (n : Int) 8 = some ((n % 8 : Nat) : Int) := by
      unfold gremK
      rw [if_neg (by decide), Int.tmod_eq_emod_of_nonneg h0]
      rfl
    have hk : n / 8 < l.length := by omega
    have ix : idx (bs l) ((n / 8 : Nat) : Int) = some ((l[n / 8]).toNat : Int) := by
      unfold idx bs
      rw [if_pos (by omega), Int.toNat_natCast, List.getElem?_map, List.getElem?_eq_getElem hk]
      rfl
    rw [q, Option.bind_some, ix, Option.bind_some, r, Option.bind_some, gshl8 (by omega), Option.bind_some, Option.bind_some, ixor8]
    refine tot_some ⟨h0, h1, h2, ?_⟩
    unfold setI bs flipB
    rw [Int.toNat_natCast, Int.toNat_natCast, ← List.map_set (f := fun b : BitVec 8 => (b.toNat : Int)), List.getElem?_eq_getElem hk]
    rfl
theorem law (x0 : S_guard_Telegram) (x1 : List Int) (hp : x1.length ≤ maxLen) : fishkeep1_GuardFlips x0 x1 = some true := by
  refine tot_eq ?_
  unfold fishkeep1_GuardFlips
  rw [awake, Option.bind_some]
  refine tot_ifb (fun h => by cases h) fun _ => ?_
  rcases check_eq x0 with ⟨hk, hc⟩ | ⟨hk, hc⟩
  · refine tot_bind (write_ok hk) fun w _ hw => ?_
    obtain ⟨w1, w2⟩ := w
    obtain ⟨e1, l, e2, hl, hs, hr⟩ := hw
    dsimp only at e1 e2
    subst e1 e2
    refine tot_ifb (fun h => absurd h (by simp)) fun _ => ?_
    dsimp only
    rw [hr, Option.bind_some]
    refine tot_bind (P := fun s => s = false) ?_ fun s _ hs' => ?_
    · refine tot_ifb (fun h => absurd h (by simp)) fun _ => ?_
      refine tot_ifb (fun h => ?_) fun _ => tot_some ?_
      · have ie : ∀ a : Int, ieq a a = true := fun a => by unfold ieq; simp
        simp [ie] at h
      · simp [bs, hl]
    subst hs'
    refine tot_ifb (fun h => by cases h) fun _ => ?_
    have cl : slices_Clone_byte_byte (bs l) = some (bs l) := by
      unfold slices_Clone_byte_byte slices_Clone_byte_byte_v2
      show ((gapp 1 ([] : List Int) (bs l)).bind fun x2 => some x2) = _
      have : gapp 1 ([] : List Int) (bs l) = some (bs l) := by
        unfold gapp
        rw [if_pos (by refine ⟨?_, ?_⟩ <;> simp [bs, apRoom, maxLen, hl])]
        rfl
      rw [this]; rfl
    rw [cl, Option.bind_some]
    refine tot_loopX (I := fun i s => ∃ ns : List Nat, x1.take i = ns.map (fun n : Nat => (n : Int)) ∧ (∀ n ∈ ns, n < 64) ∧ ns.Nodup ∧ s = bs (ns.foldl flipB l))
      (J := fun s => ∃ ns : List Nat, x1 = ns.map (fun n : Nat => (n : Int)) ∧ (∀ n ∈ ns, n < 64) ∧ ns.Nodup ∧ s = bs (ns.foldl flipB l)) (E := fun y => y = true) ?_ ?_ ?_ ?_ ?_
    · exact ⟨[], rfl, (by simp), List.nodup_nil, rfl⟩
    · rintro i x s hx ⟨ns, h1, h2, h3, rfl⟩
      have hf := foldl_syn ns hl h2
      refine tot_mono (flip_tot x1 hp hx _ hf.1) ?_
      rintro (s | s | y) hc
      · obtain ⟨c1, c2, c3, rfl⟩ := hc
        obtain ⟨n, rfl⟩ := Int.eq_ofNat_of_zero_le c1
        refine ⟨ns ++ [n], ?_, ?_, ?_, ?_⟩
        · rw [List.take_add_one, hx, h1]; simp
        · intro m hm
          rcases List.mem_append.1 hm with hm | hm
          · exact h2 m hm
          · rw [List.mem_singleton.1 hm]; omega
        · rw [List.nodup_append]
          refine ⟨h3, List.nodup_cons.2 ⟨by simp, List.nodup_nil⟩, fun a ha b hb hab => ?_⟩
          rw [List.mem_singleton.1 hb] at hab
          subst hab
          exact c3 (by rw [h1]; exact List.mem_map.2 ⟨_, ha, rfl⟩)
        · rw [List.foldl_append]; simp
      · exact hc.elim
      · exact hc
    · rintro s ⟨ns, h1, h⟩
      rw [List.take_length] at h1
      exact ⟨ns, h1, h⟩
    · rintro s ⟨ns, h1, h2, h3, rfl⟩
      refine tot_bind (P := fun b => b = false → 1 ≤ ns.length ∧ ns.length ≤ 3) ?_ fun b _ hb => ?_
      · have hlen : x1.length = ns.length := by rw [h1, List.length_map]
        refine tot_ifb (fun _ => tot_some fun h => by cases h) fun ha => tot_some fun hb => ?_
        have ha : ¬ ((x1.length : Int) < 1) := of_decide_eq_false ha
        have hb : ¬ ((x1.length : Int) > 3) := of_decide_eq_false hb
        omega
      · refine tot_ifb (fun _ => tot_some rfl) fun hf => ?_
        have hf' := foldl_syn ns hl h2
        refine tot_bind (read_bad hf'.1 ?_) fun r _ hr => tot_some (by rw [hr]; rfl)
        rw [hf'.2, hs]
        exact no_syn (hb hf) h2 h3
    · rintro y rfl
      exact tot_some rfl
  · have hw : guard_Write x0 = some (2, []) := by
      unfold guard_Write
      rw [hc, Option.bind_some]
      rfl
    rw [hw, Option.bind_some]
    exact tot_some rfl
end Gp
