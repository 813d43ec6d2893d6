/- Structures, and facts of the table of types, for the functions that follow. Printed by a tool. -/
import Derived.Test.YtcidamhhffgipaaHkN
import Derived.Test.YtcidamhhffgipaaProg
set_option linter.unusedVariables false
set_option linter.unusedSimpArgs false
set_option maxRecDepth 20000
set_option maxHeartbeats 2000000
namespace Hk
open Go Go.Proofs
structure S_mend_Arc where
  From : Int
  To : Int
  Len : Int
def zS_mend_Arc : S_mend_Arc := ⟨(0 : Int), (0 : Int), (0 : Int)⟩
def fS_mend_Arc : FRel S_mend_Arc := fMap (fun x => (x.From, (x.To, x.Len))) (fPair (fInt .i64) (fPair (fInt .i64) (fInt .i64)))
theorem fS_mend_Arc.op {f : HP} {cs : List Value} {x : S_mend_Arc} (h : fS_mend_Arc.p f cs x) : cs = [(Value.int .i64 x.From), (Value.int .i64 x.To), (Value.int .i64 x.Len)] := by
  obtain ⟨c0, d0, e0, h0, ⟨c1, d1, e1, h1, h2⟩⟩ := h
  replace h0 : c0 = _ := h0
  replace h1 : c1 = _ := h1
  replace h2 : d1 = _ := h2
  subst e0 e1
  subst h0
  subst h1
  subst h2
  rfl
theorem fS_mend_Arc.mk {f : HP} {x : S_mend_Arc}   : fS_mend_Arc.p f [(Value.int .i64 x.From), (Value.int .i64 x.To), (Value.int .i64 x.Len)] x := by
  exact ⟨[(Value.int .i64 x.From)], _, rfl, rfl, ⟨[(Value.int .i64 x.To)], _, rfl, rfl, rfl⟩⟩
structure S_mend_Choice where
  Ways : List (List S_mend_Arc)
def zS_mend_Choice : S_mend_Choice := ⟨([] : List (List S_mend_Arc))⟩
def fS_mend_Choice : FRel S_mend_Choice := fMap (fun x => x.Ways) (fSl (fSl fS_mend_Arc))
theorem fS_mend_Choice.op {f : HP} {cs : List Value} {x : S_mend_Choice} (h : fS_mend_Choice.p f cs x) : ∃ (A1 : Option Addr) (n2 : Nat) (c3 : Nat), cs = [(Value.slice A1 n2 c3)] ∧ SlF f (fSl fS_mend_Arc) A1 n2 c3 x.Ways := by
  have h0 := h
  obtain ⟨A0_, n0_, k0_, h0, g0⟩ := h0
  subst h0
  exact ⟨A0_, n0_, k0_, rfl, g0⟩
theorem fS_mend_Choice.mk {f : HP} {x : S_mend_Choice} {A1 : Option Addr} {n2 : Nat} {c3 : Nat} (hs4 : SlF f (fSl fS_mend_Arc) A1 n2 c3 x.Ways) : fS_mend_Choice.p f [(Value.slice A1 n2 c3)] x := by
  exact ⟨_, _, _, rfl, hs4⟩
structure S_mend_Graph where
  Ready : List Int
  Last : List Int
  Due : List Int
  Arcs : List S_mend_Arc
  Choices : List S_mend_Choice
def zS_mend_Graph : S_mend_Graph := ⟨([] : List Int), ([] : List Int), ([] : List Int), ([] : List S_mend_Arc), ([] : List S_mend_Choice)⟩
def fS_mend_Graph : FRel S_mend_Graph := fMap (fun x => (x.Ready, (x.Last, (x.Due, (x.Arcs, x.Choices))))) (fPair (fSl (fInt .i64)) (fPair (fSl (fInt .i64)) (fPair (fSl (fInt .i64)) (fPair (fSl fS_mend_Arc) (fSl fS_mend_Choice)))))
theorem fS_mend_Graph.op {f : HP} {cs : List Value} {x : S_mend_Graph} (h : fS_mend_Graph.p f cs x) : ∃ (A9 : Option Addr) (n10 : Nat) (c11 : Nat) (A13 : Option Addr) (n14 : Nat) (c15 : Nat) (A17 : Option Addr) (n18 : Nat) (c19 : Nat) (A21 : Option Addr) (n22 : Nat) (c23 : Nat) (A25 : Option Addr) (n26 : Nat) (c27 : Nat), cs = [(Value.slice A9 n10 c11), (Value.slice A13 n14 c15), (Value.slice A17 n18 c19), (Value.slice A21 n22 c23), (Value.slice A25 n26 c27)] ∧ SlF f (fInt .i64) A9 n10 c11 x.Ready ∧ SlF f (fInt .i64) A13 n14 c15 x.Last ∧ SlF f (fInt .i64) A17 n18 c19 x.Due ∧ SlF f fS_mend_Arc A21 n22 c23 x.Arcs ∧ SlF f fS_mend_Choice A25 n26 c27 x.Choices := by
  obtain ⟨c0, d0, e0, h0, ⟨c1, d1, e1, h1, ⟨c2, d2, e2, h2, ⟨c3, d3, e3, h3, h4⟩⟩⟩⟩ := h
  obtain ⟨A0_, n0_, k0_, h0, g0⟩ := h0
  obtain ⟨A1_, n1_, k1_, h1, g1⟩ := h1
  obtain ⟨A2_, n2_, k2_, h2, g2⟩ := h2
  obtain ⟨A3_, n3_, k3_, h3, g3⟩ := h3
  obtain ⟨A4_, n4_, k4_, h4, g4⟩ := h4
  subst e0 e1 e2 e3
  subst h0
  subst h1
  subst h2
  subst h3
  subst h4
  exact ⟨A0_, n0_, k0_, A1_, n1_, k1_, A2_, n2_, k2_, A3_, n3_, k3_, A4_, n4_, k4_, rfl, g0, g1, g2, g3, g4⟩
theorem fS_mend_Graph.mk {f : HP} {x : S_mend_Graph} {A9 : Option Addr} {n10 : Nat} {c11 : Nat} {A13 : Option Addr} {n14 : Nat} {c15 : Nat} {A17 : Option Addr} {n18 : Nat} {c19 : Nat} {A21 : Option Addr} {n22 : Nat} {c23 : Nat} {A25 : Option Addr} {n26 : Nat} {c27 : Nat} (hs12 : SlF f (fInt .i64) A9 n10 c11 x.Ready) (hs16 : SlF f (fInt .i64) A13 n14 c15 x.Last) (hs20 : SlF f (fInt .i64) A17 n18 c19 x.Due) (hs24 : SlF f fS_mend_Arc A21 n22 c23 x.Arcs) (hs28 : SlF f fS_mend_Choice A25 n26 c27 x.Choices) : fS_mend_Graph.p f [(Value.slice A9 n10 c11), (Value.slice A13 n14 c15), (Value.slice A17 n18 c19), (Value.slice A21 n22 c23), (Value.slice A25 n26 c27)] x := by
  exact ⟨[(Value.slice A9 n10 c11)], _, rfl, ⟨_, _, _, rfl, hs12⟩, ⟨[(Value.slice A13 n14 c15)], _, rfl, ⟨_, _, _, rfl, hs16⟩, ⟨[(Value.slice A17 n18 c19)], _, rfl, ⟨_, _, _, rfl, hs20⟩, ⟨[(Value.slice A21 n22 c23)], _, rfl, ⟨_, _, _, rfl, hs24⟩, ⟨_, _, _, rfl, hs28⟩⟩⟩⟩⟩
structure S_mend_solver where
  times : List Int
  last : List Int
  outs : List (List S_mend_Arc)
def zS_mend_solver : S_mend_solver := ⟨([] : List Int), ([] : List Int), ([] : List (List S_mend_Arc))⟩
def fS_mend_solver : FRel S_mend_solver := fMap (fun x => (x.times, (x.last, x.outs))) (fPair (fSl (fInt .i64)) (fPair (fSl (fInt .i64)) (fSl (fSl fS_mend_Arc))))
theorem fS_mend_solver.op {f : HP} {cs : List Value} {x : S_mend_solver} (h : fS_mend_solver.p f cs x) : ∃ (A49 : Option Addr) (n50 : Nat) (c51 : Nat) (A53 : Option Addr) (n54 : Nat) (c55 : Nat) (A57 : Option Addr) (n58 : Nat) (c59 : Nat), cs = [(Value.slice A49 n50 c51), (Value.slice A53 n54 c55), (Value.slice A57 n58 c59)] ∧ SlF f (fInt .i64) A49 n50 c51 x.times ∧ SlF f (fInt .i64) A53 n54 c55 x.last ∧ SlF f (fSl fS_mend_Arc) A57 n58 c59 x.outs := by
  obtain ⟨c0, d0, e0, h0, ⟨c1, d1, e1, h1, h2⟩⟩ := h
  obtain ⟨A0_, n0_, k0_, h0, g0⟩ := h0
  obtain ⟨A1_, n1_, k1_, h1, g1⟩ := h1
  obtain ⟨A2_, n2_, k2_, h2, g2⟩ := h2
  subst e0 e1
  subst h0
  subst h1
  subst h2
  exact ⟨A0_, n0_, k0_, A1_, n1_, k1_, A2_, n2_, k2_, rfl, g0, g1, g2⟩
theorem fS_mend_solver.mk {f : HP} {x : S_mend_solver} {A49 : Option Addr} {n50 : Nat} {c51 : Nat} {A53 : Option Addr} {n54 : Nat} {c55 : Nat} {A57 : Option Addr} {n58 : Nat} {c59 : Nat} (hs52 : SlF f (fInt .i64) A49 n50 c51 x.times) (hs56 : SlF f (fInt .i64) A53 n54 c55 x.last) (hs60 : SlF f (fSl fS_mend_Arc) A57 n58 c59 x.outs) : fS_mend_solver.p f [(Value.slice A49 n50 c51), (Value.slice A53 n54 c55), (Value.slice A57 n58 c59)] x := by
  exact ⟨[(Value.slice A49 n50 c51)], _, rfl, ⟨_, _, _, rfl, hs52⟩, ⟨[(Value.slice A53 n54 c55)], _, rfl, ⟨_, _, _, rfl, hs56⟩, ⟨_, _, _, rfl, hs60⟩⟩⟩
theorem tz26 : tyZero Try.prog 26 = some (.agg #[(.slice none 0 0), (.slice none 0 0), (.slice none 0 0), (.slice none 0 0), (.slice none 0 0)]) := by kernel_rfl
theorem tp26 : tyPlaces Try.prog 26 = some [(0, 1), (1, 1), (2, 1), (3, 1), (4, 1)] := by kernel_rfl
theorem te22 : tyElem Try.prog 22 = some 3 := by kernel_rfl
theorem ts3 : tySize Try.prog 3 = some 1 := by kernel_rfl
theorem tz3 : tyZero Try.prog 3 = some (.int .i64 0) := by kernel_rfl
theorem tm3_1 : (madeCells #[((.int .i64 0) : Value)] (1 * 1)).toList = [((.int .i64 0) : Value)] := by kernel_rfl
theorem ta26 : tyAgg Try.prog 26 = some true := by kernel_rfl
theorem ts26 : tySize Try.prog 26 = some 5 := by kernel_rfl
theorem tf26_0 : tyField Try.prog 26 0 = some (0, 22) := by kernel_rfl
theorem ta22 : tyAgg Try.prog 22 = some false := by kernel_rfl
theorem tf26_3 : tyField Try.prog 26 3 = some (3, 23) := by kernel_rfl
theorem ta23 : tyAgg Try.prog 23 = some false := by kernel_rfl
theorem te23 : tyElem Try.prog 23 = some 34 := by kernel_rfl
theorem tf26_4 : tyField Try.prog 26 4 = some (4, 24) := by kernel_rfl
theorem ta24 : tyAgg Try.prog 24 = some false := by kernel_rfl
theorem te24 : tyElem Try.prog 24 = some 37 := by kernel_rfl
theorem tf26_1 : tyField Try.prog 26 1 = some (1, 22) := by kernel_rfl
theorem tf26_2 : tyField Try.prog 26 2 = some (2, 22) := by kernel_rfl
theorem ta3 : tyAgg Try.prog 3 = some false := by kernel_rfl
theorem cl37 : callOk Try.prog 37 = true := by kernel_rfl
theorem ts34 : tySize Try.prog 34 = some 3 := by kernel_rfl
theorem ta34 : tyAgg Try.prog 34 = some true := by kernel_rfl
theorem tz34 : tyZero Try.prog 34 = some (.agg #[(.int .i64 0), (.int .i64 0), (.int .i64 0)]) := by kernel_rfl
theorem tf34_0 : tyField Try.prog 34 0 = some (0, 3) := by kernel_rfl
theorem tf34_1 : tyField Try.prog 34 1 = some (1, 3) := by kernel_rfl
theorem tf34_2 : tyField Try.prog 34 2 = some (2, 3) := by kernel_rfl
theorem cl59 : callOk Try.prog 59 = true := by kernel_rfl
theorem ts37 : tySize Try.prog 37 = some 1 := by kernel_rfl
theorem ta37 : tyAgg Try.prog 37 = some true := by kernel_rfl
theorem tz37 : tyZero Try.prog 37 = some (.agg #[(.slice none 0 0)]) := by kernel_rfl
theorem tf37_0 : tyField Try.prog 37 0 = some (0, 35) := by kernel_rfl
theorem ta35 : tyAgg Try.prog 35 = some false := by kernel_rfl
theorem te35 : tyElem Try.prog 35 = some 23 := by kernel_rfl
theorem ts23 : tySize Try.prog 23 = some 1 := by kernel_rfl
theorem cl36 : callOk Try.prog 36 = true := by kernel_rfl
theorem cl33 : callOk Try.prog 33 = true := by kernel_rfl
theorem tm3_0 : (madeCells #[((.int .i64 0) : Value)] (0 * 1)).toList = [] := by kernel_rfl
theorem tb3 : tyBytes Try.prog 3 = some 8 := by kernel_rfl
theorem tA22 : ApTy Try.prog 22 3 1 8 := ⟨te22, ts3, tb3, ⟨_, tz3, rfl⟩, by decide⟩
theorem cl12 : callOk Try.prog 12 = true := by kernel_rfl
theorem tb23 : tyBytes Try.prog 23 = some 24 := by kernel_rfl
theorem tz23 : tyZero Try.prog 23 = some (.slice none 0 0) := by kernel_rfl
theorem tz73 : tyZero Try.prog 73 = some (.agg #[(.slice none 0 0), (.slice none 0 0), (.slice none 0 0)]) := by kernel_rfl
theorem tp73 : tyPlaces Try.prog 73 = some [(0, 1), (1, 1), (2, 1)] := by kernel_rfl
theorem tf73_0 : tyField Try.prog 73 0 = some (0, 22) := by kernel_rfl
theorem tf73_1 : tyField Try.prog 73 1 = some (1, 22) := by kernel_rfl
theorem tf73_2 : tyField Try.prog 73 2 = some (2, 35) := by kernel_rfl
theorem tm23_0 : (madeCells #[((.slice none 0 0) : Value)] (0 * 1)).toList = [] := by kernel_rfl
theorem tA35 : ApTy Try.prog 35 23 1 24 := ⟨te35, ts23, tb23, ⟨_, tz23, rfl⟩, by decide⟩
theorem cl60 : callOk Try.prog 60 = true := by kernel_rfl
theorem tz69 : tyZero Try.prog 69 = some (.pointer none) := by kernel_rfl
theorem ts69 : tySize Try.prog 69 = some 1 := by kernel_rfl
theorem ta69 : tyAgg Try.prog 69 = some false := by kernel_rfl
theorem tm34_0 : (madeCells #[((.int .i64 0) : Value), ((.int .i64 0) : Value), ((.int .i64 0) : Value)] (0 * 3)).toList = [] := by kernel_rfl
theorem tb34 : tyBytes Try.prog 34 = some 24 := by kernel_rfl
theorem tA23 : ApTy Try.prog 23 34 3 24 := ⟨te23, ts34, tb34, ⟨_, tz34, rfl⟩, by decide⟩
theorem cl11 : callOk Try.prog 11 = true := by kernel_rfl
theorem tm34_1 : (madeCells #[((.int .i64 0) : Value), ((.int .i64 0) : Value), ((.int .i64 0) : Value)] (1 * 3)).toList = [((.int .i64 0) : Value), ((.int .i64 0) : Value), ((.int .i64 0) : Value)] := by kernel_rfl
theorem te88 : tyElem Try.prog 88 = some 4 := by kernel_rfl
theorem ts4 : tySize Try.prog 4 = some 1 := by kernel_rfl
theorem tb4 : tyBytes Try.prog 4 = some 1 := by kernel_rfl
theorem tz4 : tyZero Try.prog 4 = some (.bool false) := by kernel_rfl
theorem tz88 : tyZero Try.prog 88 = some (.slice none 0 0) := by kernel_rfl
theorem ts88 : tySize Try.prog 88 = some 1 := by kernel_rfl
theorem tz22 : tyZero Try.prog 22 = some (.slice none 0 0) := by kernel_rfl
theorem ts22 : tySize Try.prog 22 = some 1 := by kernel_rfl
theorem ta4 : tyAgg Try.prog 4 = some false := by kernel_rfl
theorem ta88 : tyAgg Try.prog 88 = some false := by kernel_rfl
theorem cl61 : callOk Try.prog 61 = true := by kernel_rfl
theorem cl54 : callOk Try.prog 54 = true := by kernel_rfl
theorem cl62 : callOk Try.prog 62 = true := by kernel_rfl
theorem cl41 : callOk Try.prog 41 = true := by kernel_rfl
theorem cl42 : callOk Try.prog 42 = true := by kernel_rfl
theorem cl34 : callOk Try.prog 34 = true := by kernel_rfl
theorem cl10 : callOk Try.prog 10 = true := by kernel_rfl
theorem cl7 : callOk Try.prog 7 = true := by kernel_rfl
theorem tm3_2 : (madeCells #[((.int .i64 0) : Value)] (2 * 1)).toList = [((.int .i64 0) : Value), ((.int .i64 0) : Value)] := by kernel_rfl
theorem tp34 : tyPlaces Try.prog 34 = some [(0, 1), (1, 1), (2, 1)] := by kernel_rfl
theorem cl22 : callOk Try.prog 22 = true := by kernel_rfl
theorem cl8 : callOk Try.prog 8 = true := by kernel_rfl
theorem cl48 : callOk Try.prog 48 = true := by kernel_rfl
theorem cl58 : callOk Try.prog 58 = true := by kernel_rfl
theorem cl32 : callOk Try.prog 32 = true := by kernel_rfl
theorem cl9 : callOk Try.prog 9 = true := by kernel_rfl
theorem mixed : Try.prog.follows .mixedOrders = true := by kernel_rfl
end Hk
