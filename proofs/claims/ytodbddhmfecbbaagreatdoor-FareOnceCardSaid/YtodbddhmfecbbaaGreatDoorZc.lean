/- Package fare: reading what is no tariff. -/
import Derived.Test.YtodbddhmfecbbaaGreatDoorProg
import Derived.WalkKit
import Derived.WalkLawsBesides
import Derived.Defers
import Derived.Recover
import Derived.Test.YtodbddhmfecbbaaGreatDoorG1
set_option linter.unusedVariables false
set_option linter.unusedSimpArgs false
namespace Hd
open Go Go.Proofs Go.RowKit
abbrev xS : ByteArray := ⟨#[120]⟩
abbrev zT : Obj := Obj.cells #[Value.bool false, Value.slice none 0 0, Value.int IntKind.i64 0, Value.slice none 0 0] 25
abbrev zV : Value := .agg #[Value.bool false, Value.slice none 0 0, Value.int IntKind.i64 0, Value.slice none 0 0]
set_option maxRecDepth 100000 in
def Grew (n : Nat) (w w' : World) : Prop := w'.os = w.os ∧ w'.tape = w.tape ∧ w'.output = w.output ∧ w.heap.size ≤ w'.heap.size ∧ ∀ b, b < n → w'.heap[b]? = w.heap[b]?
theorem Grew.refl (n : Nat) (w : World) : Grew n w w := ⟨rfl, rfl, rfl, Nat.le_refl _, fun _ _ => rfl⟩
theorem Grew.trans {n : Nat} {a b c : World} (h : Grew n a b) (k : Grew n b c) : Grew n a c :=
  ⟨k.1.trans h.1, k.2.1.trans h.2.1, k.2.2.1.trans h.2.2.1, Nat.le_trans h.2.2.2.1 k.2.2.2.1, fun x hx => (k.2.2.2.2 x hx).trans (h.2.2.2.2 x hx)⟩
theorem Grew.alloc {n : Nat} (w : World) (o : Obj) (h : n ≤ w.heap.size) : Grew n w (w.alloc o) :=
  ⟨rfl, rfl, rfl, by simp, fun b hb => Below.heap_alloc w o b (by omega)⟩
set_option maxHeartbeats 4000000 in
set_option maxRecDepth 100000 in
theorem catch_x (w : World) (o : Obj) :
    CallsD Tryz.prog 68 #[.pointer (some ⟨w.heap.size, 0, none⟩), .pointer (some ⟨w.heap.size + 1, 0, none⟩)] (.panicking [{ v := .iface 129 (.agg #[]), recovered := false }]) (((w.alloc zT).alloc (.cells #[.int .i64 0] 31)).alloc o) fun e u' w' =>
      e = .returned (.tuple #[]) ∧ u' = .panicking [{ v := .iface 129 (.agg #[]), recovered := true }] ∧ w' = (((w.alloc zT).alloc (.cells #[.int .i64 10] 31)).alloc o).alloc (.cells #[] 129) := by
  have hta : ∀ w : World, (Instr.typeAssert (.iface 129 (.agg #[])) 20 129 true).run Tryz.prog w = .ok (.tuple #[.agg #[], .bool true]) w := fun _ => by kernel_rfl
  refine callsD_of_wpS Tryz.func68 rfl fun c₀ cs hu => ?_
  apply wpS_seq
  apply wpS_region
  simp [wpOpsS, go_sem, recoverD, hu, Tryz.ntmps68, Exit.thenS]
  refine wpS_of_wp ?_
  go_wp2
  cases c₀
  simp_all [bodyPostS, results, Tryz.results68]
set_option maxHeartbeats 4000000 in
set_option maxRecDepth 100000 in
theorem read_x (w : World) : Calls Tryz.prog 31 #[.string xS] w fun e w' => e = .returned (.tuple #[zV, .int .i64 10]) ∧ Grew w.heap.size w w' := by
  have hmf : ∀ (fn : Go.Fn) (first cap : Array Value) (w : World), (Instr.makeFunc fn first cap).run Tryz.prog w = .ok (.func fn first cap) w := fun _ _ _ _ => rfl
  go_enter_defers Tryz.func31, Tryz.ntmps31
  go_wp2
  · refine ⟨rfl, ?_⟩
    refine leaves_cons (f := 68) (args := #[.pointer (some ⟨w.heap.size, 0, none⟩), .pointer (some ⟨w.heap.size + 1, 0, none⟩)]) (by simp) (by simp [go_sem]) ?_
    refine (catch_x w zT).mono ?_
    rintro e u' w'' ⟨rfl, rfl, rfl⟩
    have hg : Grew w.heap.size w ((((w.alloc zT).alloc (Obj.cells #[Value.int IntKind.i64 10] 31)).alloc zT).alloc (Obj.cells #[] 129)) :=
      (((Grew.alloc w _ (Nat.le_refl _)).trans (Grew.alloc _ _ (by simp))).trans (Grew.alloc _ _ (by simp; omega))).trans (Grew.alloc _ _ (by simp; omega))
    simp [Leaves, settle, results, Tryz.results31, go_sem]
    exact hg
  · exfalso
    have h : (!(xS.extract 0 1).toList == [10]) = true := by kernel_rfl
    exact absurd (h.symm.trans ‹(!(xS.extract 0 1).toList == [10]) = false›) (by decide)
theorem read_k (w : World) (R : Ending → World → Prop) (h : ∀ w', Grew w.heap.size w w' → R (.returned (.tuple #[zV, .int .i64 10])) w') : Calls Tryz.prog 31 #[.string xS] w R :=
  (read_x w).mono fun e w' ⟨he, hg⟩ => by rw [he]; exact h w' hg
set_option maxHeartbeats 4000000 in
set_option maxRecDepth 100000 in
theorem trueCalls_awakeFare (w : World) : Calls Tryz.prog 8 #[] w fun e w' => e = .returned (.bool true) ∧ w'.os = w.os ∧ w'.tape = w.tape ∧ w'.output = w.output ∧ Hk.HP.le (Hk.wh w) (Hk.wh w') := by
  go_enter Tryz.func8, Tryz.ntmps8
  go_wp2_with (go_at_call 31; refine read_k _ _ ?_; intro w2 hg)
  go_ret
  have h := hg.trans (Grew.alloc w2 zT hg.2.2.2.1)
  refine ⟨rfl, h.1, h.2.1, h.2.2.1, fun b o hb => ?_⟩
  have hlt : b < w.heap.size := (Array.getElem?_eq_some_iff.1 hb).1
  exact (h.2.2.2.2 b hlt).trans hb
end Hd
