/- line.Number at the empty string: 0, and no number. -/
import Derived.Test.YtgflagiblnkchaaDoorG1
import Derived.Test.YtgflagiblnkchaaDoorZS
set_option linter.unusedVariables false
set_option linter.unusedSimpArgs false
namespace Hd
open Go Hk Go.Proofs

/-- the variable ErrSyntax holds an error -/
def glb (f : HP) : Prop := ∃ (g : Nat) (tp : TypeId) (p : Value) (t : TypeId) (fr : Nat × Nat), Tryd.prog.globalNamed "strconv.ErrSyntax" = some g ∧ f g = some (.cells #[.iface tp p] t fr)
theorem glb_mono (f g : HP) (hl : HP.le f g) : glb f → glb g := fun ⟨a, tp, p, t, fr, h1, h2⟩ => ⟨a, tp, p, t, fr, h1, hl _ _ h2⟩
theorem glb_var {f : HP} {w : World} (h : glb f) (hl : HP.le f (wh w)) : ∃ tp p, w.var? Tryd.prog "strconv.ErrSyntax" = some #[.iface tp p] := by
  obtain ⟨g, tp, p, t, fr, h1, h2⟩ := h
  refine ⟨tp, p, ?_⟩
  unfold World.var?
  rw [h1]
  have h3 : w.heap[g]? = some (.cells #[.iface tp p] t fr) := hl _ _ h2
  simp [h3]
theorem var_glb {w : World} {tp : TypeId} {p : Value} (h : w.var? Tryd.prog "strconv.ErrSyntax" = some #[.iface tp p]) : glb (wh w) := by
  unfold World.var? at h
  cases hg : Tryd.prog.globalNamed "strconv.ErrSyntax" with
  | none => rw [hg] at h; cases h
  | some g =>
    rw [hg] at h
    simp only [Option.bind_some] at h
    cases ho : w.heap[g]? with
    | none => rw [ho] at h; cases h
    | some o =>
      rw [ho] at h
      cases o <;> simp only at h <;> try cases h
      exact ⟨g, tp, p, _, _, hg, ho⟩
set_option maxHeartbeats 1000000 in
theorem numCalls (w : World) (f : HP) (hg : glb f) (hle : HP.le f (wh w)) : Calls Tryd.prog 55 #[.string ByteArray.empty] w fun e w' => e = .returned (.tuple #[.int .i64 0, .bool false]) ∧ w'.os = w.os ∧ w'.tape = w.tape ∧ w'.output = w.output ∧ HP.le (wh w) (wh w') := by
  obtain ⟨tp, p, hvar⟩ := glb_var hg hle
  have c := Any.strconv_Atoi_syntax_var Tryd.laysC172 ByteArray.empty (by decide) (by decide +kernel) tp p w hvar
  go_enter Tryd.func55, Tryd.ntmps55
  go_wp2_with (go_at_call 75; refine c.mono ?_; rintro e w' ⟨N, rfl, hN, hc, hb⟩)
  go_ret2
  exact ⟨rfl, hb.os, hb.tape, hb.output, fun b o hb' => by
    have hb' : w.heap[b]? = some o := hb'
    show w'.heap[b]? = some o
    rw [hb.block b (by
      rcases Nat.lt_or_ge b w.heap.size with h | h
      · exact h
      · rw [Array.getElem?_eq_none h] at hb'; cases hb')]
    exact hb'⟩
end Hd
