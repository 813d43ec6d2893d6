/- How the arguments of a call are opened; how a law over them is closed. -/
import Derived.Test.YtoamdmkakblnnaaDoorK4
import Derived.ProofKit
import Derived.OpenShut
import Derived.WideKeyArgs
import Derived.Test.YtoamdmkakblnnaaDoorD1
set_option linter.unusedVariables false
set_option linter.unusedSimpArgs false
namespace Hk
open Go Go.ChangeShapes Go.WideShapes
structure Opn (P : Program) (t : TypeId) {α : Type} (E : FRel α) (ok : α → Prop) : Prop where
  cells : P.cellsOf t = E.n
  pos : 0 < E.n
  go : ∀ {H : Type} {enc : TypeId × Value → H} {w : World} {base : Nat} {sp : Nat → Bool} {held : Bool} {fuel : Nat} {cs : List Value} {x : DataW H × List MemPlace},
    DataW.trod enc P w base sp held fuel t cs = some x → ∃ y, E.p (wh w) cs y ∧ ok y
def I64 (x : Int) : Prop := -9223372036854775808 ≤ x ∧ x ≤ 9223372036854775807
section
variable {P : Program}
theorem opn_int {t : TypeId} (ht : P.underlying t = some (.int .i64)) (hc : P.cellsOf t = 1) : Opn P t (fInt .i64) I64 :=
  ⟨hc, by decide, fun h => by
    obtain ⟨n, rfl, _, hw⟩ := DataW.trod_int ht h
    exact ⟨n, rfl, by simpa [Lit.wf, IntKind.min, IntKind.max, IntKind.signed, IntKind.bits, I64] using hw⟩⟩
theorem opn_bool {t : TypeId} (ht : P.underlying t = some .bool) (hc : P.cellsOf t = 1) : Opn P t fBool (fun _ => True) :=
  ⟨hc, by decide, fun h => by
    obtain ⟨b, rfl, _⟩ := DataW.trod_bool ht h
    exact ⟨b, rfl, trivial⟩⟩
theorem opn_str {t : TypeId} (ht : P.underlying t = some .string) (hc : P.cellsOf t = 1) : Opn P t fStr (fun s => s.size ≤ maxLen) :=
  ⟨hc, by decide, fun h => by
    obtain ⟨s, rfl, _, hs⟩ := DataW.trod_string ht h
    exact ⟨s, rfl, hs⟩⟩
def AllOk {α : Type} (ok : α → Prop) (xs : List α) : Prop := xs.length ≤ maxLen ∧ ∀ x ∈ xs, ok x
theorem opn_slice {t e : TypeId} {α : Type} {E : FRel α} {ok : α → Prop} (ht : P.underlying t = some (.slice e)) (hc : P.cellsOf t = 1) (hE : Opn P e E ok) : Opn P t (fSl E) (AllOk ok) :=
  ⟨hc, by show 0 < 1; decide, fun {H enc w base sp held fuel cs x} h => by
    rcases DataW.trod_slice ht h with ⟨rfl, _⟩ | ⟨a, len, cap, elems, rest, n, rfl, rfl, _, hb, hl, hm, hlen, hel, _, _⟩
    · exact ⟨[], ⟨_, _, _, rfl, SlF.nil _ _⟩, by simp [AllOk, maxLen]⟩
    · have key : ∀ i : Nat, i < len → ∃ y : α, ok y ∧ ∃ es, (∀ j, j < E.n → w.cell? ((a.add (i * E.n)).add j) = es[j]?) ∧ E.p (wh w) es y := by
        intro i hi
        have h1 := hel i hi
        obtain ⟨z, hz⟩ : ∃ z, elems[i]? = some z := ⟨elems[i]'(by omega), List.getElem?_eq_getElem (by omega)⟩
        rw [hz] at h1
        obtain ⟨es, h2, h3⟩ := Option.bind_eq_some_iff.1 h1
        obtain ⟨y, hy, hok⟩ := hE.go h3
        rw [hE.cells] at h2
        obtain ⟨_, hln, hcell⟩ := World.cells?_some h2
        exact ⟨y, hok, es, hcell, hy⟩
      have hspot : 0 < len → a.spot = none := by
        intro h0
        obtain ⟨y, _, es, hcell, hy⟩ := key 0 h0
        have h1 := hcell 0 hE.pos
        have hes : es.length = E.n := E.len hy
        obtain ⟨c0, hc0⟩ : ∃ c0, es[0]? = some c0 := ⟨es[0]'(by have := hE.pos; omega), List.getElem?_eq_getElem _⟩
        rw [hc0] at h1
        simpa [Addr.add] using World.cell?_spot h1
      let ys : List α := (List.range len).pmap (fun i hi => (key i hi).choose) (by simp)
      have hys : ys.length = len := by simp [ys]
      have hget : ∀ i x, ys[i]? = some x → ∃ hi : i < len, x = (key i hi).choose := by
        intro i x hx
        have hi : i < len := by have := (List.getElem?_eq_some_iff.1 hx).1; omega
        refine ⟨hi, ?_⟩
        have := (List.getElem?_eq_some_iff.1 hx).2
        rw [← this]
        simp [ys]
      refine ⟨ys, ⟨some a, len, cap, rfl, ⟨hys.symm, by omega, hm, fun i x hx => ?_⟩⟩, by omega, fun x hx => ?_⟩
      · obtain ⟨hi, rfl⟩ := hget i x hx
        obtain ⟨_, es, hcell, hy⟩ := (key i hi).choose_spec
        have hs := hspot (by omega)
        obtain ⟨b, o, s⟩ := a
        subst hs
        refine ⟨b, o, es, rfl, fun j v hv => ?_, hy⟩
        have hj : j < E.n := by rw [← E.len hy]; exact (List.getElem?_eq_some_iff.1 hv).1
        have h1 := hcell j hj
        rw [hv, add_none, add_none] at h1
        rw [hcell_wh]; exact h1
      · obtain ⟨i, hi⟩ := List.getElem?_of_mem hx
        obtain ⟨hlt, rfl⟩ := hget i x hi
        exact (key i hlt).choose_spec.1⟩
def tyFs (P : Program) (t : TypeId) : Option (List (TypeId × Nat)) :=
  match P.underlying t with
  | some (.struct fs) => some (fs.toList.map fun f => (f.type, f.offset))
  | _ => none
theorem trod_fs {H : Type} {enc : TypeId × Value → H} {w : World} {base : Nat} {sp : Nat → Bool} {held : Bool} {fuel : Nat} {cs : List Value} {x : DataW H × List MemPlace} {t : TypeId} {l : List (TypeId × Nat)} (hl : tyFs P t = some l)
    (h : DataW.trod enc P w base sp held fuel t cs = some x) : cs.length = P.cellsOf t ∧ ∃ n, ∀ p ∈ l, ∃ y, DataW.trod enc P w base sp held n p.1 ((cs.drop p.2).take (P.cellsOf p.1)) = some y := by
  unfold tyFs at hl
  split at hl
  · rename_i fs hu
    injection hl with hl
    subst hl
    obtain ⟨xs, n, _, _, h1, h2, h3⟩ := DataW.trod_struct hu h
    refine ⟨h1, n, fun p hp => ?_⟩
    obtain ⟨f, hf, rfl⟩ := List.mem_map.1 hp
    obtain ⟨i, hi⟩ := List.getElem?_of_mem hf
    have hlt := (List.getElem?_eq_some_iff.1 hi).1
    refine ⟨xs[i]'(by simp at h2 hlt; omega), ?_⟩
    have h4 := h3 i f (by simpa using hi)
    rw [h4]
    exact List.getElem?_eq_getElem _
  · cases hl
theorem fp_last {α : Type} {A : FRel α} {f : HP} {cs : List Value} {x : α} {o : Nat} (hl : cs.length = o + A.n) (ha : A.p f ((cs.drop o).take A.n) x) : A.p f (cs.drop o) x := by
  rwa [List.take_of_length_le (by simp; omega)] at ha
theorem fp_cons {α β : Type} {A : FRel α} {B : FRel β} {f : HP} {cs : List Value} {x : α × β} {o : Nat} (ha : A.p f ((cs.drop o).take A.n) x.1) (hb : B.p f (cs.drop (o + A.n)) x.2) : (fPair A B).p f (cs.drop o) x :=
  ⟨_, _, by rw [← List.drop_drop, List.take_append_drop], ha, hb⟩
end
theorem okWide_agg {P : Program} {W : World} {r : Reach} {b : Nat} {t : TypeId} {v : Value} {l : List (TypeId × Nat)} (h : tyFs P t = some l) (hv : Value.okWide P W r b t v) : ∃ cs : Array Value, v = .agg cs := by
  unfold tyFs at h
  split at h
  · rename_i fs hu
    unfold Value.okWide at hv
    rw [hu] at hv
    obtain ⟨cs, rfl, _⟩ := hv
    exact ⟨cs, rfl⟩
  · cases h
theorem wd_end {W W' : World} {f' : HP} (hl : HP.le (wh W) f') (h : Wd W W' f' []) : ∀ (b : Nat) (o : Obj), W.heap[b]? = some o → W'.heap[b]? = some o := fun b o hb => h.fro b o (hl b o hb)
section
variable {H : Type} {enc : TypeId × Value → H} {P : Program}
theorem args_stay {W W' : World} {sp : Nat → Bool} (hl : laidOutB P = true) (hh : ∀ (b : Nat) (o : Obj), W.heap[b]? = some o → W'.heap[b]? = some o) :
    ∀ {ts : List TypeId} {vs : List Value} {ds : List (DataW H)} {ps : List MemPlace}, (∀ t ∈ ts, P.readableRec t = true ∧ t < P.types.size) → (∀ p ∈ ps, p.block < W.heap.size) → (∀ p ∈ ps, sp p.block = true) →
      DataW.TrodAll enc P W 0 (fun _ => true) true ts vs ds ps → DataW.TrodAll enc P W' 0 sp true ts vs ds ps
  | [], _, _, _, _, _, _, h => by
    obtain ⟨rfl, rfl, rfl⟩ := trodAll_nil h
    exact trodAll_mk0
  | t :: ts, _, _, _, hr, hb, hs, h => by
    obtain ⟨v, vs1, d, ds1, p, q, rfl, rfl, rfl, h1, h2⟩ := trodAll_cons h
    refine ⟨p, q, WideElems.Trod_stays hl (hr t (by simp)).1 (hr t (by simp)).2 h1 (fun x hx => ?_) (fun x hx => hs x (by simp [hx])), args_stay hl hh (fun t' h' => hr t' (by simp [h'])) (fun x hx => hb x (by simp [hx])) (fun x hx => hs x (by simp [hx])) h2, rfl⟩
    have hlt := hb x (by simp [hx])
    have hheap : W'.heap[x.block]? = W.heap[x.block]? := by
      rw [hh x.block _ (Array.getElem?_eq_getElem hlt), Array.getElem?_eq_getElem hlt]
    cases x with
    | cell b off => show W'.cell? _ = W.cell? _; unfold World.cell?; rw [show W'.heap[b]? = W.heap[b]? from hheap]
    | map b => exact hheap
theorem post_of_wd {f : Func} {s : ChangeSpec} {apart fresh handsOn again : Bool} {W W' : World} {f' : HP} {args : Array Value} {ds gs : List (DataW H)} {before : List MemPlace} {bt : TypeId}
    (hW : DataW.Whole enc P f.params.toList s.vars apart W args.toList ds gs before) (hl : laidOutB P = true) (hr : ∀ t ∈ f.params.toList, P.readableRec t = true ∧ t < P.types.size)
    (hv : s.vars = []) (hf : s.fn H (ds ++ gs) = { results := [.lit (.bool true)], args := ds }) (hres : f.resultTypes = #[bt]) (hbt : P.underlying bt = some .bool)
    (hle : HP.le (wh W) f') (hw : Wd W W' f' []) : s.post enc P f apart fresh handsOn again W args (.bool true) W' := by
  have hW0 := hW
  obtain ⟨p, q, hA, hV, rfl, hz, hn⟩ := hW
  rw [hv] at hV
  obtain ⟨rfl, rfl⟩ : gs = [] ∧ q = [] := by
    cases gs with
    | nil => exact ⟨rfl, hV⟩
    | cons g l => exact hV.elim
  have hh := wd_end hle hw
  have hlt := hW0.lt
  have hold : ∀ x ∈ p ++ [], (fun b => decide (b < W.heap.size)) x.block = true := fun x hx => by simpa using hlt x hx
  have hargs : ∀ sp : Nat → Bool, (∀ x ∈ p ++ [], sp x.block = true) → DataW.TrodAll enc P W' 0 sp true f.params.toList args.toList ds p :=
    fun sp hs => args_stay hl hh hr (fun x hx => hlt x (by simp [hx])) (fun x hx => hs x (by simp [hx])) hA
  have hheap : ∀ b : Nat, b < W.heap.size → W'.heap[b]? = W.heap[b]? := fun b hb => by rw [hh b _ (Array.getElem?_eq_getElem hb), Array.getElem?_eq_getElem hb]
  have hrl : ((Value.bool true).resultList f.resultTypes.size) = [.bool true] := by rw [hres]; rfl
  have hvars : ∀ sp : Nat → Bool, DataW.TrodVars enc P W' sp s.vars (s.fn H (ds ++ [])).vars [] := fun sp => by rw [hf, hv]; rfl
  have hres' : ∀ (b : Nat) (sp : Nat → Bool) (hd : Bool), DataW.TrodAll enc P W' b sp hd f.resultTypes.toList ((Value.bool true).resultList f.resultTypes.size) (s.fn H (ds ++ [])).results [] := fun b sp hd => by
    rw [hrl, hf, hres]
    exact ⟨[], [], RowKit.shut_bool hbt _, rfl, rfl⟩
  have hargs' : ∀ sp : Nat → Bool, (∀ x ∈ p ++ [], sp x.block = true) → DataW.TrodAll enc P W' 0 sp true f.params.toList args.toList (s.fn H (ds ++ [])).args p := fun sp hs => by rw [hf]; exact hargs sp hs
  refine ⟨ds, [], p ++ [], [], p, [], hW0, hres' _ _ _, hargs' _ hold, hvars _, World.keptBut_mono (w := W) (w' := W') (may := (· ∈ p ++ [])) (fun x hx => ⟨hx, Or.inr (by simpa using hx)⟩) ?_, fun _ => ?_⟩
  · refine ⟨hw.os, hw.output, fun i hi => ?_⟩
    rw [hheap i hi, Array.getElem?_eq_getElem hi]
    cases W.heap[i] <;> simp
  · refine ⟨fun j t r hj hr' => ?_, _, _, ([] ++ p) ++ [], ⟨[] ++ p, [], trodAll_append (hargs' _ (fun _ _ => rfl)) (hres' _ _ _), hvars _, rfl, ?_, ?_⟩, ?_⟩
    · rw [hres] at hj
      rw [hrl] at hr'
      cases j with
      | zero => simp at hj hr'; subst hj hr'; exact RowKit.okWide_bool_mk hbt _
      | succ j => simp at hj
    · intro b off hp
      have hb := hlt (.cell b off) (by simpa using hp)
      have := hz b off (by simpa using hp)
      unfold World.frozen? at this ⊢
      rw [hheap b hb]; exact this
    · intro ha
      have := hn ha
      simpa using this
    · intro x hx _
      simpa using hx
end
end Hk
set_option linter.unusedVariables false
set_option linter.unusedSimpArgs false
namespace Hk
open Go
def Tot {α : Type} (o : Option α) (Q : α → Prop) : Prop := ∃ x, o = some x ∧ Q x
theorem tot_some {α : Type} {x : α} {Q : α → Prop} (h : Q x) : Tot (some x) Q := ⟨x, rfl, h⟩
theorem tot_mono {α : Type} {o : Option α} {P Q : α → Prop} (h : Tot o P) (hq : ∀ x, P x → Q x) : Tot o Q := let ⟨x, h1, h2⟩ := h; ⟨x, h1, hq x h2⟩
theorem tot_bind {α β : Type} {o : Option α} {k : α → Option β} {P : α → Prop} {Q : β → Prop} (h : Tot o P) (hk : ∀ x, o = some x → P x → Tot (k x) Q) : Tot (o.bind k) Q := by
  obtain ⟨x, h1, h2⟩ := h
  obtain ⟨y, h3, h4⟩ := hk x h1 h2
  exact ⟨y, by rw [h1]; exact h3, h4⟩
theorem tot_bind' {α β : Type} {o : Option α} {k : α → Option β} {x : α} {Q : β → Prop} (h : o = some x) (hk : Tot (k x) Q) : Tot (o.bind k) Q := by
  rw [h]; exact hk
theorem tot_ifb {α : Type} {b : Bool} {x y : Option α} {Q : α → Prop} (ht : b = true → Tot x Q) (hf : b = false → Tot y Q) : Tot (ifb b x y) Q := by
  cases b
  · exact hf rfl
  · exact ht rfl
theorem tot_eq {α : Type} {o : Option α} {x : α} (h : Tot o (· = x)) : o = some x := by obtain ⟨y, h1, rfl⟩ := h; exact h1
theorem eq_tot {α : Type} {o : Option α} {x : α} {Q : α → Prop} (h : o = some x) (hq : Q x) : Tot o Q := ⟨x, h, hq⟩
def nth {α : Type} (z : α) (xs : List α) (i : Int) : α := (xs[i.toNat]?).getD z
theorem idx_nth {α : Type} (z : α) {xs : List α} {i : Int} (h0 : 0 ≤ i) (h1 : i < xs.length) : idx xs i = some (nth z xs i) := by
  unfold idx nth
  rw [if_pos h0, List.getElem?_eq_getElem (by omega)]; rfl
theorem nth_mem {α : Type} (z : α) {xs : List α} {i : Int} (h0 : 0 ≤ i) (h1 : i < xs.length) : nth z xs i ∈ xs := by
  unfold nth
  rw [List.getElem?_eq_getElem (by omega)]
  exact List.getElem_mem _
theorem setI_length {α : Type} (xs : List α) (i : Int) (v : α) : (setI xs i v).length = xs.length := by simp [setI]
theorem nth_setI {α : Type} (z : α) {xs : List α} {i j : Int} {v : α} (hi : 0 ≤ i) (hj : 0 ≤ j) (hl : j < xs.length) : nth z (setI xs i v) j = if j = i then v else nth z xs j := by
  unfold nth setI
  by_cases h : j = i
  · subst h
    rw [if_pos rfl, List.getElem?_set_self (by omega)]; rfl
  · rw [if_neg h, List.getElem?_set_ne (by omega)]
theorem gapp_eq {α : Type} {bytes : Nat} {xs ys : List α} (h1 : (xs.length + ys.length) * bytes ≤ apRoom) (h2 : xs.length + ys.length ≤ maxLen) : gapp bytes xs ys = some (xs ++ ys) := by
  unfold gapp; rw [if_pos ⟨h1, h2⟩]
theorem gcut_eq {α : Type} {xs : List α} {l k : Int} (h0 : 0 ≤ l) (h1 : l ≤ k) (h2 : k ≤ xs.length) : gcut xs l k = some ((xs.take k.toNat).drop l.toNat) := by
  unfold gcut; rw [if_pos ⟨h0, h1, h2⟩]
theorem tot_forO {α σ X : Type} {body : Nat → α → σ → Option (Ctl σ X)} {E : Ctl σ X → Prop} {I : Nat → σ → Prop} (xs : List α)
    (hstep : ∀ i x s, xs[i]? = some x → I i s → Tot (body i x s) (fun c => match c with | .go s' => I (i + 1) s' | .out y => E (.out y))) (hend : ∀ s, I xs.length s → E (.go s)) :
    ∀ (k : Nat) (s : σ), k ≤ xs.length → I k s → Tot (forO body k (xs.drop k) s) E := by
  intro k
  induction hm : xs.length - k generalizing k with
  | zero =>
    intro s hk hI
    have : k = xs.length := by omega
    subst this
    rw [List.drop_length]
    exact tot_some (hend s hI)
  | succ m ih =>
    intro s hk hI
    have hlt : k < xs.length := by omega
    rw [List.drop_eq_getElem_cons hlt]
    simp only [forO]
    refine tot_bind (hstep k _ s (List.getElem?_eq_getElem hlt) hI) fun c _ hc => ?_
    cases c with
    | go s' => exact ih (k + 1) (by omega) s' (by omega) hc
    | out y => exact tot_some hc
theorem tot_forC {α σ X : Type} {body : Nat → α → σ → Option (Ctl σ (Ctl σ X))} {E : Ctl σ X → Prop} {xs : List α} {s : σ} (I : Nat → σ → Prop) (h0 : I 0 s)
    (hstep : ∀ i x s, xs[i]? = some x → I i s → Tot (body i x s) (fun c => match c with | .go s' => I (i + 1) s' | .out y => E y)) (hend : ∀ s, I xs.length s → E (.go s)) : Tot (forC body xs s) E := by
  unfold forC
  have := tot_forO (body := body) (E := fun c => E c.flat) (I := I) xs (fun i x s hx hI => tot_mono (hstep i x s hx hI) fun c hc => by cases c <;> exact hc) hend 0 s (by omega) h0
  obtain ⟨c, h1, h2⟩ := this
  exact ⟨c.flat, by rw [List.drop_zero] at h1; rw [h1]; rfl, h2⟩
theorem tot_on {σ X β : Type} {c : Ctl σ X} {F : σ → Option β} {H : X → Option β} {Q : β → Prop} (hg : ∀ s, c = .go s → Tot (F s) Q) (ho : ∀ x, c = .out x → Tot (H x) Q) : Tot (Ctl.on c F H) Q := by
  cases c with
  | go s => exact hg s rfl
  | out x => exact ho x rfl
theorem tot_loop {α σ X β : Type} {body : Nat → α → σ → Option (Ctl σ (Ctl σ X))} {xs : List α} {s : σ} {F : σ → Option β} {H : X → Option β} {Q : β → Prop} (I : Nat → σ → Prop) (J : σ → Prop) (E : X → Prop) (h0 : I 0 s)
    (hstep : ∀ i x s, xs[i]? = some x → I i s → Tot (body i x s) (fun c => match c with | .go s' => I (i + 1) s' | .out (.go s') => J s' | .out (.out y) => E y)) (hend : ∀ s, I xs.length s → J s)
    (hF : ∀ s, J s → Tot (F s) Q) (hH : ∀ x, E x → Tot (H x) Q) : Tot ((forC body xs s).bind fun c => Ctl.on c F H) Q := by
  refine tot_bind (P := fun c => match c with | .go s => J s | .out y => E y) (tot_forC I h0 (fun i x s hx hI => tot_mono (hstep i x s hx hI) fun c hc => ?_) hend) fun c _ hc => ?_
  · rcases c with s' | (s' | y) <;> exact hc
  · cases c with
    | go s => exact hF s hc
    | out y => exact hH y hc
theorem tot_all' {α β X : Type} {body : Nat → α → Unit → Option (Ctl Unit (Ctl Unit X))} {xs : List α} {F : Unit → Option β} {H : X → Option β} {Q : β → Prop} (P : Nat → α → Prop) (E : X → Prop)
    (hstep : ∀ i x, xs[i]? = some x → Tot (body i x ()) (fun c => match c with | .go _ => P i x | .out (.go _) => False | .out (.out y) => E y))
    (hF : (∀ (i : Nat) x, xs[i]? = some x → P i x) → Tot (F ()) Q) (hH : ∀ y, E y → Tot (H y) Q) : Tot ((forC body xs ()).bind fun c => Ctl.on c F H) Q := by
  refine tot_loop (I := fun k _ => ∀ i x, i < k → xs[i]? = some x → P i x) (J := fun _ => ∀ (i : Nat) x, xs[i]? = some x → P i x) (E := E) (fun i x h => by omega) (fun i x s hx hI => tot_mono (hstep i x hx) fun c hc => ?_) (fun s hI i x hx => hI i x (List.getElem?_eq_some_iff.1 hx).1 hx) (fun s hJ => hF hJ) hH
  rcases c with _ | (_ | y)
  · intro j y hj hy
    by_cases h : j = i
    · subst h; rw [hx] at hy; injection hy with hy; subst hy; exact hc
    · exact hI j y (by omega) hy
  · exact hc.elim
  · exact hc
theorem w64_id {x : Int} (h0 : -9223372036854775808 ≤ x) (h1 : x ≤ 9223372036854775807) : w64 x = x := w64_eq h0 h1
end Hk
set_option linter.unusedVariables false
set_option linter.unusedSimpArgs false
namespace Hd
open Go Hk
theorem idx_get {α : Type} {xs : List α} {k : Nat} (h : k < xs.length) : idx xs (k : Int) = some xs[k] := by
  unfold idx
  rw [if_pos (by omega), Int.toNat_natCast, List.getElem?_eq_getElem h]
theorem forX_eq {α σ X : Type} (body : Nat → α → σ → Option (Ctl σ (Ctl σ X))) (xs : List α) (s : σ) : forX body xs s = forC body xs s := by
  have key : ∀ (m k : Nat) (s : σ), xs.length - k = m → k ≤ xs.length → forO (fun i (_ : Nat) s => (idx xs (i : Int)).bind fun x => body i x s) k ((List.range xs.length).drop k) s = forO body k (xs.drop k) s := by
    intro m
    induction m with
    | zero =>
      intro k s h1 h2
      have : k = xs.length := by omega
      rw [this, List.drop_length, List.drop_of_length_le (by simp)]
      rfl
    | succ m ih =>
      intro k s h1 h2
      have hk : k < xs.length := by omega
      rw [List.drop_eq_getElem_cons (l := List.range xs.length) (by simpa using hk), List.drop_eq_getElem_cons hk]
      simp only [forO, idx_get hk, Option.bind_some]
      congr 1
      funext c
      cases c with
      | go s' => exact ih (k + 1) s' (by omega) (by omega)
      | out y => rfl
  unfold forX forC
  have := key xs.length 0 s (by omega) (by omega)
  rw [List.drop_zero, List.drop_zero] at this
  rw [this]
theorem tot_loopX {α σ X β : Type} {body : Nat → α → σ → Option (Ctl σ (Ctl σ X))} {xs : List α} {s : σ} {F : σ → Option β} {H : X → Option β} {Q : β → Prop} (I : Nat → σ → Prop) (J : σ → Prop) (E : X → Prop) (h0 : I 0 s)
    (hstep : ∀ i x s, xs[i]? = some x → I i s → Tot (body i x s) (fun c => match c with | .go s' => I (i + 1) s' | .out (.go s') => J s' | .out (.out y) => E y)) (hend : ∀ s, I xs.length s → J s)
    (hF : ∀ s, J s → Tot (F s) Q) (hH : ∀ x, E x → Tot (H x) Q) : Tot ((forX body xs s).bind fun c => Ctl.on c F H) Q := by
  rw [forX_eq]; exact tot_loop I J E h0 hstep hend hF hH
theorem tot_allX {α β X : Type} {body : Nat → α → Unit → Option (Ctl Unit (Ctl Unit X))} {xs : List α} {F : Unit → Option β} {H : X → Option β} {Q : β → Prop} (P : Nat → α → Prop) (E : X → Prop)
    (hstep : ∀ i x, xs[i]? = some x → Tot (body i x ()) (fun c => match c with | .go _ => P i x | .out (.go _) => False | .out (.out y) => E y))
    (hF : (∀ (i : Nat) x, xs[i]? = some x → P i x) → Tot (F ()) Q) (hH : ∀ y, E y → Tot (H y) Q) : Tot ((forX body xs ()).bind fun c => Ctl.on c F H) Q := by
  rw [forX_eq]; exact tot_all' P E hstep hF hH
end Hd
set_option linter.unusedVariables false
set_option linter.unusedSimpArgs false
namespace Pl
open Go Hk Hd
abbrev rw_ (m : List (List Int)) (i : Nat) : List Int := nth [] m (i : Int)
structure Sq (n : Nat) (m : List (List Int)) : Prop where
  len : m.length = n
  row : ∀ i, i < n → (rw_ m i).length = n
theorem Sq.set {n : Nat} {m : List (List Int)} {i j : Nat} {x : Int} (h : Sq n m) (hi : i < n) (hj : j < n) : Sq n (setI m (i : Int) (setI (rw_ m i) (j : Int) x)) := by
  refine ⟨by rw [setI_length]; exact h.len, fun k hk => ?_⟩
  have hl := h.len
  rw [show rw_ (setI m (i : Int) (setI (rw_ m i) (j : Int) x)) k = if ((k : Nat) : Int) = i then setI (rw_ m i) (j : Int) x else rw_ m k from nth_setI [] (by omega) (by omega) (by omega)]
  split
  · rw [setI_length]; exact h.row i hi
  · exact h.row k hk
end Pl
