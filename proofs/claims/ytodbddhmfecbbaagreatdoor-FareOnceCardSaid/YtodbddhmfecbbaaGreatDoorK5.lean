/- How the arguments of a call are opened; how a law over them is closed. -/
import Derived.Test.YtodbddhmfecbbaaGreatDoorK4
import Derived.ProofKit
import Derived.OpenShut
import Derived.WideKeyArgs
import Derived.Test.YtodbddhmfecbbaaGreatDoorD1
set_option linter.unusedVariables false
set_option linter.unusedSimpArgs false
namespace Hk
open Go Go.ChangeShapes Go.WideShapes
structure Opn (P : Program) (t : TypeId) {α : Type} (E : FRel α) (ok : α → Prop) : Prop where
  cells : P.cellsOf t = E.n
  pos : 0 < E.n
  go : ∀ {H : Type} {enc : TypeId × Value → H} {w : World} {base : Nat} {sp : Nat → Bool} {held : Bool} {fuel : Nat} {cs : List Value} {x : DataW H × List MemPlace},
    DataW.trod enc P w base sp held fuel t cs = some x → ∃ y, E.p (wh w) cs y ∧ ok y
def I64 (x : Int) : Prop := -9223372036854775808 ≤ x ∧ x ≤ 9223372036854775807
section
variable {P : Program}
theorem opn_int {t : TypeId} (ht : P.underlying t = some (.int .i64)) (hc : P.cellsOf t = 1) : Opn P t (fInt .i64) I64 :=
  ⟨hc, by decide, fun h => by
    obtain ⟨n, rfl, _, hw⟩ := DataW.trod_int ht h
    exact ⟨n, rfl, by simpa [Lit.wf, IntKind.min, IntKind.max, IntKind.signed, IntKind.bits, I64] using hw⟩⟩
def AllOk {α : Type} (ok : α → Prop) (xs : List α) : Prop := xs.length ≤ maxLen ∧ ∀ x ∈ xs, ok x
theorem opn_slice {t e : TypeId} {α : Type} {E : FRel α} {ok : α → Prop} (ht : P.underlying t = some (.slice e)) (hc : P.cellsOf t = 1) (hE : Opn P e E ok) : Opn P t (fSl E) (AllOk ok) :=
  ⟨hc, by show 0 < 1; decide, fun {H enc w base sp held fuel cs x} h => by
    rcases DataW.trod_slice ht h with ⟨rfl, _⟩ | ⟨a, len, cap, elems, rest, n, rfl, rfl, _, hb, hl, hm, hlen, hel, _, _⟩
    · exact ⟨[], ⟨_, _, _, rfl, SlF.nil _ _⟩, by simp [AllOk, maxLen]⟩
    · have key : ∀ i : Nat, i < len → ∃ y : α, ok y ∧ ∃ es, (∀ j, j < E.n → w.cell? ((a.add (i * E.n)).add j) = es[j]?) ∧ E.p (wh w) es y := by
        intro i hi
        have h1 := hel i hi
        obtain ⟨z, hz⟩ : ∃ z, elems[i]? = some z := ⟨elems[i]'(by omega), List.getElem?_eq_getElem (by omega)⟩
        rw [hz] at h1
        obtain ⟨es, h2, h3⟩ := Option.bind_eq_some_iff.1 h1
        obtain ⟨y, hy, hok⟩ := hE.go h3
        rw [hE.cells] at h2
        obtain ⟨_, hln, hcell⟩ := World.cells?_some h2
        exact ⟨y, hok, es, hcell, hy⟩
      have hspot : 0 < len → a.spot = none := by
        intro h0
        obtain ⟨y, _, es, hcell, hy⟩ := key 0 h0
        have h1 := hcell 0 hE.pos
        have hes : es.length = E.n := E.len hy
        obtain ⟨c0, hc0⟩ : ∃ c0, es[0]? = some c0 := ⟨es[0]'(by have := hE.pos; omega), List.getElem?_eq_getElem _⟩
        rw [hc0] at h1
        simpa [Addr.add] using World.cell?_spot h1
      let ys : List α := (List.range len).pmap (fun i hi => (key i hi).choose) (by simp)
      have hys : ys.length = len := by simp [ys]
      have hget : ∀ i x, ys[i]? = some x → ∃ hi : i < len, x = (key i hi).choose := by
        intro i x hx
        have hi : i < len := by have := (List.getElem?_eq_some_iff.1 hx).1; omega
        refine ⟨hi, ?_⟩
        have := (List.getElem?_eq_some_iff.1 hx).2
        rw [← this]
        simp [ys]
      refine ⟨ys, ⟨some a, len, cap, rfl, ⟨hys.symm, by omega, hm, fun i x hx => ?_⟩⟩, by omega, fun x hx => ?_⟩
      · obtain ⟨hi, rfl⟩ := hget i x hx
        obtain ⟨_, es, hcell, hy⟩ := (key i hi).choose_spec
        have hs := hspot (by omega)
        obtain ⟨b, o, s⟩ := a
        subst hs
        refine ⟨b, o, es, rfl, fun j v hv => ?_, hy⟩
        have hj : j < E.n := by rw [← E.len hy]; exact (List.getElem?_eq_some_iff.1 hv).1
        have h1 := hcell j hj
        rw [hv, add_none, add_none] at h1
        rw [hcell_wh]; exact h1
      · obtain ⟨i, hi⟩ := List.getElem?_of_mem hx
        obtain ⟨hlt, rfl⟩ := hget i x hi
        exact (key i hlt).choose_spec.1⟩
end
theorem okWide_sl {P : Program} {W : World} {r : Reach} {b : Nat} {t e : TypeId} {v u : Value} (ht : P.underlying t = some (.slice e)) (hv : Value.okWide P W r b t v) (h : v.cells.toList = [u]) : u = v := by
  unfold Value.okWide at hv
  rw [ht] at hv
  cases v <;> simp_all [Cell.okWide, Cell.ok, Value.cells]
theorem okWide_i {P : Program} {W : World} {r : Reach} {b : Nat} {t : TypeId} {k : IntKind} {v u : Value} (ht : P.underlying t = some (.int k)) (hv : Value.okWide P W r b t v) (h : v.cells.toList = [u]) : u = v := by
  unfold Value.okWide at hv
  rw [ht] at hv
  cases v <;> simp_all [Cell.okWide, Cell.ok, Value.cells]
theorem wd_end {W W' : World} {f' : HP} (hl : HP.le (wh W) f') (h : Wd W W' f' []) : ∀ (b : Nat) (o : Obj), W.heap[b]? = some o → W'.heap[b]? = some o := fun b o hb => h.fro b o (hl b o hb)
section
variable {H : Type} {enc : TypeId × Value → H} {P : Program}
theorem args_stay {W W' : World} {sp : Nat → Bool} (hl : laidOutB P = true) (hh : ∀ (b : Nat) (o : Obj), W.heap[b]? = some o → W'.heap[b]? = some o) :
    ∀ {ts : List TypeId} {vs : List Value} {ds : List (DataW H)} {ps : List MemPlace}, (∀ t ∈ ts, P.readableRec t = true ∧ t < P.types.size) → (∀ p ∈ ps, p.block < W.heap.size) → (∀ p ∈ ps, sp p.block = true) →
      DataW.TrodAll enc P W 0 (fun _ => true) true ts vs ds ps → DataW.TrodAll enc P W' 0 sp true ts vs ds ps
  | [], _, _, _, _, _, _, h => by
    obtain ⟨rfl, rfl, rfl⟩ := trodAll_nil h
    exact trodAll_mk0
  | t :: ts, _, _, _, hr, hb, hs, h => by
    obtain ⟨v, vs1, d, ds1, p, q, rfl, rfl, rfl, h1, h2⟩ := trodAll_cons h
    refine ⟨p, q, WideElems.Trod_stays hl (hr t (by simp)).1 (hr t (by simp)).2 h1 (fun x hx => ?_) (fun x hx => hs x (by simp [hx])), args_stay hl hh (fun t' h' => hr t' (by simp [h'])) (fun x hx => hb x (by simp [hx])) (fun x hx => hs x (by simp [hx])) h2, rfl⟩
    have hlt := hb x (by simp [hx])
    have hheap : W'.heap[x.block]? = W.heap[x.block]? := by
      rw [hh x.block _ (Array.getElem?_eq_getElem hlt), Array.getElem?_eq_getElem hlt]
    cases x with
    | cell b off => show W'.cell? _ = W.cell? _; unfold World.cell?; rw [show W'.heap[b]? = W.heap[b]? from hheap]
    | map b => exact hheap
theorem post_of_wd {f : Func} {s : ChangeSpec} {apart fresh handsOn again : Bool} {W W' : World} {f' : HP} {args : Array Value} {ds gs : List (DataW H)} {before : List MemPlace} {bt : TypeId}
    (hW : DataW.Whole enc P f.params.toList s.vars apart W args.toList ds gs before) (hl : laidOutB P = true) (hr : ∀ t ∈ f.params.toList, P.readableRec t = true ∧ t < P.types.size)
    (hv : s.vars = []) (hf : s.fn H (ds ++ gs) = { results := [.lit (.bool true)], args := ds }) (hres : f.resultTypes = #[bt]) (hbt : P.underlying bt = some .bool)
    (hle : HP.le (wh W) f') (hw : Wd W W' f' []) : s.post enc P f apart fresh handsOn again W args (.bool true) W' := by
  have hW0 := hW
  obtain ⟨p, q, hA, hV, rfl, hz, hn⟩ := hW
  rw [hv] at hV
  obtain ⟨rfl, rfl⟩ : gs = [] ∧ q = [] := by
    cases gs with
    | nil => exact ⟨rfl, hV⟩
    | cons g l => exact hV.elim
  have hh := wd_end hle hw
  have hlt := hW0.lt
  have hold : ∀ x ∈ p ++ [], (fun b => decide (b < W.heap.size)) x.block = true := fun x hx => by simpa using hlt x hx
  have hargs : ∀ sp : Nat → Bool, (∀ x ∈ p ++ [], sp x.block = true) → DataW.TrodAll enc P W' 0 sp true f.params.toList args.toList ds p :=
    fun sp hs => args_stay hl hh hr (fun x hx => hlt x (by simp [hx])) (fun x hx => hs x (by simp [hx])) hA
  have hheap : ∀ b : Nat, b < W.heap.size → W'.heap[b]? = W.heap[b]? := fun b hb => by rw [hh b _ (Array.getElem?_eq_getElem hb), Array.getElem?_eq_getElem hb]
  have hrl : ((Value.bool true).resultList f.resultTypes.size) = [.bool true] := by rw [hres]; rfl
  have hvars : ∀ sp : Nat → Bool, DataW.TrodVars enc P W' sp s.vars (s.fn H (ds ++ [])).vars [] := fun sp => by rw [hf, hv]; rfl
  have hres' : ∀ (b : Nat) (sp : Nat → Bool) (hd : Bool), DataW.TrodAll enc P W' b sp hd f.resultTypes.toList ((Value.bool true).resultList f.resultTypes.size) (s.fn H (ds ++ [])).results [] := fun b sp hd => by
    rw [hrl, hf, hres]
    exact ⟨[], [], RowKit.shut_bool hbt _, rfl, rfl⟩
  have hargs' : ∀ sp : Nat → Bool, (∀ x ∈ p ++ [], sp x.block = true) → DataW.TrodAll enc P W' 0 sp true f.params.toList args.toList (s.fn H (ds ++ [])).args p := fun sp hs => by rw [hf]; exact hargs sp hs
  refine ⟨ds, [], p ++ [], [], p, [], hW0, hres' _ _ _, hargs' _ hold, hvars _, World.keptBut_mono (w := W) (w' := W') (may := (· ∈ p ++ [])) (fun x hx => ⟨hx, Or.inr (by simpa using hx)⟩) ?_, fun _ => ?_⟩
  · refine ⟨hw.os, hw.output, fun i hi => ?_⟩
    rw [hheap i hi, Array.getElem?_eq_getElem hi]
    cases W.heap[i] <;> simp
  · refine ⟨fun j t r hj hr' => ?_, _, _, ([] ++ p) ++ [], ⟨[] ++ p, [], trodAll_append (hargs' _ (fun _ _ => rfl)) (hres' _ _ _), hvars _, rfl, ?_, ?_⟩, ?_⟩
    · rw [hres] at hj
      rw [hrl] at hr'
      cases j with
      | zero => simp at hj hr'; subst hj hr'; exact RowKit.okWide_bool_mk hbt _
      | succ j => simp at hj
    · intro b off hp
      have hb := hlt (.cell b off) (by simpa using hp)
      have := hz b off (by simpa using hp)
      unfold World.frozen? at this ⊢
      rw [hheap b hb]; exact this
    · intro ha
      have := hn ha
      simpa using this
    · intro x hx _
      simpa using hx
end
end Hk
set_option linter.unusedVariables false
set_option linter.unusedSimpArgs false
namespace Hk
open Go
def Tot {α : Type} (o : Option α) (Q : α → Prop) : Prop := ∃ x, o = some x ∧ Q x
theorem tot_some {α : Type} {x : α} {Q : α → Prop} (h : Q x) : Tot (some x) Q := ⟨x, rfl, h⟩
theorem tot_mono {α : Type} {o : Option α} {P Q : α → Prop} (h : Tot o P) (hq : ∀ x, P x → Q x) : Tot o Q := let ⟨x, h1, h2⟩ := h; ⟨x, h1, hq x h2⟩
theorem tot_bind {α β : Type} {o : Option α} {k : α → Option β} {P : α → Prop} {Q : β → Prop} (h : Tot o P) (hk : ∀ x, o = some x → P x → Tot (k x) Q) : Tot (o.bind k) Q := by
  obtain ⟨x, h1, h2⟩ := h
  obtain ⟨y, h3, h4⟩ := hk x h1 h2
  exact ⟨y, by rw [h1]; exact h3, h4⟩
theorem tot_ifb {α : Type} {b : Bool} {x y : Option α} {Q : α → Prop} (ht : b = true → Tot x Q) (hf : b = false → Tot y Q) : Tot (ifb b x y) Q := by
  cases b
  · exact hf rfl
  · exact ht rfl
theorem ifb_true {α : Type} (x y : Option α) : ifb true x y = x := rfl
theorem ifb_false {α : Type} (x y : Option α) : ifb false x y = y := rfl
theorem ifb_dec {α : Type} {p : Prop} [Decidable p] (x y : Option α) : ifb (decide p) x y = if p then x else y := by
  by_cases h : p <;> simp [h, ifb]
theorem tot_eq {α : Type} {o : Option α} {x : α} (h : Tot o (· = x)) : o = some x := by obtain ⟨y, h1, rfl⟩ := h; exact h1
def nth {α : Type} (z : α) (xs : List α) (i : Int) : α := (xs[i.toNat]?).getD z
theorem idx_nth {α : Type} (z : α) {xs : List α} {i : Int} (h0 : 0 ≤ i) (h1 : i < xs.length) : idx xs i = some (nth z xs i) := by
  unfold idx nth
  rw [if_pos h0, List.getElem?_eq_getElem (by omega)]; rfl
theorem nth_mem {α : Type} (z : α) {xs : List α} {i : Int} (h0 : 0 ≤ i) (h1 : i < xs.length) : nth z xs i ∈ xs := by
  unfold nth
  rw [List.getElem?_eq_getElem (by omega)]
  exact List.getElem_mem _
theorem nth_nat {α : Type} (z : α) {xs : List α} {i : Nat} {x : α} (h : xs[i]? = some x) : nth z xs (i : Int) = x := by simp [nth, h]
theorem nth_get {α : Type} (z : α) {xs : List α} {i : Nat} (h : i < xs.length) : nth z xs (i : Int) = xs[i] := by simp [nth, h]
theorem setI_length {α : Type} (xs : List α) (i : Int) (v : α) : (setI xs i v).length = xs.length := by simp [setI]
theorem nth_setI {α : Type} (z : α) {xs : List α} {i j : Int} {v : α} (hi : 0 ≤ i) (hj : 0 ≤ j) (hl : j < xs.length) : nth z (setI xs i v) j = if j = i then v else nth z xs j := by
  unfold nth setI
  by_cases h : j = i
  · subst h
    rw [if_pos rfl, List.getElem?_set_self (by omega)]; rfl
  · rw [if_neg h, List.getElem?_set_ne (by omega)]
theorem nth_setI_self {α : Type} (z : α) {xs : List α} {i : Int} {v : α} (hi : 0 ≤ i) (hl : i < xs.length) : nth z (setI xs i v) i = v := by rw [nth_setI z hi hi hl, if_pos rfl]
theorem nth_setI_ne {α : Type} (z : α) {xs : List α} {i j : Int} {v : α} (hi : 0 ≤ i) (hj : 0 ≤ j) (h : j ≠ i) : nth z (setI xs i v) j = nth z xs j := by
  unfold nth setI
  rw [List.getElem?_set_ne (by omega)]
theorem mem_setI {α : Type} {xs : List α} {i : Int} {v x : α} (h : x ∈ setI xs i v) : x = v ∨ x ∈ xs := by
  unfold setI at h
  rcases List.mem_or_eq_of_mem_set h with h | h
  · exact .inr h
  · exact .inl h
theorem gapp_eq {α : Type} {bytes : Nat} {xs ys : List α} (h1 : (xs.length + ys.length) * bytes ≤ apRoom) (h2 : xs.length + ys.length ≤ maxLen) : gapp bytes xs ys = some (xs ++ ys) := by
  unfold gapp; rw [if_pos ⟨h1, h2⟩]
theorem gmake_eq {α : Type} {bytes : Nat} {n : Int} {z : α} (h0 : 0 ≤ n) (h1 : bytes * n.toNat ≤ mkRoom) (h2 : n.toNat ≤ maxLen) : gmake bytes n z = some (List.replicate n.toNat z) := by
  unfold gmake; rw [if_pos ⟨h0, h1, h2⟩]
theorem gcut_eq {α : Type} {xs : List α} {l k : Int} (h0 : 0 ≤ l) (h1 : l ≤ k) (h2 : k ≤ xs.length) : gcut xs l k = some ((xs.take k.toNat).drop l.toNat) := by
  unfold gcut; rw [if_pos ⟨h0, h1, h2⟩]
theorem glim_eq {n : Int} (h : n ≤ 9223372036854775807) : glim n = some () := by unfold glim; rw [if_pos h]
theorem nth_replicate {α : Type} {z v : α} {n : Nat} {i : Int} (h0 : 0 ≤ i) (h1 : i < n) : nth z (List.replicate n v) i = v := by
  unfold nth
  rw [List.getElem?_replicate, if_pos (by omega)]; rfl
theorem tot_forO {α σ X : Type} {body : Nat → α → σ → Option (Ctl σ X)} {E : Ctl σ X → Prop} {I : Nat → σ → Prop} (xs : List α)
    (hstep : ∀ i x s, xs[i]? = some x → I i s → Tot (body i x s) (fun c => match c with | .go s' => I (i + 1) s' | .out y => E (.out y))) (hend : ∀ s, I xs.length s → E (.go s)) :
    ∀ (k : Nat) (s : σ), k ≤ xs.length → I k s → Tot (forO body k (xs.drop k) s) E := by
  intro k
  induction hm : xs.length - k generalizing k with
  | zero =>
    intro s hk hI
    have : k = xs.length := by omega
    subst this
    rw [List.drop_length]
    exact tot_some (hend s hI)
  | succ m ih =>
    intro s hk hI
    have hlt : k < xs.length := by omega
    rw [List.drop_eq_getElem_cons hlt]
    simp only [forO]
    refine tot_bind (hstep k _ s (List.getElem?_eq_getElem hlt) hI) fun c _ hc => ?_
    cases c with
    | go s' => exact ih (k + 1) (by omega) s' (by omega) hc
    | out y => exact tot_some hc
theorem tot_forC {α σ X : Type} {body : Nat → α → σ → Option (Ctl σ (Ctl σ X))} {E : Ctl σ X → Prop} {xs : List α} {s : σ} (I : Nat → σ → Prop) (h0 : I 0 s)
    (hstep : ∀ i x s, xs[i]? = some x → I i s → Tot (body i x s) (fun c => match c with | .go s' => I (i + 1) s' | .out y => E y)) (hend : ∀ s, I xs.length s → E (.go s)) : Tot (forC body xs s) E := by
  unfold forC
  have := tot_forO (body := body) (E := fun c => E c.flat) (I := I) xs (fun i x s hx hI => tot_mono (hstep i x s hx hI) fun c hc => by cases c <;> exact hc) hend 0 s (by omega) h0
  obtain ⟨c, h1, h2⟩ := this
  exact ⟨c.flat, by rw [List.drop_zero] at h1; rw [h1]; rfl, h2⟩
theorem tot_iter {σ X : Type} {body : σ → Option (Ctl σ X)} {E : X → Prop} {s : σ} (I : σ → Prop) (μ : σ → Nat) (h0 : I s) (hμ : μ s < bigN)
    (hstep : ∀ s, I s → Tot (body s) (fun c => match c with | .go s' => I s' ∧ μ s' < μ s | .out y => E y)) : Tot (iter body s) E := by
  have key : ∀ (n : Nat) (s : σ), I s → μ s < n → Tot (iterN body n s) E := by
    intro n
    induction n with
    | zero => intro s _ h; omega
    | succ n ih =>
      intro s hI hn
      simp only [iterN]
      refine tot_bind (hstep s hI) fun c _ hc => ?_
      cases c with
      | go s' => exact ih s' hc.1 (by have := hc.2; omega)
      | out y => exact tot_some hc
  exact key bigN s h0 hμ
theorem tot_loop {α σ X β : Type} {body : Nat → α → σ → Option (Ctl σ (Ctl σ X))} {xs : List α} {s : σ} {F : σ → Option β} {H : X → Option β} {Q : β → Prop} (I : Nat → σ → Prop) (J : σ → Prop) (E : X → Prop) (h0 : I 0 s)
    (hstep : ∀ i x s, xs[i]? = some x → I i s → Tot (body i x s) (fun c => match c with | .go s' => I (i + 1) s' | .out (.go s') => J s' | .out (.out y) => E y)) (hend : ∀ s, I xs.length s → J s)
    (hF : ∀ s, J s → Tot (F s) Q) (hH : ∀ x, E x → Tot (H x) Q) : Tot ((forC body xs s).bind fun c => Ctl.on c F H) Q := by
  refine tot_bind (P := fun c => match c with | .go s => J s | .out y => E y) (tot_forC I h0 (fun i x s hx hI => tot_mono (hstep i x s hx hI) fun c hc => ?_) hend) fun c _ hc => ?_
  · rcases c with s' | (s' | y) <;> exact hc
  · cases c with
    | go s => exact hF s hc
    | out y => exact hH y hc
theorem tot_all' {α β X : Type} {body : Nat → α → Unit → Option (Ctl Unit (Ctl Unit X))} {xs : List α} {F : Unit → Option β} {H : X → Option β} {Q : β → Prop} (P : Nat → α → Prop) (E : X → Prop)
    (hstep : ∀ i x, xs[i]? = some x → Tot (body i x ()) (fun c => match c with | .go _ => P i x | .out (.go _) => False | .out (.out y) => E y))
    (hF : (∀ (i : Nat) x, xs[i]? = some x → P i x) → Tot (F ()) Q) (hH : ∀ y, E y → Tot (H y) Q) : Tot ((forC body xs ()).bind fun c => Ctl.on c F H) Q := by
  refine tot_loop (I := fun k _ => ∀ i x, i < k → xs[i]? = some x → P i x) (J := fun _ => ∀ (i : Nat) x, xs[i]? = some x → P i x) (E := E) (fun i x h => by omega) (fun i x s hx hI => tot_mono (hstep i x hx) fun c hc => ?_) (fun s hI i x hx => hI i x (List.getElem?_eq_some_iff.1 hx).1 hx) (fun s hJ => hF hJ) hH
  rcases c with _ | (_ | y)
  · intro j y hj hy
    by_cases h : j = i
    · subst h; rw [hx] at hy; injection hy with hy; subst hy; exact hc
    · exact hI j y (by omega) hy
  · exact hc.elim
  · exact hc
theorem w64_id {x : Int} (h0 : -9223372036854775808 ≤ x) (h1 : x ≤ 9223372036854775807) : w64 x = x := w64_eq h0 h1
end Hk
set_option linter.unusedVariables false
set_option linter.unusedSimpArgs false
namespace Hd
open Go Hk
theorem idx_get {α : Type} {xs : List α} {k : Nat} (h : k < xs.length) : idx xs (k : Int) = some xs[k] := by
  unfold idx
  rw [if_pos (by omega), Int.toNat_natCast, List.getElem?_eq_getElem h]
theorem forX_eq {α σ X : Type} (body : Nat → α → σ → Option (Ctl σ (Ctl σ X))) (xs : List α) (s : σ) : forX body xs s = forC body xs s := by
  have key : ∀ (m k : Nat) (s : σ), xs.length - k = m → k ≤ xs.length → forO (fun i (_ : Nat) s => (idx xs (i : Int)).bind fun x => body i x s) k ((List.range xs.length).drop k) s = forO body k (xs.drop k) s := by
    intro m
    induction m with
    | zero =>
      intro k s h1 h2
      have : k = xs.length := by omega
      rw [this, List.drop_length, List.drop_of_length_le (by simp)]
      rfl
    | succ m ih =>
      intro k s h1 h2
      have hk : k < xs.length := by omega
      rw [List.drop_eq_getElem_cons (l := List.range xs.length) (by simpa using hk), List.drop_eq_getElem_cons hk]
      simp only [forO, idx_get hk, Option.bind_some]
      congr 1
      funext c
      cases c with
      | go s' => exact ih (k + 1) s' (by omega) (by omega)
      | out y => rfl
  unfold forX forC
  have := key xs.length 0 s (by omega) (by omega)
  rw [List.drop_zero, List.drop_zero] at this
  rw [this]
theorem tot_loopX {α σ X β : Type} {body : Nat → α → σ → Option (Ctl σ (Ctl σ X))} {xs : List α} {s : σ} {F : σ → Option β} {H : X → Option β} {Q : β → Prop} (I : Nat → σ → Prop) (J : σ → Prop) (E : X → Prop) (h0 : I 0 s)
    (hstep : ∀ i x s, xs[i]? = some x → I i s → Tot (body i x s) (fun c => match c with | .go s' => I (i + 1) s' | .out (.go s') => J s' | .out (.out y) => E y)) (hend : ∀ s, I xs.length s → J s)
    (hF : ∀ s, J s → Tot (F s) Q) (hH : ∀ x, E x → Tot (H x) Q) : Tot ((forX body xs s).bind fun c => Ctl.on c F H) Q := by
  rw [forX_eq]; exact tot_loop I J E h0 hstep hend hF hH
theorem tot_loopN {σ X β : Type} {body : Nat → σ → Option (Ctl σ (Ctl σ X))} {n : Nat} {s : σ} {F : σ → Option β} {H : X → Option β} {Q : β → Prop} (I : Nat → σ → Prop) (J : σ → Prop) (E : X → Prop) (h0 : I 0 s)
    (hstep : ∀ i s, i < n → I i s → Tot (body i s) (fun c => match c with | .go s' => I (i + 1) s' | .out (.go s') => J s' | .out (.out y) => E y)) (hend : ∀ s, I n s → J s)
    (hF : ∀ s, J s → Tot (F s) Q) (hH : ∀ x, E x → Tot (H x) Q) : Tot ((forN body n s).bind fun c => Ctl.on c F H) Q := by
  unfold forN
  refine tot_loop (xs := List.range n) I J E h0 (fun i x s hx hI => hstep i s ?_ hI) (fun s h => hend s (by simpa using h)) hF hH
  have := (List.getElem?_eq_some_iff.1 hx).1
  simpa using this
theorem tot_allX {α β X : Type} {body : Nat → α → Unit → Option (Ctl Unit (Ctl Unit X))} {xs : List α} {F : Unit → Option β} {H : X → Option β} {Q : β → Prop} (P : Nat → α → Prop) (E : X → Prop)
    (hstep : ∀ i x, xs[i]? = some x → Tot (body i x ()) (fun c => match c with | .go _ => P i x | .out (.go _) => False | .out (.out y) => E y))
    (hF : (∀ (i : Nat) x, xs[i]? = some x → P i x) → Tot (F ()) Q) (hH : ∀ y, E y → Tot (H y) Q) : Tot ((forX body xs ()).bind fun c => Ctl.on c F H) Q := by
  rw [forX_eq]; exact tot_all' P E hstep hF hH
theorem mem_of_all {α : Type} {xs : List α} {P : α → Prop} (h : ∀ (i : Nat) x, xs[i]? = some x → P x) : ∀ x ∈ xs, P x := fun x hx => by
  obtain ⟨i, hi⟩ := List.getElem?_of_mem hx
  exact h i x hi
end Hd
set_option linter.unusedVariables false
set_option linter.unusedSimpArgs false
namespace Pl
open Go Hk Hd
abbrev rw_ (m : List (List Int)) (i : Nat) : List Int := nth [] m (i : Int)
structure Sq (n : Nat) (m : List (List Int)) : Prop where
  len : m.length = n
  row : ∀ i, i < n → (rw_ m i).length = n
theorem Sq.set {n : Nat} {m : List (List Int)} {i j : Nat} {x : Int} (h : Sq n m) (hi : i < n) (hj : j < n) : Sq n (setI m (i : Int) (setI (rw_ m i) (j : Int) x)) := by
  refine ⟨by rw [setI_length]; exact h.len, fun k hk => ?_⟩
  have hl := h.len
  rw [show rw_ (setI m (i : Int) (setI (rw_ m i) (j : Int) x)) k = if ((k : Nat) : Int) = i then setI (rw_ m i) (j : Int) x else rw_ m k from nth_setI [] (by omega) (by omega) (by omega)]
  split
  · rw [setI_length]; exact h.row i hi
  · exact h.row k hk
end Pl
set_option linter.unusedVariables false
set_option linter.unusedSimpArgs false
set_option maxRecDepth 100000
namespace Hs
open Go Hk Hd Pl
variable {α : Type}
def ins_b2 (cmp : α → α → Option Int) (p0 : Int) (s11 : Int × List α) : Option (Ctl (Int × List α) (Ctl (List α) (Empty))) :=
  ((ifb (decide (s11.1 > p0)) ((idx s11.2 s11.1).bind fun (x16 : α) => ((idx s11.2 (w64 (s11.1 - 1))).bind fun (x17 : α) => ((cmp x16 x17).bind fun (x18 : Int) => (some (decide (x18 < 0)))))) (some false)).bind fun (s15 : Bool) => (ifb s15 ((idx s11.2 (w64 (s11.1 - 1))).bind fun (x19 : α) => ((idx s11.2 s11.1).bind fun (x20 : α) => ((idx s11.2 s11.1).bind fun (x21 : α) => ((idx (setI s11.2 s11.1 x19) (w64 (s11.1 - 1))).bind fun (x22 : α) => (some (.go (w64 (s11.1 - 1), (setI (setI s11.2 s11.1 x19) (w64 (s11.1 - 1)) x20)))))))) (some (.out (.go s11.2)))))
def ins_b1 (cmp : α → α → Option Int) (p0 : Int) (p1 : Int) (s7 : Int × List α) : Option (Ctl (Int × List α) (Ctl (List α) (Empty))) :=
  (ifb (decide (s7.1 < p1)) ((iter (ins_b2 cmp p0) (s7.1, s7.2)).bind fun c24 => Ctl.on c24 (fun s10 => (some (.go (w64 (s7.1 + 1), s10)))) (fun x_ => x_.elim)) (some (.out (.go s7.2))))
def ins (cmp : α → α → Option Int) (p0 : Int) (p1 : Int) (p2 : List α) : Option (List α) :=
  ((iter (ins_b1 cmp p0 p1) (w64 (p0 + 1), p2)).bind fun c26 => Ctl.on c26 (fun s6 => (some s6)) (fun x_ => x_.elim))
def swapR_b1 (p0 : Int) (p1 : Int) (p2 : Int) (s7 : Int × List α) : Option (Ctl (Int × List α) (Ctl (List α) (Empty))) :=
  (ifb (decide (s7.1 < p2)) ((idx s7.2 (w64 (p1 + s7.1))).bind fun (x8 : α) => ((idx s7.2 (w64 (p0 + s7.1))).bind fun (x9 : α) => ((idx s7.2 (w64 (p0 + s7.1))).bind fun (x10 : α) => ((idx (setI s7.2 (w64 (p0 + s7.1)) x8) (w64 (p1 + s7.1))).bind fun (x11 : α) => (some (.go (w64 (s7.1 + 1), (setI (setI s7.2 (w64 (p0 + s7.1)) x8) (w64 (p1 + s7.1)) x9)))))))) (some (.out (.go s7.2))))
def swapR (p0 : Int) (p1 : Int) (p2 : Int) (p3 : List α) : Option (List α) :=
  ((iter (swapR_b1 p0 p1 p2) (0, p3)).bind fun c13 => Ctl.on c13 (fun s6 => (some s6)) (fun x_ => x_.elim))
def rot_b1 (p1 : Int) (s8 : Int × Int × List α) : Option (Ctl (Int × Int × List α) (Ctl (Int × List α) (Empty))) :=
  (ifb (s8.1 != s8.2.1) (ifb (decide (s8.1 > s8.2.1)) ((swapR (w64 (p1 - s8.1)) p1 s8.2.1 s8.2.2).bind fun (x9 : List α) => (some (.go (w64 (s8.1 - s8.2.1), s8.2.1, x9)))) ((swapR (w64 (p1 - s8.1)) (w64 ((w64 (p1 + s8.2.1)) - s8.1)) s8.1 s8.2.2).bind fun (x10 : List α) => (some (.go (s8.1, w64 (s8.2.1 - s8.1), x10))))) (some (.out (.go (s8.1, s8.2.2)))))
def rot (p0 : Int) (p1 : Int) (p2 : Int) (p3 : List α) : Option (List α) :=
  ((iter (rot_b1 p1) (w64 (p1 - p0), w64 (p2 - p1), p3)).bind fun c13 => Ctl.on c13 (fun s7 => ((swapR (w64 (p1 - s7.1)) p1 s7.1 s7.2).bind fun (x11 : List α) => (some x11))) (fun x_ => x_.elim))
def symM_b1 (cmp : α → α → Option Int) (p0 : Int) (p3 : List α) (s52 : Int × Int) : Option (Ctl (Int × Int) (Ctl (Int) (Empty))) :=
  (ifb (decide (s52.1 < s52.2)) ((gshr .u64 (IntKind.u64.wrap (w64 (s52.1 + s52.2))) 1).bind fun (q53 : Int) => ((idx p3 (w64 q53)).bind fun (x54 : α) => ((idx p3 p0).bind fun (x55 : α) => ((cmp x54 x55).bind fun (x56 : Int) => (ifb (decide (x56 < 0)) (some (.go (w64 ((w64 q53) + 1), s52.2))) (some (.go (s52.1, w64 q53)))))))) (some (.out (.go s52.1))))
def symM_b2 (s51 : Int) (s60 : Int × List α) : Option (Ctl (Int × List α) (Ctl (List α) (Empty))) :=
  (ifb (decide (s60.1 < (w64 (s51 - 1)))) ((idx s60.2 (w64 (s60.1 + 1))).bind fun (x61 : α) => ((idx s60.2 s60.1).bind fun (x62 : α) => ((idx s60.2 s60.1).bind fun (x63 : α) => ((idx (setI s60.2 s60.1 x61) (w64 (s60.1 + 1))).bind fun (x64 : α) => (some (.go (w64 (s60.1 + 1), (setI (setI s60.2 s60.1 x61) (w64 (s60.1 + 1)) x62)))))))) (some (.out (.go s60.2))))
def symM_b3 (cmp : α → α → Option Int) (p1 : Int) (p3 : List α) (s72 : Int × Int) : Option (Ctl (Int × Int) (Ctl (Int) (Empty))) :=
  (ifb (decide (s72.1 < s72.2)) ((gshr .u64 (IntKind.u64.wrap (w64 (s72.1 + s72.2))) 1).bind fun (q73 : Int) => ((idx p3 p1).bind fun (x74 : α) => ((idx p3 (w64 q73)).bind fun (x75 : α) => ((cmp x74 x75).bind fun (x76 : Int) => (ifb (!(decide (x76 < 0))) (some (.go (w64 ((w64 q73) + 1), s72.2))) (some (.go (s72.1, w64 q73)))))))) (some (.out (.go s72.1))))
def symM_b4 (s71 : Int) (s80 : Int × List α) : Option (Ctl (Int × List α) (Ctl (List α) (Empty))) :=
  (ifb (decide (s80.1 > s71)) ((idx s80.2 (w64 (s80.1 - 1))).bind fun (x81 : α) => ((idx s80.2 s80.1).bind fun (x82 : α) => ((idx s80.2 s80.1).bind fun (x83 : α) => ((idx (setI s80.2 s80.1 x81) (w64 (s80.1 - 1))).bind fun (x84 : α) => (some (.go (w64 (s80.1 - 1), (setI (setI s80.2 s80.1 x81) (w64 (s80.1 - 1)) x82)))))))) (some (.out (.go s80.2))))
def symM_b5 (cmp : α → α → Option Int) (p1 : Int) (p3 : List α) (q89 : Int) (s94 : Int × Int) : Option (Ctl (Int × Int) (Ctl (Int) (Empty))) :=
  (ifb (decide (s94.1 < s94.2)) ((gshr .u64 (IntKind.u64.wrap (w64 (s94.1 + s94.2))) 1).bind fun (q95 : Int) => ((idx p3 (w64 ((w64 ((w64 ((w64 q89) + p1)) - 1)) - (w64 q95)))).bind fun (x96 : α) => ((idx p3 (w64 q95)).bind fun (x97 : α) => ((cmp x96 x97).bind fun (x98 : Int) => (ifb (!(decide (x98 < 0))) (some (.go (w64 ((w64 q95) + 1), s94.2))) (some (.go (s94.1, w64 q95)))))))) (some (.out (.go s94.1))))
def symM_step (cmp : α → α → Option Int) (rec_ : Int → Int → Int → List α → Option (List α)) (p0 : Int) (p1 : Int) (p2 : Int) (p3 : List α) : Option (List α) :=
  (ifb ((w64 (p1 - p0)) == 1) ((iter (symM_b1 cmp p0 p3) (p1, p2)).bind fun c68 => Ctl.on c68 (fun s51 => ((iter (symM_b2 s51) (p0, p3)).bind fun c66 => Ctl.on c66 (fun s59 => (some s59)) (fun x_ => x_.elim))) (fun x_ => x_.elim)) (ifb ((w64 (p2 - p1)) == 1) ((iter (symM_b3 cmp p1 p3) (p0, p1)).bind fun c88 => Ctl.on c88 (fun s71 => ((iter (symM_b4 s71) (p1, p3)).bind fun c86 => Ctl.on c86 (fun s79 => (some s79)) (fun x_ => x_.elim))) (fun x_ => x_.elim)) ((gshr .u64 (IntKind.u64.wrap (w64 (p0 + p2))) 1).bind fun (q89 : Int) => ((ifb (decide (p1 > (w64 q89))) (some (w64 ((w64 ((w64 q89) + p1)) - p2), w64 q89)) (some (p0, p1))).bind fun (s90 : Int × Int) => ((iter (symM_b5 cmp p1 p3 q89) (s90.1, s90.2)).bind fun c112 => Ctl.on c112 (fun s93 => (((ifb (decide (s93 < p1)) (some (decide (p1 < (w64 ((w64 ((w64 q89) + p1)) - s93))))) (some false)).bind fun (s102 : Bool) => (ifb s102 ((rot s93 p1 (w64 ((w64 ((w64 q89) + p1)) - s93)) p3).bind fun (x103 : List α) => (some x103)) (some p3))).bind fun (s101 : List α) => (((ifb (decide (p0 < s93)) (some (decide (s93 < (w64 q89)))) (some false)).bind fun (s107 : Bool) => (ifb s107 ((rec_ p0 s93 (w64 q89) s101).bind fun (x108 : List α) => (some x108)) (some s101))).bind fun (s106 : List α) => ((ifb (decide ((w64 q89) < (w64 ((w64 ((w64 q89) + p1)) - s93)))) (some (decide ((w64 ((w64 ((w64 q89) + p1)) - s93)) < p2))) (some false)).bind fun (s109 : Bool) => (ifb s109 ((rec_ (w64 q89) (w64 ((w64 ((w64 q89) + p1)) - s93)) p2 s106).bind fun (x110 : List α) => (some x110)) (some s106)))))) (fun x_ => x_.elim))))))
def symM_n (cmp : α → α → Option Int) : Nat → Int → Int → Int → List α → Option (List α)
  | 0 => fun _ _ _ _ => none
  | n + 1 => symM_step cmp (symM_n cmp n)
def symM (cmp : α → α → Option Int) : Int → Int → Int → List α → Option (List α) := symM_n cmp bigN
def stab_b1 (cmp : α → α → Option Int) (p0 : Int) (s11 : Int × Int × List α) : Option (Ctl (Int × Int × List α) (Ctl (Int × List α) (Empty))) :=
  (ifb (decide (s11.2.1 ≤ p0)) ((ins cmp s11.1 s11.2.1 s11.2.2).bind fun (x12 : List α) => (some (.go (s11.2.1, w64 (s11.2.1 + 20), x12)))) (some (.out (.go (s11.1, s11.2.2)))))
def stab_b3 (cmp : α → α → Option Int) (p0 : Int) (s17 : Int × List α) (s21 : Int × Int × List α) : Option (Ctl (Int × Int × List α) (Ctl (Int × List α) (Empty))) :=
  (ifb (decide (s21.2.1 ≤ p0)) ((symM cmp s21.1 (w64 (s21.1 + s17.1)) s21.2.1 s21.2.2).bind fun (x22 : List α) => (some (.go (s21.2.1, w64 (s21.2.1 + (w64 (2 * s17.1))), x22)))) (some (.out (.go (s21.1, s21.2.2)))))
def stab_b2 (cmp : α → α → Option Int) (p0 : Int) (s17 : Int × List α) : Option (Ctl (Int × List α) (Ctl (List α) (Empty))) :=
  (ifb (decide (s17.1 < p0)) ((iter (stab_b3 cmp p0 s17) (0, w64 (2 * s17.1), s17.2)).bind fun c27 => Ctl.on c27 (fun s20 => ((ifb (decide ((w64 (s20.1 + s17.1)) < p0)) ((symM cmp s20.1 (w64 (s20.1 + s17.1)) p0 s20.2).bind fun (x25 : List α) => (some x25)) (some s20.2)).bind fun (s24 : List α) => (some (.go (w64 (s17.1 * 2), s24))))) (fun x_ => x_.elim)) (some (.out (.go s17.2))))
def stab (cmp : α → α → Option Int) (p0 : Int) (p1 : List α) : Option (List α) :=
  ((iter (stab_b1 cmp p0) (0, 20, p1)).bind fun c31 => Ctl.on c31 (fun s10 => ((ins cmp s10.1 p0 s10.2).bind fun (x13 : List α) => ((iter (stab_b2 cmp p0) (20, x13)).bind fun c29 => Ctl.on c29 (fun s16 => (some s16)) (fun x_ => x_.elim)))) (fun x_ => x_.elim))
def sortStable (cmp : α → α → Option Int) (p0 : List α) : Option (List α) :=
  ((stab cmp ((p0.length) : Int) p0).bind fun (x2 : List α) => (some x2))
theorem tot_wh {σ X Y β : Type} {body : σ → Option (Ctl σ (Ctl X Y))} {s : σ} {F : X → Option β} {H : Y → Option β} {Q : β → Prop} (I : σ → Prop) (μ : σ → Nat) (J : X → Prop) (E : Y → Prop) (h0 : I s) (hμ : μ s < bigN)
    (hstep : ∀ s, I s → Tot (body s) (fun c => match c with | .go s' => I s' ∧ μ s' < μ s | .out (.go x) => J x | .out (.out y) => E y))
    (hF : ∀ x, J x → Tot (F x) Q) (hH : ∀ y, E y → Tot (H y) Q) : Tot ((iter body s).bind fun c => Ctl.on c F H) Q := by
  refine tot_bind (P := fun c => match c with | .go x => J x | .out y => E y) (tot_iter I μ h0 hμ fun s hI => tot_mono (hstep s hI) fun c hc => ?_) fun c _ hc => ?_
  · rcases c with s' | (x | y) <;> exact hc
  · cases c with
    | go s => exact hF s hc
    | out y => exact hH y hc
theorem big : (1000000000000000000 : Nat) < bigN := by unfold bigN; omega
theorem u64_eq {x : Int} (h0 : 0 ≤ x) (h1 : x < 18446744073709551616) : IntKind.u64.wrap x = x := by
  have : IntKind.u64.wrap x = x % 18446744073709551616 := by
    simp only [IntKind.wrap, IntKind.signed, IntKind.bits, Bool.false_and]
    rfl
  rw [this]; omega
theorem half {a b : Int} (h0 : 0 ≤ a + b) (h1 : a + b < 9223372036854775807) : gshr .u64 (IntKind.u64.wrap (w64 (a + b))) 1 = some ((a + b) / 2) := by
  rw [w64_id (by omega) (by omega), u64_eq h0 (by omega)]
  unfold gshr
  rw [if_neg (by omega)]
  congr 1
  have : ((2 ^ (min (1 : Int).toNat IntKind.u64.bits) : Nat) : Int) = 2 := by decide
  rw [this, Int.fdiv_eq_ediv_of_nonneg _ (by omega)]
variable (z : α)
abbrev at_ (l : List α) (i : Int) : α := nth z l i
def sw (l : List α) (i j : Int) : List α := setI (setI l i (at_ z l j)) j (at_ z l i)
theorem at_sw {l : List α} {i j k : Int} (hi : 0 ≤ i) (hi' : i < l.length) (hj : 0 ≤ j) (hj' : j < l.length) (hk : 0 ≤ k) :
    at_ z (sw z l i j) k = if k = j then at_ z l i else if k = i then at_ z l j else at_ z l k := by
  unfold sw
  by_cases h1 : k = j
  · subst h1; rw [if_pos rfl]; exact nth_setI_self z hk (by rw [setI_length]; exact hj')
  · rw [if_neg h1, show at_ z (setI (setI l i (at_ z l j)) j (at_ z l i)) k = at_ z (setI l i (at_ z l j)) k from nth_setI_ne z hj hk h1]
    by_cases h2 : k = i
    · subst h2; rw [if_pos rfl]; exact nth_setI_self z hk hi'
    · rw [if_neg h2]; exact nth_setI_ne z hi hk h2
theorem sw_perm {l : List α} {i j : Int} (hi : 0 ≤ i) (hi' : i < l.length) (hj : 0 ≤ j) (hj' : j < l.length) : (sw z l i j).Perm l := by
  unfold sw setI
  have e1 : at_ z l j = l[j.toNat]'(by omega) := by unfold at_ nth; rw [List.getElem?_eq_getElem (by omega)]; rfl
  have e2 : at_ z l i = l[i.toNat]'(by omega) := by unfold at_ nth; rw [List.getElem?_eq_getElem (by omega)]; rfl
  rw [e1, e2]
  exact List.set_set_perm (by omega) (by omega)
def Same (d l : List α) (a b : Int) : Prop := ∀ k, 0 ≤ k → (k < a ∨ b ≤ k) → at_ z d k = at_ z l k
theorem Same.refl (l : List α) (a b : Int) : Same z l l a b := fun _ _ _ => rfl
theorem Same.trans {d e l : List α} {a b : Int} (h1 : Same z e d a b) (h2 : Same z d l a b) : Same z e l a b := fun k h0 h => (h1 k h0 h).trans (h2 k h0 h)
theorem Same.wide {d l : List α} {a b a' b' : Int} (h : Same z d l a b) (h1 : a' ≤ a) (h2 : b ≤ b') : Same z d l a' b' := fun k h0 hk => h k h0 (by omega)
def Srt (le : α → α → Prop) (d : List α) (a b : Int) : Prop := ∀ x y, a ≤ x → x < y → y < b → le (at_ z d x) (at_ z d y)
structure CmpOk (cmp : α → α → Option Int) (P : α → Prop) (le : α → α → Prop) : Prop where
  tot : ∀ a b, le a b ∨ le b a
  tr : ∀ a b c, le a b → le b c → le a c
  ok : ∀ a b, P a → P b → ∃ c, cmp a b = some c ∧ (c < 0 ↔ ¬ le b a)
variable {z}
variable {cmp : α → α → Option Int} {P : α → Prop} {le : α → α → Prop}
theorem CmpOk.rf (h : CmpOk cmp P le) (a : α) : le a a := (h.tot a a).elim id id
theorem all_at {d : List α} (h : ∀ x ∈ d, P x) {i : Int} (h0 : 0 ≤ i) (h1 : i < d.length) : P (at_ z d i) := h _ (nth_mem z h0 h1)
theorem perm_all {d l : List α} (h : d.Perm l) (hl : ∀ x ∈ l, P x) : ∀ x ∈ d, P x := fun x hx => hl x (h.mem_iff.1 hx)
structure Res (z : α) (d l : List α) (a b : Int) : Prop where
  perm : d.Perm l
  same : Same z d l a b
theorem Res.len {d l : List α} {a b : Int} (h : Res z d l a b) : d.length = l.length := h.perm.length_eq
theorem Res.refl (l : List α) (a b : Int) : Res z l l a b := ⟨.refl _, Same.refl z l a b⟩
theorem Res.trans {d e l : List α} {a b : Int} (h1 : Res z e d a b) (h2 : Res z d l a b) : Res z e l a b := ⟨h1.perm.trans h2.perm, h1.same.trans z h2.same⟩
theorem Res.wide {d l : List α} {a b a' b' : Int} (h : Res z d l a b) (h1 : a' ≤ a) (h2 : b ≤ b') : Res z d l a' b' := ⟨h.perm, h.same.wide z h1 h2⟩
theorem Res.sw {d l : List α} {a b i j : Int} (h : Res z d l a b) (ha : 0 ≤ a) (hb : b ≤ l.length) (hi : a ≤ i) (hi' : i < b) (hj : a ≤ j) (hj' : j < b) : Res z (sw z d i j) l a b := by
  have := h.len
  refine ⟨(sw_perm z (by omega) (by omega) (by omega) (by omega)).trans h.perm, fun k h0 hk => ?_⟩
  rw [at_sw z (by omega) (by omega) (by omega) (by omega) h0, if_neg (by omega), if_neg (by omega)]
  exact h.same k h0 hk
theorem ins_ok (hc : CmpOk cmp P le) {l : List α} {a b : Int} (h0 : 0 ≤ a) (h1 : a ≤ b) (h2 : b ≤ l.length) (h3 : l.length ≤ 1000000) (hP : ∀ x ∈ l, P x) :
    Tot (ins cmp a b l) fun d => Res z d l a b ∧ Srt z le d a b := by
  unfold ins
  refine tot_wh (I := fun s => a + 1 ≤ s.1 ∧ s.1 ≤ max b (a + 1) ∧ Res z s.2 l a b ∧ Srt z le s.2 a (min s.1 b)) (μ := fun s => (b - s.1).toNat) (J := fun d => Res z d l a b ∧ Srt z le d a b) (E := fun _ => False)
    ⟨by rw [w64_id (by omega) (by omega)]; omega, by rw [w64_id (by omega) (by omega)]; omega, Res.refl _ _ _, ?_⟩ ?_ ?_ (fun x hx => tot_some hx) (fun _ h => h.elim)
  · intro x y hx hxy hy
    simp only [w64_id (x := a + 1) (by omega) (by omega)] at hy
    omega
  · refine Nat.lt_of_le_of_lt ?_ big
    simp only [w64_id (x := a + 1) (by omega) (by omega)]; omega
  rintro ⟨i, d⟩ ⟨g1, g2, g3, g4⟩
  simp only at g1 g2 g3 g4
  have hlen := g3.len
  unfold ins_b1
  refine tot_ifb (fun hlt => ?_) fun hge => ?_
  · simp only [decide_eq_true_eq] at hlt
    rw [show min i b = i by omega] at g4
    refine tot_wh (I := fun s => a ≤ s.1 ∧ s.1 ≤ i ∧ Res z s.2 l a b ∧ ∀ x y, a ≤ x → x < y → y ≤ i → y ≠ s.1 → le (at_ z s.2 x) (at_ z s.2 y)) (μ := fun s => (s.1 - a).toNat)
      (J := fun d => Res z d l a b ∧ Srt z le d a (i + 1)) (E := fun _ => False) ⟨by omega, by omega, g3, fun x y hx hxy hy hne => g4 x y hx hxy (by simp only at hne; omega)⟩ (Nat.lt_of_le_of_lt (by simp only; omega) big) ?_ ?_ (fun _ h => h.elim)
    · rintro ⟨j, e⟩ ⟨k1, k2, k3, k4⟩
      simp only at k1 k2 k3 k4
      have hle := k3.len
      unfold ins_b2
      simp only
      by_cases hja : a < j
      · have pe := perm_all k3.perm hP
        obtain ⟨c, hcc, hcs⟩ := hc.ok _ _ (all_at (z := z) pe (i := j) (by omega) (by omega)) (all_at (z := z) pe (i := j - 1) (by omega) (by omega))
        rw [show decide (j > a) = true from decide_eq_true (by omega), ifb_true, w64_id (x := j - 1) (by omega) (by omega), idx_nth z (i := j) (by omega) (by omega), idx_nth z (i := j - 1) (by omega) (by omega)]
        simp only [Option.bind_some]
        rw [hcc]
        simp only [Option.bind_some]
        refine tot_ifb (fun hlt2 => ?_) fun hge2 => ?_
        · simp only [decide_eq_true_eq] at hlt2
          have hl := hcs.1 hlt2
          have hl' : le (at_ z e j) (at_ z e (j - 1)) := (hc.tot _ _).elim id fun h => absurd h hl
          rw [idx_nth z (xs := setI e j _) (i := j - 1) (by omega) (by rw [setI_length]; omega)]
          refine tot_some ?_
          show (a ≤ j - 1 ∧ j - 1 ≤ i ∧ Res z (sw z e j (j - 1)) l a b ∧ _) ∧ _
          refine ⟨⟨by omega, by omega, k3.sw h0 h2 (by omega) (by omega) (by omega) (by omega), fun x y hx hxy hy hne => ?_⟩, by simp only; omega⟩
          simp only at hne
          show le (at_ z (sw z e j (j - 1)) x) (at_ z (sw z e j (j - 1)) y)
          rw [at_sw z (by omega) (by omega) (by omega) (by omega) (by omega), at_sw z (by omega) (by omega) (by omega) (by omega) (by omega)]
          rw [if_neg (show ¬ y = j - 1 from hne)]
          by_cases hyj : y = j
          · rw [if_pos hyj]
            by_cases hx1 : x = j - 1
            · rw [if_pos hx1]; exact hl'
            · rw [if_neg hx1, if_neg (by omega)]; exact k4 x (j - 1) hx (by omega) (by omega) (by omega)
          · rw [if_neg hyj]
            by_cases hx1 : x = j - 1
            · rw [if_pos hx1]; exact k4 j y (by omega) (by omega) hy hyj
            · rw [if_neg hx1]
              by_cases hx2 : x = j
              · rw [if_pos hx2]; exact k4 (j - 1) y (by omega) (by omega) hy hyj
              · rw [if_neg hx2]; exact k4 x y hx hxy hy hyj
        · simp only [decide_eq_false_iff_not] at hge2
          have hl : le (at_ z e (j - 1)) (at_ z e j) := Classical.byContradiction fun h => hge2 (hcs.2 h)
          refine tot_some ⟨k3, fun x y hx hxy hy => ?_⟩
          by_cases hyj : y = j
          · subst hyj
            by_cases hx1 : x = y - 1
            · subst hx1; exact hl
            · exact hc.tr _ _ _ (k4 x (y - 1) hx (by omega) (by omega) (by omega)) hl
          · exact k4 x y hx hxy (by omega) hyj
      · rw [show decide (j > a) = false from decide_eq_false (by omega), ifb_false]
        simp only [Option.bind_some, ifb_false]
        refine tot_some ⟨k3, fun x y hx hxy hy => k4 x y hx hxy (by omega) (by omega)⟩
    · rintro e ⟨k1, k2⟩
      refine tot_some ?_
      simp only
      rw [w64_id (by omega) (by omega)]
      exact ⟨⟨by omega, by omega, k1, by rw [show min (i + 1) b = i + 1 by omega]; exact k2⟩, by omega⟩
  · simp only [decide_eq_false_iff_not] at hge
    rw [show min i b = b by omega] at g4
    exact tot_some ⟨g3, g4⟩
end Hs
set_option linter.unusedVariables false
set_option linter.unusedSimpArgs false
set_option maxRecDepth 100000
namespace Hs
open Go Hk Hd Pl
variable {α : Type} {z : α}
variable {cmp : α → α → Option Int} {P : α → Prop} {le : α → α → Prop}
theorem swapR_ok {l : List α} {a b n : Int} (h0 : 0 ≤ a) (hn : 0 ≤ n) (h1 : a + n ≤ b) (h2 : b + n ≤ l.length) (h3 : l.length ≤ 1000000) :
    Tot (swapR a b n l) fun d => Res z d l a (b + n) ∧ (∀ k, 0 ≤ k → k < n → at_ z d (a + k) = at_ z l (b + k) ∧ at_ z d (b + k) = at_ z l (a + k)) ∧ ∀ k, a + n ≤ k → k < b → at_ z d k = at_ z l k := by
  unfold swapR
  refine tot_wh (I := fun s => 0 ≤ s.1 ∧ s.1 ≤ n ∧ Res z s.2 l a (b + n) ∧ (∀ k, 0 ≤ k → k < s.1 → at_ z s.2 (a + k) = at_ z l (b + k) ∧ at_ z s.2 (b + k) = at_ z l (a + k)) ∧
      (∀ k, s.1 ≤ k → k < n → at_ z s.2 (a + k) = at_ z l (a + k) ∧ at_ z s.2 (b + k) = at_ z l (b + k)) ∧ ∀ k, a + n ≤ k → k < b → at_ z s.2 k = at_ z l k) (μ := fun s => (n - s.1).toNat)
    (J := fun d => Res z d l a (b + n) ∧ (∀ k, 0 ≤ k → k < n → at_ z d (a + k) = at_ z l (b + k) ∧ at_ z d (b + k) = at_ z l (a + k)) ∧ ∀ k, a + n ≤ k → k < b → at_ z d k = at_ z l k) (E := fun _ => False)
    ⟨by simp, hn, Res.refl _ _ _, fun k h1 h2 => by simp only at h2; omega, fun k h1 h2 => ⟨rfl, rfl⟩, fun k h1 h2 => rfl⟩ (Nat.lt_of_le_of_lt (by simp only; omega) big) ?_ (fun x hx => tot_some hx) (fun _ h => h.elim)
  rintro ⟨i, d⟩ ⟨g1, g2, g3, g4, g5, g6⟩
  simp only at g1 g2 g3 g4 g5 g6
  have hl := g3.len
  unfold swapR_b1
  simp only
  refine tot_ifb (fun hlt => ?_) fun hge => ?_
  · simp only [decide_eq_true_eq] at hlt
    rw [w64_id (x := b + i) (by omega) (by omega), w64_id (x := a + i) (by omega) (by omega), w64_id (x := i + 1) (by omega) (by omega), idx_nth z (xs := d) (i := b + i) (by omega) (by omega), idx_nth z (xs := d) (i := a + i) (by omega) (by omega)]
    simp only [Option.bind_some]
    rw [idx_nth z (xs := setI d _ _) (by omega) (by rw [setI_length]; omega)]
    refine tot_some ?_
    show (0 ≤ i + 1 ∧ i + 1 ≤ n ∧ Res z (sw z d (a + i) (b + i)) l a (b + n) ∧ (∀ k, 0 ≤ k → k < i + 1 → at_ z (sw z d (a + i) (b + i)) (a + k) = at_ z l (b + k) ∧ at_ z (sw z d (a + i) (b + i)) (b + k) = at_ z l (a + k)) ∧
      (∀ k, i + 1 ≤ k → k < n → at_ z (sw z d (a + i) (b + i)) (a + k) = at_ z l (a + k) ∧ at_ z (sw z d (a + i) (b + i)) (b + k) = at_ z l (b + k)) ∧ ∀ k, a + n ≤ k → k < b → at_ z (sw z d (a + i) (b + i)) k = at_ z l k) ∧ (n - (i + 1)).toNat < (n - i).toNat
    have hs : ∀ k, 0 ≤ k → at_ z (sw z d (a + i) (b + i)) k = if k = b + i then at_ z d (a + i) else if k = a + i then at_ z d (b + i) else at_ z d k := fun k hk => at_sw z (by omega) (by omega) (by omega) (by omega) hk
    refine ⟨⟨by omega, by omega, g3.sw h0 (by omega) (by omega) (by omega) (by omega) (by omega), fun k k1 k2 => ?_, fun k k1 k2 => ?_, fun k k1 k2 => ?_⟩, by omega⟩
    · rw [hs _ (by omega), hs _ (by omega)]
      by_cases hk : k = i
      · subst hk
        rw [if_neg (by omega), if_pos rfl, if_pos rfl]
        exact ⟨(g5 k (by omega) (by omega)).2, (g5 k (by omega) (by omega)).1⟩
      · rw [if_neg (by omega), if_neg (by omega), if_neg (by omega), if_neg (by omega)]
        exact g4 k k1 (by omega)
    · rw [hs _ (by omega), hs _ (by omega), if_neg (by omega), if_neg (by omega), if_neg (by omega), if_neg (by omega)]
      exact g5 k (by omega) k2
    · rw [hs _ (by omega), if_neg (by omega), if_neg (by omega)]
      exact g6 k k1 k2
  · simp only [decide_eq_false_iff_not] at hge
    exact tot_some ⟨g3, fun k k1 k2 => g4 k k1 (by omega), g6⟩
def Rot (z : α) (d l : List α) (a m b : Int) : Prop := ∀ k, a ≤ k → k < b → at_ z d k = if k < a + (b - m) then at_ z l (k + (m - a)) else at_ z l (k - (b - m))
theorem rot_ok {l : List α} {a m b : Int} (h0 : 0 ≤ a) (h1 : a < m) (h2 : m < b) (h3 : b ≤ l.length) (h4 : l.length ≤ 1000000) :
    Tot (rot a m b l) fun d => Res z d l a b ∧ Rot z d l a m b := by
  unfold rot
  rw [w64_id (x := m - a) (by omega) (by omega), w64_id (x := b - m) (by omega) (by omega)]
  refine tot_wh (I := fun s => 1 ≤ s.1 ∧ 1 ≤ s.2.1 ∧ a ≤ m - s.1 ∧ m + s.2.1 ≤ b ∧ Res z s.2.2 l a b ∧ ∀ d, Same z d s.2.2 (m - s.1) (m + s.2.1) → Rot z d s.2.2 (m - s.1) m (m + s.2.1) → Rot z d l a m b)
    (μ := fun s => (s.1 + s.2.1).toNat) (J := fun s => 1 ≤ s.1 ∧ a ≤ m - s.1 ∧ m + s.1 ≤ b ∧ Res z s.2 l a b ∧ ∀ d, Same z d s.2 (m - s.1) (m + s.1) → Rot z d s.2 (m - s.1) m (m + s.1) → Rot z d l a m b) (E := fun _ => False)
    ⟨by simp only; omega, by simp only; omega, by simp only; omega, by simp only; omega, Res.refl _ _ _, fun d _ hr => by simp only at hr; rwa [show m - (m - a) = a by omega, show m + (b - m) = b by omega] at hr⟩
    (Nat.lt_of_le_of_lt (by simp only; omega) big) ?_ ?_ (fun _ h => h.elim)
  · rintro ⟨i, j, d⟩ ⟨g1, g2, g3, g4, g5, g6⟩
    simp only at g1 g2 g3 g4 g5 g6
    have hl := g5.len
    unfold rot_b1
    simp only
    refine tot_ifb (fun hne => ?_) fun he => ?_
    · have hne : i ≠ j := by simpa using hne
      refine tot_ifb (fun hgt => ?_) fun hle => ?_
      · simp only [decide_eq_true_eq] at hgt
        rw [w64_id (x := m - i) (by omega) (by omega), w64_id (x := i - j) (by omega) (by omega)]
        refine tot_bind (swapR_ok (z := z) (a := m - i) (b := m) (n := j) (by omega) (by omega) (by omega) (by omega) (by omega)) fun e _ he => ?_
        obtain ⟨e1, e2, e3⟩ := he
        refine tot_some ?_
        simp only
        have w1 : ∀ k, m - i ≤ k → k < m - i + j → at_ z e k = at_ z d (k + i) := fun k k1 k2 => by
          have := (e2 (k - (m - i)) (by omega) (by omega)).1
          rwa [show m - i + (k - (m - i)) = k by omega, show m + (k - (m - i)) = k + i by omega] at this
        have w2 : ∀ k, m ≤ k → k < m + j → at_ z e k = at_ z d (k - i) := fun k k1 k2 => by
          have := (e2 (k - m) (by omega) (by omega)).2
          rwa [show m + (k - m) = k by omega, show m - i + (k - m) = k - i by omega] at this
        refine ⟨⟨by omega, by omega, by omega, by omega, (e1.wide (by omega) (by omega)).trans g5, fun f s1 s2 => g6 f ?_ ?_⟩, by omega⟩
        · exact (s1.wide z (a' := m - i) (b' := m + j) (by omega) (by omega)).trans z e1.same
        · intro k k1 k2
          by_cases q1 : k < m - (i - j)
          · rw [s1 k (by omega) (.inl q1), w1 k k1 (by omega), if_pos (by omega)]
            congr 1; omega
          · rw [s2 k (by omega) k2]
            by_cases q2 : k < m - (i - j) + (m + j - m)
            · rw [if_pos q2, if_neg (by omega)]
              by_cases q3 : k + (m - (m - (i - j))) < m
              · omega
              · rw [w2 _ (by omega) (by omega)]; congr 1; omega
            · rw [if_neg q2, if_neg (by omega), e3 _ (by omega) (by omega)]
      · simp only [decide_eq_false_iff_not] at hle
        rw [w64_id (x := m - i) (by omega) (by omega), w64_id (x := m + j) (by omega) (by omega), w64_id (x := m + j - i) (by omega) (by omega), w64_id (x := j - i) (by omega) (by omega)]
        refine tot_bind (swapR_ok (z := z) (a := m - i) (b := m + j - i) (n := i) (by omega) (by omega) (by omega) (by omega) (by omega)) fun e _ he => ?_
        obtain ⟨e1, e2, e3⟩ := he
        refine tot_some ?_
        simp only
        have w1 : ∀ k, m - i ≤ k → k < m → at_ z e k = at_ z d (k + j) := fun k k1 k2 => by
          have := (e2 (k - (m - i)) (by omega) (by omega)).1
          rwa [show m - i + (k - (m - i)) = k by omega, show m + j - i + (k - (m - i)) = k + j by omega] at this
        have w2 : ∀ k, m + j - i ≤ k → k < m + j → at_ z e k = at_ z d (k - j) := fun k k1 k2 => by
          have := (e2 (k - (m + j - i)) (by omega) (by omega)).2
          rwa [show m + j - i + (k - (m + j - i)) = k by omega, show m - i + (k - (m + j - i)) = k - j by omega] at this
        refine ⟨⟨by omega, by omega, by omega, by omega, (e1.wide (by omega) (by omega)).trans g5, fun f s1 s2 => g6 f ?_ ?_⟩, by omega⟩
        · refine (s1.wide z (a' := m - i) (b' := m + j) (by omega) (by omega)).trans z ?_
          have := e1.same; rwa [show m + j - i + i = m + j by omega] at this
        · intro k k1 k2
          by_cases q1 : m + (j - i) ≤ k
          · rw [s1 k (by omega) (.inr q1), w2 k (by omega) (by omega), if_neg (by omega)]
            congr 1; omega
          · rw [s2 k (by omega) (by omega)]
            by_cases q2 : k < m - i + (m + (j - i) - m)
            · rw [if_pos q2, if_pos (by omega), e3 _ (by omega) (by omega)]
            · rw [if_neg q2, w1 _ (by omega) (by omega)]
              by_cases q3 : k < m - i + (m + j - m)
              · rw [if_pos q3]; congr 1; omega
              · omega
    · have he : i = j := by simpa using he
      subst he
      exact tot_some ⟨g1, g3, g4, g5, g6⟩
  · rintro ⟨i, d⟩ ⟨g1, g3, g4, g5, g6⟩
    simp only at g1 g3 g4 g5 g6 ⊢
    have hl := g5.len
    rw [w64_id (x := m - i) (by omega) (by omega)]
    refine tot_bind (swapR_ok (z := z) (a := m - i) (b := m) (n := i) (by omega) (by omega) (by omega) (by omega) (by omega)) fun e _ he => ?_
    obtain ⟨e1, e2, e3⟩ := he
    refine tot_some ⟨(e1.wide (by omega) (by omega)).trans g5, g6 e e1.same fun k k1 k2 => ?_⟩
    by_cases q : k < m
    · rw [if_pos (by omega)]
      have := (e2 (k - (m - i)) (by omega) (by omega)).1
      rw [show m - i + (k - (m - i)) = k by omega] at this
      rw [this]; congr 1; omega
    · rw [if_neg (by omega)]
      have := (e2 (k - m) (by omega) (by omega)).2
      rw [show m + (k - m) = k by omega] at this
      rw [this]; congr 1; omega
end Hs
set_option linter.unusedVariables false
set_option linter.unusedSimpArgs false
set_option maxRecDepth 100000
namespace Hs
open Go Hk Hd Pl
variable {α : Type} {z : α}
variable {cmp : α → α → Option Int} {P : α → Prop} {le : α → α → Prop}
theorem seg_split (x : List α) {A B : Nat} (h : A ≤ B) : x = x.take A ++ ((x.take B).drop A ++ x.drop B) := by
  have e1 : x = x.take B ++ x.drop B := (List.take_append_drop B x).symm
  have e2 : x.take B = x.take A ++ (x.take B).drop A := by
    have := (List.take_append_drop A (x.take B)).symm
    rwa [List.take_take, Nat.min_eq_left h] at this
  rw [← List.append_assoc, ← e2, ← e1]
theorem seg_perm {d l : List α} {a b : Int} (h : Res z d l a b) (h0 : 0 ≤ a) (hab : a ≤ b) (h3 : b ≤ d.length) : ((d.take b.toNat).drop a.toNat).Perm ((l.take b.toNat).drop a.toNat) := by
  have hl := h.len
  have g : ∀ (k : Nat) (h1 : k < d.length) (h2 : k < l.length), ((k : Int) < a ∨ b ≤ k) → d[k] = l[k] := fun k h1 h2 hk => by
    have := h.same k (by omega) hk
    rwa [show at_ z d (k : Int) = d[k] from nth_get z h1, show at_ z l (k : Int) = l[k] from nth_get z h2] at this
  have p1 : d.take a.toNat = l.take a.toNat := List.ext_getElem (by simp; omega) fun i h1 h2 => by
    simp only [List.getElem_take]
    simp only [List.length_take] at h1 h2
    exact g i (by omega) (by omega) (.inl (by omega))
  have p2 : d.drop b.toNat = l.drop b.toNat := List.ext_getElem (by simp; omega) fun i h1 h2 => by
    simp only [List.getElem_drop]
    simp only [List.length_drop] at h1 h2
    exact g _ (by omega) (by omega) (.inr (by omega))
  have hp := h.perm
  rw [seg_split d (show a.toNat ≤ b.toNat by omega), seg_split l (show a.toNat ≤ b.toNat by omega), p1, p2] at hp
  exact (List.perm_append_right_iff _).1 ((List.perm_append_left_iff _).1 hp)
theorem seg_mem {d l : List α} {a b k : Int} (h : Res z d l a b) (h0 : 0 ≤ a) (h1 : a ≤ k) (h2 : k < b) (h3 : b ≤ d.length) : ∃ k', a ≤ k' ∧ k' < b ∧ at_ z d k = at_ z l k' := by
  have hl := h.len
  have hp := seg_perm h h0 (by omega) h3
  have hm : at_ z d k ∈ (d.take b.toNat).drop a.toNat := by
    rw [show at_ z d k = d[k.toNat]'(by omega) from by unfold at_ nth; rw [List.getElem?_eq_getElem (by omega)]; rfl]
    refine List.mem_iff_getElem.2 ⟨k.toNat - a.toNat, by simp; omega, ?_⟩
    simp only [List.getElem_drop, List.getElem_take]
    congr 1; omega
  obtain ⟨i, hi, he⟩ := List.mem_iff_getElem.1 (hp.mem_iff.1 hm)
  simp only [List.length_drop, List.length_take] at hi
  refine ⟨a + i, by omega, by omega, ?_⟩
  rw [← he]
  simp only [List.getElem_drop, List.getElem_take]
  unfold at_ nth
  rw [show (a + (i : Int)).toNat = a.toNat + i by omega, List.getElem?_eq_getElem (by omega)]; rfl
theorem symM1_ok (hc : CmpOk cmp P le) {l : List α} {a m b : Int} (h0 : 0 ≤ a) (h1 : m = a + 1) (h2 : m < b) (h3 : b ≤ l.length) (h4 : l.length ≤ 1000000) (hP : ∀ x ∈ l, P x) (hs : Srt z le l m b) {F : List α → Option (List α)} {Q : List α → Prop}
    {H1 H2 : Empty → Option (List α)} (hF : ∀ d, Res z d l a b → Srt z le d a b → Tot (F d) Q) :
    Tot ((iter (symM_b1 cmp a l) (m, b)).bind fun c => Ctl.on c (fun i => (iter (symM_b2 i) (a, l)).bind fun c => Ctl.on c F H1) H2) Q := by
  refine tot_wh (I := fun s => m ≤ s.1 ∧ s.1 ≤ s.2 ∧ s.2 ≤ b ∧ (∀ k, m ≤ k → k < s.1 → le (at_ z l k) (at_ z l a)) ∧ ∀ k, s.2 ≤ k → k < b → le (at_ z l a) (at_ z l k)) (μ := fun s => (s.2 - s.1).toNat)
    (J := fun i => m ≤ i ∧ i ≤ b ∧ (∀ k, m ≤ k → k < i → le (at_ z l k) (at_ z l a)) ∧ ∀ k, i ≤ k → k < b → le (at_ z l a) (at_ z l k)) (E := fun _ => False)
    ⟨by simp, by simp only; omega, by simp, fun k k1 k2 => by simp only at k2; omega, fun k k1 k2 => by simp only at k1; omega⟩ (Nat.lt_of_le_of_lt (by simp only; omega) big) ?_ ?_ (fun _ h => h.elim)
  · rintro ⟨i, j⟩ ⟨g1, g2, g3, g4, g5⟩
    simp only at g1 g2 g3 g4 g5
    unfold symM_b1
    simp only
    refine tot_ifb (fun hlt => ?_) fun hge => ?_
    · simp only [decide_eq_true_eq] at hlt
      rw [half (by omega) (by omega)]
      simp only [Option.bind_some]
      have q1 : i ≤ (i + j) / 2 := by omega
      have q2 : (i + j) / 2 < j := by omega
      generalize (i + j) / 2 = h at q1 q2
      rw [w64_id (x := h) (by omega) (by omega), idx_nth z (i := h) (by omega) (by omega), idx_nth z (i := a) (by omega) (by omega)]
      simp only [Option.bind_some]
      obtain ⟨c, hcc, hcs⟩ := hc.ok _ _ (all_at (z := z) hP (i := h) (by omega) (by omega)) (all_at (z := z) hP (i := a) (by omega) (by omega))
      rw [hcc]
      simp only [Option.bind_some]
      refine tot_ifb (fun hl => ?_) fun hg => ?_
      · simp only [decide_eq_true_eq] at hl
        have hle := (hc.tot (at_ z l h) (at_ z l a)).elim id fun h => absurd h (hcs.1 hl)
        refine tot_some ?_
        simp only
        rw [w64_id (x := h + 1) (by omega) (by omega)]
        refine ⟨⟨by omega, by omega, g3, fun k k1 k2 => ?_, g5⟩, by omega⟩
        by_cases hk : k = h
        · subst hk; exact hle
        · exact hc.tr _ _ _ (hs k h k1 (by omega) (by omega)) hle
      · simp only [decide_eq_false_iff_not] at hg
        have hle : le (at_ z l a) (at_ z l h) := Classical.byContradiction fun h => hg (hcs.2 h)
        refine tot_some ⟨⟨g1, by simp only; omega, by simp only; omega, g4, fun k k1 k2 => ?_⟩, by simp only; omega⟩
        simp only at k1
        by_cases hk : k = h
        · subst hk; exact hle
        · exact hc.tr _ _ _ hle (hs h k (by omega) (by omega) k2)
    · simp only [decide_eq_false_iff_not] at hge
      exact tot_some ⟨g1, by omega, g4, fun k k1 k2 => g5 k (by omega) k2⟩
  · rintro i ⟨g1, g2, g4, g5⟩
    refine tot_wh (I := fun s => a ≤ s.1 ∧ s.1 ≤ i - 1 ∧ Res z s.2 l a b ∧ (∀ x, a ≤ x → x < s.1 → at_ z s.2 x = at_ z l (x + 1)) ∧ at_ z s.2 s.1 = at_ z l a ∧ ∀ x, s.1 < x → at_ z s.2 x = at_ z l x) (μ := fun s => (i - s.1).toNat)
      (J := fun d => Res z d l a b ∧ (∀ x, a ≤ x → x < i - 1 → at_ z d x = at_ z l (x + 1)) ∧ at_ z d (i - 1) = at_ z l a ∧ ∀ x, i - 1 < x → at_ z d x = at_ z l x) (E := fun _ => False)
      ⟨by simp, by simp only; omega, Res.refl _ _ _, fun x x1 x2 => by simp only at x2; omega, rfl, fun x hx => rfl⟩ (Nat.lt_of_le_of_lt (by simp only; omega) big) ?_ ?_ (fun _ h => h.elim)
    · rintro ⟨j, d⟩ ⟨k1, k2, k3, k4, k5, k6⟩
      simp only at k1 k2 k3 k4 k5 k6
      have hl := k3.len
      unfold symM_b2
      simp only
      rw [w64_id (x := i - 1) (by omega) (by omega)]
      refine tot_ifb (fun hlt => ?_) fun hge => ?_
      · simp only [decide_eq_true_eq] at hlt
        rw [w64_id (x := j + 1) (by omega) (by omega), idx_nth z (xs := d) (i := j + 1) (by omega) (by omega), idx_nth z (xs := d) (i := j) (by omega) (by omega)]
        simp only [Option.bind_some]
        rw [idx_nth z (xs := setI d _ _) (by omega) (by rw [setI_length]; omega)]
        refine tot_some ?_
        show (a ≤ j + 1 ∧ j + 1 ≤ i - 1 ∧ Res z (sw z d j (j + 1)) l a b ∧ (∀ x, a ≤ x → x < j + 1 → at_ z (sw z d j (j + 1)) x = at_ z l (x + 1)) ∧ at_ z (sw z d j (j + 1)) (j + 1) = at_ z l a ∧ ∀ x, j + 1 < x → at_ z (sw z d j (j + 1)) x = at_ z l x) ∧ (i - (j + 1)).toNat < (i - j).toNat
        have hsw : ∀ k, 0 ≤ k → at_ z (sw z d j (j + 1)) k = if k = j + 1 then at_ z d j else if k = j then at_ z d (j + 1) else at_ z d k := fun k hk => at_sw z (by omega) (by omega) (by omega) (by omega) hk
        refine ⟨⟨by omega, by omega, k3.sw h0 h3 (by omega) (by omega) (by omega) (by omega), fun x x1 x2 => ?_, ?_, fun x x1 => ?_⟩, by omega⟩
        · rw [hsw x (by omega), if_neg (by omega)]
          by_cases hx : x = j
          · subst hx; rw [if_pos rfl]; exact k6 _ (by omega)
          · rw [if_neg hx]; exact k4 x x1 (by omega)
        · rw [hsw _ (by omega), if_pos rfl]; exact k5
        · rw [hsw x (by omega), if_neg (by omega), if_neg (by omega)]; exact k6 x (by omega)
      · simp only [decide_eq_false_iff_not] at hge
        have : j = i - 1 := by omega
        subst this
        exact tot_some ⟨k3, k4, k5, k6⟩
    · rintro d ⟨k3, k4, k5, k6⟩
      refine hF d k3 fun x y hx hxy hy => ?_
      by_cases c1 : x < i - 1
      · rw [k4 x hx c1]
        by_cases c2 : y < i - 1
        · rw [k4 y (by omega) c2]; exact hs _ _ (by omega) (by omega) (by omega)
        · by_cases c3 : y = i - 1
          · rw [c3, k5]; exact g4 _ (by omega) (by omega)
          · rw [k6 y (by omega)]; exact hs _ _ (by omega) (by omega) (by omega)
      · by_cases c2 : x = i - 1
        · rw [c2, k5, k6 y (by omega)]; exact g5 y (by omega) hy
        · rw [k6 x (by omega), k6 y (by omega)]; exact hs _ _ (by omega) (by omega) (by omega)
theorem symM2_ok (hc : CmpOk cmp P le) {l : List α} {a m b : Int} (h0 : 0 ≤ a) (h1 : b = m + 1) (h2 : a < m) (h3 : b ≤ l.length) (h4 : l.length ≤ 1000000) (hP : ∀ x ∈ l, P x) (hs : Srt z le l a m) {F : List α → Option (List α)} {Q : List α → Prop}
    {H1 H2 : Empty → Option (List α)} (hF : ∀ d, Res z d l a b → Srt z le d a b → Tot (F d) Q) :
    Tot ((iter (symM_b3 cmp m l) (a, m)).bind fun c => Ctl.on c (fun i => (iter (symM_b4 i) (m, l)).bind fun c => Ctl.on c F H1) H2) Q := by
  refine tot_wh (I := fun s => a ≤ s.1 ∧ s.1 ≤ s.2 ∧ s.2 ≤ m ∧ (∀ k, a ≤ k → k < s.1 → le (at_ z l k) (at_ z l m)) ∧ ∀ k, s.2 ≤ k → k < m → le (at_ z l m) (at_ z l k)) (μ := fun s => (s.2 - s.1).toNat)
    (J := fun i => a ≤ i ∧ i ≤ m ∧ (∀ k, a ≤ k → k < i → le (at_ z l k) (at_ z l m)) ∧ ∀ k, i ≤ k → k < m → le (at_ z l m) (at_ z l k)) (E := fun _ => False)
    ⟨by simp, by simp only; omega, by simp, fun k k1 k2 => by simp only at k2; omega, fun k k1 k2 => by simp only at k1; omega⟩ (Nat.lt_of_le_of_lt (by simp only; omega) big) ?_ ?_ (fun _ h => h.elim)
  · rintro ⟨i, j⟩ ⟨g1, g2, g3, g4, g5⟩
    simp only at g1 g2 g3 g4 g5
    unfold symM_b3
    simp only
    refine tot_ifb (fun hlt => ?_) fun hge => ?_
    · simp only [decide_eq_true_eq] at hlt
      rw [half (by omega) (by omega)]
      simp only [Option.bind_some]
      have q1 : i ≤ (i + j) / 2 := by omega
      have q2 : (i + j) / 2 < j := by omega
      generalize (i + j) / 2 = h at q1 q2
      rw [w64_id (x := h) (by omega) (by omega), idx_nth z (i := h) (by omega) (by omega), idx_nth z (i := m) (by omega) (by omega)]
      simp only [Option.bind_some]
      obtain ⟨c, hcc, hcs⟩ := hc.ok _ _ (all_at (z := z) hP (i := m) (by omega) (by omega)) (all_at (z := z) hP (i := h) (by omega) (by omega))
      rw [hcc]
      simp only [Option.bind_some]
      refine tot_ifb (fun hl => ?_) fun hg => ?_
      · simp only [Bool.not_eq_true', decide_eq_false_iff_not] at hl
        have hle : le (at_ z l h) (at_ z l m) := Classical.byContradiction fun h => hl (hcs.2 h)
        refine tot_some ?_
        simp only
        rw [w64_id (x := h + 1) (by omega) (by omega)]
        refine ⟨⟨by omega, by omega, g3, fun k k1 k2 => ?_, g5⟩, by omega⟩
        by_cases hk : k = h
        · subst hk; exact hle
        · exact hc.tr _ _ _ (hs k h k1 (by omega) (by omega)) hle
      · simp only [Bool.not_eq_false', decide_eq_true_eq] at hg
        have hle := (hc.tot (at_ z l m) (at_ z l h)).elim id fun h => absurd h (hcs.1 hg)
        refine tot_some ⟨⟨g1, by simp only; omega, by simp only; omega, g4, fun k k1 k2 => ?_⟩, by simp only; omega⟩
        simp only at k1
        by_cases hk : k = h
        · subst hk; exact hle
        · exact hc.tr _ _ _ hle (hs h k (by omega) (by omega) k2)
    · simp only [decide_eq_false_iff_not] at hge
      exact tot_some ⟨g1, by omega, g4, fun k k1 k2 => g5 k (by omega) k2⟩
  · rintro i ⟨g1, g2, g4, g5⟩
    refine tot_wh (I := fun s => i ≤ s.1 ∧ s.1 ≤ m ∧ Res z s.2 l a b ∧ (∀ x, s.1 < x → x ≤ m → at_ z s.2 x = at_ z l (x - 1)) ∧ at_ z s.2 s.1 = at_ z l m ∧ ∀ x, 0 ≤ x → x < s.1 → at_ z s.2 x = at_ z l x) (μ := fun s => (s.1 - i).toNat)
      (J := fun d => Res z d l a b ∧ (∀ x, i < x → x ≤ m → at_ z d x = at_ z l (x - 1)) ∧ at_ z d i = at_ z l m ∧ ∀ x, 0 ≤ x → x < i → at_ z d x = at_ z l x) (E := fun _ => False)
      ⟨by simp only; omega, by simp, Res.refl _ _ _, fun x x1 x2 => by simp only at x1; omega, rfl, fun x _ hx => rfl⟩ (Nat.lt_of_le_of_lt (by simp only; omega) big) ?_ ?_ (fun _ h => h.elim)
    · rintro ⟨j, d⟩ ⟨k1, k2, k3, k4, k5, k6⟩
      simp only at k1 k2 k3 k4 k5 k6
      have hl := k3.len
      unfold symM_b4
      simp only
      refine tot_ifb (fun hlt => ?_) fun hge => ?_
      · simp only [decide_eq_true_eq] at hlt
        rw [w64_id (x := j - 1) (by omega) (by omega), idx_nth z (xs := d) (i := j - 1) (by omega) (by omega), idx_nth z (xs := d) (i := j) (by omega) (by omega)]
        simp only [Option.bind_some]
        rw [idx_nth z (xs := setI d _ _) (by omega) (by rw [setI_length]; omega)]
        refine tot_some ?_
        show (i ≤ j - 1 ∧ j - 1 ≤ m ∧ Res z (sw z d j (j - 1)) l a b ∧ (∀ x, j - 1 < x → x ≤ m → at_ z (sw z d j (j - 1)) x = at_ z l (x - 1)) ∧ at_ z (sw z d j (j - 1)) (j - 1) = at_ z l m ∧ ∀ x, 0 ≤ x → x < j - 1 → at_ z (sw z d j (j - 1)) x = at_ z l x) ∧ (j - 1 - i).toNat < (j - i).toNat
        have hsw : ∀ k, 0 ≤ k → at_ z (sw z d j (j - 1)) k = if k = j - 1 then at_ z d j else if k = j then at_ z d (j - 1) else at_ z d k := fun k hk => at_sw z (by omega) (by omega) (by omega) (by omega) hk
        refine ⟨⟨by omega, by omega, k3.sw h0 h3 (by omega) (by omega) (by omega) (by omega), fun x x1 x2 => ?_, ?_, fun x x0 x1 => ?_⟩, by omega⟩
        · rw [hsw x (by omega), if_neg (by omega)]
          by_cases hx : x = j
          · subst hx; rw [if_pos rfl]; exact k6 _ (by omega) (by omega)
          · rw [if_neg hx]; exact k4 x (by omega) x2
        · rw [hsw _ (by omega), if_pos rfl]; exact k5
        · rw [hsw x (by omega), if_neg (by omega), if_neg (by omega)]; exact k6 x x0 (by omega)
      · simp only [decide_eq_false_iff_not] at hge
        have : j = i := by omega
        subst this
        exact tot_some ⟨k3, k4, k5, k6⟩
    · rintro d ⟨k3, k4, k5, k6⟩
      refine hF d k3 fun x y hx hxy hy => ?_
      by_cases c1 : x < i
      · rw [k6 x (by omega) c1]
        by_cases c2 : y < i
        · rw [k6 y (by omega) c2]; exact hs _ _ (by omega) (by omega) (by omega)
        · by_cases c3 : y = i
          · rw [c3, k5]; exact g4 _ (by omega) (by omega)
          · rw [k4 y (by omega) (by omega)]; exact hs _ _ (by omega) (by omega) (by omega)
      · by_cases c2 : x = i
        · rw [c2, k5, k4 y (by omega) (by omega)]; exact g5 _ (by omega) (by omega)
        · rw [k4 x (by omega) (by omega), k4 y (by omega) (by omega)]; exact hs _ _ (by omega) (by omega) (by omega)
theorem symM_ok (hc : CmpOk cmp P le) : ∀ (n : Nat) {l : List α} {a m b : Int}, 0 ≤ a → a < m → m < b → b ≤ l.length → l.length ≤ 1000000 → (∀ x ∈ l, P x) → Srt z le l a m → Srt z le l m b → (b - a).toNat < n →
    Tot (symM_n cmp n a m b l) fun d => Res z d l a b ∧ Srt z le d a b
  | 0, l, a, m, b, _, _, _, _, _, _, _, _, h => by omega
  | n + 1, l, a, m, b, h0, h1, h2, h3, h4, hP, s1, s2, hn => by
    have ih := @symM_ok hc n
    show Tot (symM_step cmp (symM_n cmp n) a m b l) _
    unfold symM_step
    rw [w64_id (x := m - a) (by omega) (by omega), w64_id (x := b - m) (by omega) (by omega)]
    refine tot_ifb (fun q => ?_) fun q => ?_
    · simp only [beq_iff_eq] at q
      exact symM1_ok (z := z) hc h0 (by omega) h2 h3 h4 hP s2 fun d hr hs => tot_some ⟨hr, hs⟩
    simp only [beq_eq_false_iff_ne] at q
    refine tot_ifb (fun q2 => ?_) fun q2 => ?_
    · simp only [beq_iff_eq] at q2
      exact symM2_ok (z := z) hc h0 (by omega) h1 h3 h4 hP s1 fun d hr hs => tot_some ⟨hr, hs⟩
    simp only [beq_eq_false_iff_ne] at q2
    rw [half (by omega) (by omega)]
    simp only [Option.bind_some]
    have m1 : 2 * ((a + b) / 2) ≤ a + b := by omega
    have m2 : a + b ≤ 2 * ((a + b) / 2) + 1 := by omega
    generalize (a + b) / 2 = mid at m1 m2
    rw [w64_id (x := mid) (by omega) (by omega), w64_id (x := mid + m) (by omega) (by omega), w64_id (x := mid + m - b) (by omega) (by omega)]
    refine tot_bind (P := fun s => s.1 = (if mid < m then mid + m - b else a) ∧ s.2 = if mid < m then mid else m) ?_ fun s _ hs => ?_
    · by_cases hm : mid < m
      · rw [show decide (m > mid) = true from decide_eq_true hm, ifb_true, if_pos hm, if_pos hm]; exact tot_some ⟨rfl, rfl⟩
      · rw [show decide (m > mid) = false from decide_eq_false hm, ifb_false, if_neg hm, if_neg hm]; exact tot_some ⟨rfl, rfl⟩
    obtain ⟨st, r⟩ := s
    simp only at hs
    obtain ⟨e1, e2⟩ := hs
    have r1 : a ≤ st := by rw [e1]; split <;> omega
    have r2 : r ≤ m := by rw [e2]; split <;> omega
    have r3 : st ≤ r := by rw [e1, e2]; split <;> omega
    have r4 : mid + m - r ≥ m := by rw [e2]; split <;> omega
    have r5 : mid + m - st ≤ b := by rw [e1]; split <;> omega
    have r6 : st = a ∨ mid + m - st = b := by rw [e1]; split <;> omega
    have r7 : r = m ∨ mid + m - r = m := by rw [e2]; split <;> omega
    have r8 : r ≤ mid := by rw [e2]; split <;> omega
    clear e1 e2
    refine tot_wh (I := fun s => st ≤ s.1 ∧ s.1 ≤ s.2 ∧ s.2 ≤ r ∧ (∀ k, st ≤ k → k < s.1 → le (at_ z l k) (at_ z l (mid + m - 1 - k))) ∧ ∀ k, s.2 ≤ k → k < r → le (at_ z l (mid + m - 1 - k)) (at_ z l k)) (μ := fun s => (s.2 - s.1).toNat)
      (J := fun i => st ≤ i ∧ i ≤ r ∧ (∀ k, st ≤ k → k < i → le (at_ z l k) (at_ z l (mid + m - 1 - k))) ∧ ∀ k, i ≤ k → k < r → le (at_ z l (mid + m - 1 - k)) (at_ z l k)) (E := fun _ => False)
      ⟨by simp, by simp only; omega, by simp, fun k k1 k2 => by simp only at k2; omega, fun k k1 k2 => by simp only at k1; omega⟩ (Nat.lt_of_le_of_lt (by simp only; omega) big) ?_ ?_ (fun _ h => h.elim)
    · rintro ⟨i, j⟩ ⟨g1, g2, g3, g4, g5⟩
      simp only at g1 g2 g3 g4 g5
      unfold symM_b5
      simp only
      refine tot_ifb (fun hlt => ?_) fun hge => ?_
      · simp only [decide_eq_true_eq] at hlt
        rw [half (by omega) (by omega)]
        simp only [Option.bind_some]
        have q1 : i ≤ (i + j) / 2 := by omega
        have q2 : (i + j) / 2 < j := by omega
        generalize (i + j) / 2 = h at q1 q2
        rw [w64_id (x := mid) (by omega) (by omega), w64_id (x := mid + m) (by omega) (by omega), w64_id (x := mid + m - 1) (by omega) (by omega), w64_id (x := h) (by omega) (by omega), w64_id (x := mid + m - 1 - h) (by omega) (by omega), idx_nth z (i := h) (by omega) (by omega), idx_nth z (i := mid + m - 1 - h) (by omega) (by omega)]
        simp only [Option.bind_some]
        obtain ⟨c, hcc, hcs⟩ := hc.ok _ _ (all_at (z := z) hP (i := mid + m - 1 - h) (by omega) (by omega)) (all_at (z := z) hP (i := h) (by omega) (by omega))
        rw [hcc]
        simp only [Option.bind_some]
        refine tot_ifb (fun hl => ?_) fun hg => ?_
        · simp only [Bool.not_eq_true', decide_eq_false_iff_not] at hl
          have hle : le (at_ z l h) (at_ z l (mid + m - 1 - h)) := Classical.byContradiction fun h => hl (hcs.2 h)
          refine tot_some ?_
          simp only
          rw [w64_id (x := h + 1) (by omega) (by omega)]
          refine ⟨⟨by omega, by omega, g3, fun k k1 k2 => ?_, g5⟩, by omega⟩
          by_cases hk : k = h
          · subst hk; exact hle
          · exact hc.tr _ _ _ (s1 k h (by omega) (by omega) (by omega)) (hc.tr _ _ _ hle (s2 _ _ (by omega) (by omega) (by omega)))
        · simp only [Bool.not_eq_false', decide_eq_true_eq] at hg
          have hle := (hc.tot (at_ z l (mid + m - 1 - h)) (at_ z l h)).elim id fun h => absurd h (hcs.1 hg)
          refine tot_some ⟨⟨g1, by simp only; omega, by simp only; omega, g4, fun k k1 k2 => ?_⟩, by simp only; omega⟩
          simp only at k1
          by_cases hk : k = h
          · subst hk; exact hle
          · exact hc.tr _ _ _ (s2 _ _ (by omega) (by omega) (by omega)) (hc.tr _ _ _ hle (s1 h k (by omega) (by omega) (by omega)))
      · simp only [decide_eq_false_iff_not] at hge
        exact tot_some ⟨g1, by omega, g4, fun k k1 k2 => g5 k (by omega) k2⟩
    rintro i ⟨g1, g2, g4, g5⟩
    rw [w64_id (x := mid + m - i) (by omega) (by omega)]
    refine tot_bind (P := fun d => Res z d l a b ∧ (∀ k, a ≤ k → k < i → at_ z d k = at_ z l k) ∧ (∀ k, mid + m - i ≤ k → k < b → at_ z d k = at_ z l k) ∧ ∀ k, i ≤ k → k < mid + m - i → at_ z d k = if k < mid then at_ z l (k + (m - i)) else at_ z l (k - (mid - i))) ?_ fun d _ hd => ?_
    · refine tot_bind (P := fun c => c = decide (i < m ∧ m < mid + m - i)) ?_ fun c _ hc => ?_
      · by_cases q : i < m
        · rw [show decide (i < m) = true from decide_eq_true q, ifb_true]; exact tot_some (by simp [q])
        · rw [show decide (i < m) = false from decide_eq_false q, ifb_false]; exact tot_some (by simp [q])
      subst hc
      refine tot_ifb (fun q => ?_) fun q => ?_
      · simp only [decide_eq_true_eq] at q
        refine tot_bind (rot_ok (z := z) (a := i) (m := m) (b := mid + m - i) (by omega) q.1 q.2 (by omega) h4) fun d _ hd => ?_
        obtain ⟨d1, d2⟩ := hd
        refine tot_some ⟨d1.wide (by omega) (by omega), fun k k1 k2 => d1.same k (by omega) (.inl k2), fun k k1 k2 => d1.same k (by omega) (.inr k1), fun k k1 k2 => ?_⟩
        rw [d2 k k1 k2, show i + (mid + m - i - m) = mid by omega, show mid + m - i - m = mid - i by omega]
      · simp only [decide_eq_false_iff_not] at q
        refine tot_some ⟨Res.refl _ _ _, fun k _ _ => rfl, fun k _ _ => rfl, fun k k1 k2 => ?_⟩
        by_cases hk : k < mid
        · rw [if_pos hk]; congr 1; omega
        · rw [if_neg hk]; congr 1; omega
    obtain ⟨d1, d2, d3, d4⟩ := hd
    have dl := d1.len
    have dP := perm_all d1.perm hP
    have A1 : ∀ k, i ≤ k → k < mid → at_ z d k = at_ z l (k + (m - i)) := fun k k1 k2 => by rw [d4 k k1 (by omega), if_pos k2]
    have A2 : ∀ k, mid ≤ k → k < mid + m - i → at_ z d k = at_ z l (k - (mid - i)) := fun k k1 k2 => by rw [d4 k (by omega) k2, if_neg (by omega)]
    have t1 : Srt z le d a i := fun x y hx hxy hy => by rw [d2 x hx (by omega), d2 y (by omega) hy]; exact s1 x y hx hxy (by omega)
    have t2 : Srt z le d i mid := fun x y hx hxy hy => by rw [A1 x hx (by omega), A1 y (by omega) hy]; exact s2 _ _ (by omega) (by omega) (by omega)
    have t3 : Srt z le d mid (mid + m - i) := fun x y hx hxy hy => by rw [A2 x hx (by omega), A2 y (by omega) hy]; exact s1 _ _ (by omega) (by omega) (by omega)
    have t4 : Srt z le d (mid + m - i) b := fun x y hx hxy hy => by rw [d3 x hx (by omega), d3 y (by omega) hy]; exact s2 x y (by omega) hxy (by omega)
    have cross : ∀ x y, a ≤ x → x < mid → mid ≤ y → y < b → le (at_ z d x) (at_ z d y) := by
      intro x y x1 x2 y1 y2
      by_cases c1 : x < i
      · rw [d2 x x1 c1]
        by_cases c2 : y < mid + m - i
        · rw [A2 y y1 c2]
          exact s1 _ _ x1 (by omega) (by omega)
        · rw [d3 y (by omega) y2]
          by_cases c3 : st < i
          · have e1 := g4 (i - 1) (by omega) (by omega)
            have e2 : le (at_ z l x) (at_ z l (i - 1)) := by
              by_cases q : x = i - 1
              · rw [q]; exact hc.rf _
              · exact s1 _ _ x1 (by omega) (by omega)
            have e3 : le (at_ z l (mid + m - 1 - (i - 1))) (at_ z l y) := by
              by_cases q : y = mid + m - 1 - (i - 1)
              · rw [q]; exact hc.rf _
              · exact s2 _ _ (by omega) (by omega) y2
            exact hc.tr _ _ _ e2 (hc.tr _ _ _ e1 e3)
          · omega
      · rw [A1 x (by omega) x2]
        by_cases c2 : y < mid + m - i
        · rw [A2 y y1 c2]
          by_cases c3 : i < r
          · have e1 := g5 i (by omega) c3
            have e2 : le (at_ z l (x + (m - i))) (at_ z l (mid + m - 1 - i)) := by
              by_cases q : x + (m - i) = mid + m - 1 - i
              · rw [q]; exact hc.rf _
              · exact s2 _ _ (by omega) (by omega) (by omega)
            have e3 : le (at_ z l i) (at_ z l (y - (mid - i))) := by
              by_cases q : y - (mid - i) = i
              · rw [q]; exact hc.rf _
              · exact s1 _ _ (by omega) (by omega) (by omega)
            exact hc.tr _ _ _ e2 (hc.tr _ _ _ e1 e3)
          · omega
        · rw [d3 y (by omega) y2]
          exact s2 _ _ (by omega) (by omega) y2
    refine tot_bind (P := fun e => Res z e d a mid ∧ Srt z le e a mid) ?_ fun e _ he => ?_
    · refine tot_bind (P := fun c => c = decide (a < i ∧ i < mid)) ?_ fun c _ hc' => ?_
      · by_cases q : a < i
        · rw [show decide (a < i) = true from decide_eq_true q, ifb_true]; exact tot_some (by simp [q])
        · rw [show decide (a < i) = false from decide_eq_false q, ifb_false]; exact tot_some (by simp [q])
      subst hc'
      refine tot_ifb (fun q => ?_) fun q => ?_
      · simp only [decide_eq_true_eq] at q
        refine tot_bind (ih h0 q.1 q.2 (by omega) (by omega) dP t1 t2 (by omega)) fun e _ he => tot_some he
      · simp only [decide_eq_false_iff_not] at q
        refine tot_some ⟨Res.refl _ _ _, ?_⟩
        by_cases q1 : a < i
        · have : i = mid := by omega
          rw [← this]; exact t1
        · have : i = a := by omega
          rw [← this]; exact t2
    obtain ⟨e1, e2⟩ := he
    have el := e1.len
    have sm : ∀ k, mid ≤ k → at_ z e k = at_ z d k := fun k hk => e1.same k (by omega) (.inr hk)
    have t3' : Srt z le e mid (mid + m - i) := fun x y hx hxy hy => by rw [sm x hx, sm y (by omega)]; exact t3 x y hx hxy hy
    have t4' : Srt z le e (mid + m - i) b := fun x y hx hxy hy => by rw [sm x (by omega), sm y (by omega)]; exact t4 x y hx hxy hy
    refine tot_bind (P := fun c => c = decide (mid < mid + m - i ∧ mid + m - i < b)) ?_ fun c _ hc' => ?_
    · by_cases q : mid < mid + m - i
      · rw [show decide (mid < mid + m - i) = true from decide_eq_true q, ifb_true]; exact tot_some (by simp only [q, true_and])
      · rw [show decide (mid < mid + m - i) = false from decide_eq_false q, ifb_false]; exact tot_some (by simp only [q, false_and, decide_false])
    subst hc'
    have fin : ∀ g, Res z g e mid b → Srt z le g mid b → Res z g l a b ∧ Srt z le g a b := by
      intro g r1 r2
      have gl := r1.len
      have sg : ∀ k, 0 ≤ k → k < mid → at_ z g k = at_ z e k := fun k h0 hk => r1.same k h0 (.inl hk)
      have up : ∀ k, mid ≤ k → k < b → ∃ k', mid ≤ k' ∧ k' < b ∧ at_ z g k = at_ z e k' := fun k k1 k2 => seg_mem r1 (by omega) k1 k2 (by omega)
      have lo : ∀ k, a ≤ k → k < mid → ∃ k', a ≤ k' ∧ k' < mid ∧ at_ z e k = at_ z d k' := fun k k1 k2 => seg_mem e1 (by omega) k1 k2 (by omega)
      refine ⟨(r1.wide (by omega) (by omega)).trans ((e1.wide (by omega) (by omega)).trans d1), fun x y hx hxy hy => ?_⟩
      by_cases c1 : y < mid
      · rw [sg x (by omega) (by omega), sg y (by omega) c1]; exact e2 x y hx hxy c1
      · by_cases c2 : x < mid
        · obtain ⟨k1, p1, p2, p3⟩ := lo x hx c2
          obtain ⟨k2, p4, p5, p6⟩ := up y (by omega) hy
          rw [sg x (by omega) c2, p3, p6, sm k2 p4]
          exact cross k1 k2 p1 p2 p4 p5
        · exact r2 x y (by omega) hxy hy
    refine tot_ifb (fun q => ?_) fun q => ?_
    · simp only [decide_eq_true_eq] at q
      refine tot_bind (ih (by omega) q.1 q.2 (by omega) (by omega) (perm_all e1.perm dP) t3' t4' (by omega)) fun g _ hg => tot_some (fin g hg.1 hg.2)
    · simp only [decide_eq_false_iff_not] at q
      refine tot_some (fin e (Res.refl _ _ _) ?_)
      by_cases q1 : mid < mid + m - i
      · have : mid + m - i = b := by omega
        rw [← this]; exact t3'
      · have : mid + m - i = mid := by omega
        rw [← this]; exact t4'
def Blks (z : α) (le : α → α → Prop) (d : List α) (bs n : Int) : Prop := ∀ x, 0 ≤ x → bs ∣ x → Srt z le d x (min (x + bs) n)
theorem Srt.same {d e : List α} {a b : Int} (h : Srt z le d a b) (h0 : 0 ≤ a) (he : ∀ k, a ≤ k → k < b → at_ z e k = at_ z d k) : Srt z le e a b := fun x y hx hxy hy => by
  rw [he x hx (by omega), he y (by omega) hy]; exact h x y hx hxy hy
theorem dvd_eq {p x a : Int} (h1 : p ∣ x) (h2 : p ∣ a) (h3 : a ≤ x) (h4 : x < a + p) : x = a := by
  have h5 : p ∣ x - a := Int.dvd_sub h1 h2
  obtain ⟨k, hk⟩ := h5
  have hp : 0 < p := by omega
  rcases Int.lt_trichotomy k 0 with h | h | h
  · have := Int.mul_le_mul_of_nonneg_left (show k ≤ -1 by omega) (show 0 ≤ p by omega)
    omega
  · subst h; omega
  · have := Int.mul_le_mul_of_nonneg_left (show 1 ≤ k by omega) (show 0 ≤ p by omega)
    omega
theorem stab_ok (hc : CmpOk cmp P le) {l : List α} (h4 : l.length ≤ 1000000) (hP : ∀ x ∈ l, P x) : Tot (stab cmp l.length l) fun d => d.Perm l ∧ Srt z le d 0 l.length := by
  generalize hn : (l.length : Int) = n
  unfold stab
  refine tot_wh (I := fun s => 0 ≤ s.1 ∧ s.1 ≤ n ∧ s.1 % 20 = 0 ∧ s.2.1 = s.1 + 20 ∧ Res z s.2.2 l 0 n ∧ ∀ x, 0 ≤ x → x % 20 = 0 → x < s.1 → Srt z le s.2.2 x (x + 20)) (μ := fun s => (n - s.1).toNat)
    (J := fun s => 0 ≤ s.1 ∧ s.1 ≤ n ∧ n < s.1 + 20 ∧ s.1 % 20 = 0 ∧ Res z s.2 l 0 n ∧ ∀ x, 0 ≤ x → x % 20 = 0 → x < s.1 → Srt z le s.2 x (x + 20)) (E := fun _ => False)
    ⟨by simp, by simp only; omega, by simp, by simp, Res.refl _ _ _, fun x h1 _ h2 => by simp only at h2; omega⟩ (Nat.lt_of_le_of_lt (by simp only; omega) big) ?_ ?_ (fun _ h => h.elim)
  · rintro ⟨a, b, d⟩ ⟨g1, g2, g3, g4, g5, g6⟩
    simp only at g1 g2 g3 g4 g5 g6
    subst g4
    have hl := g5.len
    unfold stab_b1
    simp only
    refine tot_ifb (fun q => ?_) fun q => ?_
    · simp only [decide_eq_true_eq] at q
      refine tot_bind (ins_ok (z := z) hc (l := d) (a := a) (b := a + 20) g1 (by omega) (by omega) (by omega) (perm_all g5.perm hP)) fun e _ he => ?_
      obtain ⟨e1, e2⟩ := he
      refine tot_some ?_
      simp only
      rw [w64_id (x := a + 20 + 20) (by omega) (by omega)]
      refine ⟨⟨by omega, q, by omega, rfl, (e1.wide g1 (by omega)).trans g5, fun x x1 x2 x3 => ?_⟩, by omega⟩
      by_cases c : x < a
      · exact (g6 x x1 x2 c).same x1 fun k k1 k2 => e1.same k (by omega) (.inl (by omega))
      · rw [show x = a by omega]; exact e2
    · simp only [decide_eq_false_iff_not] at q
      exact tot_some ⟨g1, g2, by simp only; omega, g3, g5, g6⟩
  rintro ⟨a, d⟩ ⟨g1, g2, g3, g4, g5, g6⟩
  simp only at g1 g2 g3 g4 g5 g6 ⊢
  have hl := g5.len
  refine tot_bind (ins_ok (z := z) hc (l := d) (a := a) (b := n) g1 (by omega) (by omega) (by omega) (perm_all g5.perm hP)) fun e _ he => ?_
  obtain ⟨e1, e2⟩ := he
  have el := e1.len
  have r1 : Res z e l 0 n := (e1.wide g1 (by omega)).trans g5
  have b1 : Blks z le e 20 n := fun x x1 x2 => by
    by_cases c : x < a
    · have := (g6 x x1 (by omega) c).same (e := e) x1 fun k k1 k2 => e1.same k (by omega) (.inl (by omega))
      intro u v hu huv hv
      exact this u v hu huv (by omega)
    · by_cases c2 : x = a
      · subst c2; intro u v hu huv hv; exact e2 u v hu huv (by omega)
      · intro u v hu huv hv; omega
  refine tot_wh (I := fun s => 20 ≤ s.1 ∧ s.1 ≤ 2 * n + 20 ∧ Res z s.2 l 0 n ∧ Blks z le s.2 s.1 n) (μ := fun s => (n - s.1).toNat)
    (J := fun d => Res z d l 0 n ∧ Srt z le d 0 n) (E := fun _ => False)
    ⟨by simp, by simp only; omega, r1, b1⟩ (Nat.lt_of_le_of_lt (by simp only; omega) big) ?_ (fun d hd => tot_some ⟨hd.1.perm, hd.2⟩) (fun _ h => h.elim)
  clear r1 b1 e1 e2 el g6 g5 hl
  rintro ⟨bs, d⟩ ⟨g1, g2, g3, g4⟩
  simp only at g1 g2 g3 g4
  have hl := g3.len
  unfold stab_b2
  simp only
  refine tot_ifb (fun q => ?_) fun q => ?_
  · simp only [decide_eq_true_eq] at q
    rw [w64_id (x := 2 * bs) (by omega) (by omega)]
    refine tot_wh (I := fun s => 0 ≤ s.1 ∧ s.1 ≤ n ∧ 2 * bs ∣ s.1 ∧ s.2.1 = s.1 + 2 * bs ∧ Res z s.2.2 l 0 n ∧ (∀ x, 0 ≤ x → x < s.1 → 2 * bs ∣ x → Srt z le s.2.2 x (x + 2 * bs)) ∧ ∀ x, s.1 ≤ x → bs ∣ x → Srt z le s.2.2 x (min (x + bs) n)) (μ := fun s => (n - s.1).toNat)
      (J := fun s => 0 ≤ s.1 ∧ s.1 ≤ n ∧ n < s.1 + 2 * bs ∧ 2 * bs ∣ s.1 ∧ Res z s.2 l 0 n ∧ (∀ x, 0 ≤ x → x < s.1 → 2 * bs ∣ x → Srt z le s.2 x (x + 2 * bs)) ∧ ∀ x, s.1 ≤ x → bs ∣ x → Srt z le s.2 x (min (x + bs) n)) (E := fun _ => False)
      ⟨by simp, by simp only; omega, ⟨0, by simp⟩, by simp, g3, fun x h1 h2 => by simp only at h2; omega, fun x x1 x2 => g4 x (by simpa using x1) x2⟩ (Nat.lt_of_le_of_lt (by simp only; omega) big) ?_ ?_ (fun _ h => h.elim)
    · rintro ⟨a, b, d⟩ ⟨k1, k2, k3, k4, k5, k6, k7⟩
      simp only at k1 k2 k3 k4 k5 k6 k7
      subst k4
      have hl := k5.len
      have da : bs ∣ a := Int.dvd_trans ⟨2, Int.mul_comm 2 bs⟩ k3
      unfold stab_b3
      simp only
      refine tot_ifb (fun q => ?_) fun q => ?_
      · simp only [decide_eq_true_eq] at q
        rw [w64_id (x := a + bs) (by omega) (by omega), w64_id (x := 2 * bs) (by omega) (by omega), w64_id (x := a + 2 * bs + 2 * bs) (by omega) (by omega)]
        have s1 := k7 a (by omega) da
        have s2 := k7 (a + bs) (by omega) (Int.dvd_add da (Int.dvd_refl _))
        rw [show min (a + bs) n = a + bs by omega] at s1
        rw [show min (a + bs + bs) n = a + 2 * bs by omega] at s2
        refine tot_bind (symM_ok (z := z) hc bigN (l := d) (a := a) (m := a + bs) (b := a + 2 * bs) k1 (by omega) (by omega) (by omega) (by omega) (perm_all k5.perm hP) s1 s2 (Nat.lt_of_le_of_lt (by omega) big)) fun e _ he => ?_
        obtain ⟨e1, e2⟩ := he
        refine tot_some ⟨⟨by simp only; omega, q, Int.dvd_add k3 (Int.dvd_refl _), rfl, (e1.wide k1 (by omega)).trans k5, fun x x1 x2 x3 => ?_, fun x x1 x2 => ?_⟩, by simp only; omega⟩
        · simp only at x2
          by_cases c : x < a
          · exact (k6 x x1 c x3).same x1 fun k y1 y2 => e1.same k (by omega) (.inl (by
              have := dvd_eq (x := a) (a := x) k3 x3 (by omega)
              rcases Int.lt_or_le a (x + 2 * bs) with h | h
              · have := this h; omega
              · omega))
          · have := dvd_eq x3 k3 (by omega) (by omega)
            subst this; exact e2
        · simp only at x1
          exact (k7 x (by omega) x2).same (by omega) fun k y1 y2 => e1.same k (by omega) (.inr (by omega))
      · simp only [decide_eq_false_iff_not] at q
        exact tot_some ⟨k1, k2, by simp only; omega, k3, k5, k6, k7⟩
    · rintro ⟨a, d⟩ ⟨k1, k2, k3, k4, k5, k6, k7⟩
      simp only at k1 k2 k3 k4 k5 k6 k7 ⊢
      have hl := k5.len
      have da : bs ∣ a := Int.dvd_trans ⟨2, Int.mul_comm 2 bs⟩ k4
      rw [w64_id (x := a + bs) (by omega) (by omega), w64_id (x := bs * 2) (by omega) (by omega)]
      refine tot_bind (P := fun e => Res z e d a n ∧ Srt z le e a n) ?_ fun e _ he => ?_
      · have s1 := k7 a (by omega) da
        refine tot_ifb (fun q => ?_) fun q => ?_
        · simp only [decide_eq_true_eq] at q
          have s2 := k7 (a + bs) (by omega) (Int.dvd_add da (Int.dvd_refl _))
          rw [show min (a + bs) n = a + bs by omega] at s1
          rw [show min (a + bs + bs) n = n by omega] at s2
          refine tot_bind (symM_ok (z := z) hc bigN (l := d) (a := a) (m := a + bs) (b := n) k1 (by omega) (by omega) (by omega) (by omega) (perm_all k5.perm hP) s1 s2 (Nat.lt_of_le_of_lt (by omega) big)) fun e _ he => tot_some he
        · simp only [decide_eq_false_iff_not] at q
          rw [show min (a + bs) n = n by omega] at s1
          exact tot_some ⟨Res.refl _ _ _, s1⟩
      obtain ⟨e1, e2⟩ := he
      refine tot_some ⟨⟨by simp only; omega, by simp only; omega, (e1.wide k1 (by omega)).trans k5, fun x x1 x2 => ?_⟩, by simp only; omega⟩
      simp only at x2 ⊢
      rw [Int.mul_comm bs 2] at x2 ⊢
      by_cases c : x < a
      · have hx : x + 2 * bs ≤ a := by
          rcases Int.lt_or_le a (x + 2 * bs) with h | h
          · have := dvd_eq (x := a) (a := x) k4 x2 (by omega) h; omega
          · exact h
        rw [show min (x + 2 * bs) n = x + 2 * bs by omega]
        exact (k6 x x1 c x2).same x1 fun k y1 y2 => e1.same k (by omega) (.inl (by omega))
      · by_cases c2 : x < a + 2 * bs
        · have := dvd_eq x2 k4 (by omega) c2
          subst this
          intro u v hu huv hv
          exact e2 u v hu huv (by omega)
        · intro u v hu huv hv; omega
  · simp only [decide_eq_false_iff_not] at q
    refine tot_some ⟨g3, ?_⟩
    have := g4 0 (by omega) ⟨0, by simp⟩
    rwa [show min (0 + bs) n = n by omega] at this
theorem sortStable_ok (hc : CmpOk cmp P le) {l : List α} (h4 : l.length ≤ 1000000) (hP : ∀ x ∈ l, P x) : Tot (sortStable cmp l) fun d => d.Perm l ∧ d.Pairwise le := by
  unfold sortStable
  cases l with
  | nil =>
    have : stab cmp (([] : List α).length : Int) [] = some [] := by
      unfold stab
      rfl
    rw [this]
    exact tot_some ⟨.refl _, .nil⟩
  | cons x0 l =>
  refine tot_bind (stab_ok (z := x0) hc h4 hP) fun d _ hd => tot_some ⟨hd.1, ?_⟩
  refine List.pairwise_iff_getElem.2 fun i j hi hj hij => ?_
  have hl := hd.1.length_eq
  have := hd.2 i j (by omega) (by omega) (by omega)
  rwa [show at_ x0 d (i : Int) = d[i] from nth_get x0 hi, show at_ x0 d (j : Int) = d[j] from nth_get x0 hj] at this
end Hs
