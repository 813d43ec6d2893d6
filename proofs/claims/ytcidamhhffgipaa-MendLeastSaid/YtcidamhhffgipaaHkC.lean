/- The heap as the proofs see it: a frozen part, that only grows, and a list of things that are owned, apart from each other. -/
import Derived.Test.YtcidamhhffgipaaHkB
set_option linter.unusedVariables false
set_option linter.unusedSimpArgs false
namespace Hk
open Go

abbrev HP := Nat → Option Obj
abbrev Foot := Nat → Prop
def HP.le (f g : HP) : Prop := ∀ b o, f b = some o → g b = some o
theorem HP.le_refl (f : HP) : HP.le f f := fun _ _ h => h
theorem HP.le_trans {f g h : HP} (a : HP.le f g) (b : HP.le g h) : HP.le f h := fun x o e => b x o (a x o e)
def wh (w : World) : HP := fun b => w.heap[b]?
def hcell (f : HP) (a : Addr) : Option Value :=
  match f a.block with
  | some (.cells c _ _) => if a.spot.isSome then none else c[a.off]?
  | _ => none
theorem hcell_wh (w : World) (a : Addr) : hcell (wh w) a = w.cell? a := rfl
theorem hcell_le {f g : HP} (h : HP.le f g) {a : Addr} {v : Value} (e : hcell f a = some v) : hcell g a = some v := by
  unfold hcell at *
  cases hf : f a.block with
  | none => simp [hf] at e
  | some o => rw [h _ _ hf]; rw [hf] at e; exact e
theorem hcell_same {f g : HP} {a : Addr} (h : g a.block = f a.block) : hcell g a = hcell f a := by unfold hcell; rw [h]

/-- how a value of a Go type reads, in memory that stays -/
structure FRel (α : Type) where
  n : Nat
  p : HP → List Value → α → Prop
  len : ∀ {f cs x}, p f cs x → cs.length = n
  one : ∀ {f cs x}, p f cs x → ∀ v ∈ cs, v.oneCell' = true
  mono : ∀ {f g cs x}, HP.le f g → p f cs x → p g cs x
/-- .. and in memory that may still be written -/
structure ORel (α : Type) where
  fz : FRel α
  p : HP → HP → List Value → α → Foot → Prop
  len : ∀ {f h cs x S}, p f h cs x S → cs.length = fz.n
  one : ∀ {f h cs x S}, p f h cs x S → ∀ v ∈ cs, v.oneCell' = true
  loc : ∀ {f h g cs x S}, p f h cs x S → (∀ b, S b → g b = h b) → p f g cs x S
  mono : ∀ {f g h cs x S}, HP.le f g → p f h cs x S → p g h cs x S
  loc' : ∀ {f h cs x S S'}, p f h cs x S → (∀ b, S b → S' b) → p f h cs x S'
  freeze : ∀ {f h g cs x S}, p f h cs x S → HP.le f g → (∀ b, S b → g b = h b) → fz.p g cs x

def fInt (k : IntKind) : FRel Int := ⟨1, fun _ cs x => cs = [.int k x], fun h => by subst h; rfl, fun h => by subst h; simp [Value.oneCell'], fun _ h => h⟩
def fBool : FRel Bool := ⟨1, fun _ cs x => cs = [.bool x], fun h => by subst h; rfl, fun h => by subst h; simp [Value.oneCell'], fun _ h => h⟩
def fStr : FRel ByteArray := ⟨1, fun _ cs x => cs = [.string x], fun h => by subst h; rfl, fun h => by subst h; simp [Value.oneCell'], fun _ h => h⟩
def fPair {α β : Type} (A : FRel α) (B : FRel β) : FRel (α × β) :=
  ⟨A.n + B.n, fun f cs x => ∃ c1 c2, cs = c1 ++ c2 ∧ A.p f c1 x.1 ∧ B.p f c2 x.2,
   fun ⟨c1, c2, e, h1, h2⟩ => by subst e; rw [List.length_append, A.len h1, B.len h2],
   fun ⟨c1, c2, e, h1, h2⟩ v hv => by subst e; exact (List.mem_append.1 hv).elim (A.one h1 v) (B.one h2 v),
   fun hl ⟨c1, c2, e, h1, h2⟩ => ⟨c1, c2, e, A.mono hl h1, B.mono hl h2⟩⟩
def fMap {α β : Type} (g : β → α) (A : FRel α) : FRel β := ⟨A.n, fun f cs x => A.p f cs (g x), A.len, A.one, A.mono⟩
/-- a slice's elements, from its address on -/
structure SlF {α : Type} (f : HP) (E : FRel α) (A : Option Addr) (n c : Nat) (xs : List α) : Prop where
  len : n = xs.length
  le : xs.length ≤ c
  max : c ≤ maxLen
  get : ∀ i x, xs[i]? = some x → ∃ b o es, A = some ⟨b, o, none⟩ ∧ (∀ j v, es[j]? = some v → hcell f ⟨b, o + i * E.n + j, none⟩ = some v) ∧ E.p f es x
theorem SlF.mono {α : Type} {f g : HP} {E : FRel α} {A : Option Addr} {n c : Nat} {xs : List α} (h : SlF f E A n c xs) (hl : HP.le f g) : SlF g E A n c xs :=
  ⟨h.len, h.le, h.max, fun i x hx => by
    obtain ⟨b, o, es, e, hc, he⟩ := h.get i x hx
    exact ⟨b, o, es, e, fun j v hv => hcell_le hl (hc j v hv), E.mono hl he⟩⟩
theorem SlF.nil {α : Type} (f : HP) (E : FRel α) : SlF f E none 0 0 ([] : List α) := ⟨rfl, Nat.le_refl _, by simp [maxLen], fun i x h => by simp at h⟩
def fSl {α : Type} (E : FRel α) : FRel (List α) :=
  ⟨1, fun f cs xs => ∃ A n c, cs = [.slice A n c] ∧ SlF f E A n c xs, fun ⟨A, n, c, e, _⟩ => by subst e; rfl, fun ⟨A, n, c, e, _⟩ => by subst e; simp [Value.oneCell'], fun hl ⟨A, n, c, e, h⟩ => ⟨A, n, c, e, h.mono hl⟩⟩
/-- a pointer to a variable of its own -/
def fPtr {α : Type} (E : FRel α) : FRel α :=
  ⟨1, fun f cs x => ∃ b ds ty fr, cs = [.pointer (some ⟨b, 0, none⟩)] ∧ f b = some (.cells (List.toArray ds) ty fr) ∧ E.p f ds x, fun ⟨b, _, _, _, e, _⟩ => by subst e; rfl, fun ⟨b, _, _, _, e, _⟩ => by subst e; simp [Value.oneCell'],
   fun hl ⟨b, arr, ty, fr, e, h1, h2⟩ => ⟨b, arr, ty, fr, e, hl _ _ h1, E.mono hl h2⟩⟩

/-- .. that may be nil -/
def fOpt {α : Type} (E : FRel α) : FRel (Option α) :=
  ⟨1, fun f cs x => match x with | none => cs = [.pointer none] | some y => (fPtr E).p f cs y,
   fun {f cs x} h => by cases x with | none => subst h; rfl | some y => exact (fPtr E).len h,
   fun {f cs x} h => by cases x with | none => subst h; simp [Value.oneCell'] | some y => exact (fPtr E).one h,
   fun {f g cs x} hl h => by cases x with | none => exact h | some y => exact (fPtr E).mono hl h⟩

/-- read where it may not be written: what lies in the frozen part -/
def oF {α : Type} (E : FRel α) : ORel α :=
  ⟨E, fun f _ cs x _ => E.p f cs x, E.len, E.one, fun h _ => h, fun hl h => E.mono hl h, fun h _ => h, fun h hl _ => E.mono hl h⟩
def oMap {α β : Type} (g : β → α) (A : ORel α) : ORel β :=
  ⟨fMap g A.fz, fun f h cs x S => A.p f h cs (g x) S, A.len, A.one, A.loc, A.mono, A.loc', A.freeze⟩
def oPair {α β : Type} (A : ORel α) (B : ORel β) : ORel (α × β) :=
  ⟨fPair A.fz B.fz, fun f h cs x S => ∃ c1 c2 S1 S2, cs = c1 ++ c2 ∧ A.p f h c1 x.1 S1 ∧ B.p f h c2 x.2 S2 ∧ (∀ b, S1 b → S b) ∧ (∀ b, S2 b → S b) ∧ (∀ b, S1 b → ¬ S2 b),
   fun ⟨c1, c2, S1, S2, e, h1, h2, _⟩ => by subst e; rw [List.length_append, A.len h1, B.len h2]; rfl,
   fun ⟨c1, c2, S1, S2, e, h1, h2, _⟩ v hv => by subst e; exact (List.mem_append.1 hv).elim (A.one h1 v) (B.one h2 v),
   fun ⟨c1, c2, S1, S2, e, h1, h2, k1, k2, k3⟩ hs => ⟨c1, c2, S1, S2, e, A.loc h1 (fun b hb => hs b (k1 b hb)), B.loc h2 (fun b hb => hs b (k2 b hb)), k1, k2, k3⟩,
   fun hl ⟨c1, c2, S1, S2, e, h1, h2, k⟩ => ⟨c1, c2, S1, S2, e, A.mono hl h1, B.mono hl h2, k⟩,
   fun ⟨c1, c2, S1, S2, e, h1, h2, k1, k2, k3⟩ hs => ⟨c1, c2, S1, S2, e, h1, h2, fun b hb => hs b (k1 b hb), fun b hb => hs b (k2 b hb), k3⟩,
   fun ⟨c1, c2, S1, S2, e, h1, h2, k1, k2, k3⟩ hl hs => ⟨c1, c2, e, A.freeze h1 hl (fun b hb => hs b (k1 b hb)), B.freeze h2 hl (fun b hb => hs b (k2 b hb))⟩⟩
/-- a slice whose array is owned, with what its elements own -/
def SlO {α : Type} (f h : HP) (E : ORel α) (A : Option Addr) (c : Nat) (xs : List α) (S : Foot) : Prop :=
  xs.length ≤ c ∧ c ≤ maxLen ∧ (c = 0 ∨ ∃ b o cur ty, A = some ⟨b, o, none⟩ ∧ S b ∧ h b = some (.cells cur ty (0, 0)) ∧ o + c * E.fz.n ≤ cur.size ∧
    ∃ F : Nat → Foot, (∀ i b', F i b' → S b' ∧ b' ≠ b) ∧ (∀ i j b', i ≠ j → F i b' → ¬ F j b') ∧
      ∀ i x, xs[i]? = some x → ∃ es, (∀ j v, es[j]? = some v → cur[o + i * E.fz.n + j]? = some v) ∧ E.p f h es x (F i))
theorem SlO.freeze {α : Type} {f h g : HP} {E : ORel α} {A : Option Addr} {c : Nat} {xs : List α} {S : Foot} (hs : SlO f h E A c xs S) (hl : HP.le f g) (hg : ∀ b, S b → g b = h b) :
    SlF g E.fz A xs.length c xs := by
  obtain ⟨h1, h2, h3⟩ := hs
  refine ⟨rfl, h1, h2, fun i x hx => ?_⟩
  rcases h3 with rfl | ⟨b, o, cur, ty, rfl, hb, hc, _, F, k1, k2, k3⟩
  · have := (List.getElem?_eq_some_iff.1 hx).1; omega
  · obtain ⟨es, e1, e2⟩ := k3 i x hx
    refine ⟨b, o, es, rfl, fun j v hv => ?_, E.freeze e2 hl (fun b' hb' => hg b' (k1 i b' hb').1)⟩
    have := e1 j v hv
    simp only [hcell, hg b hb, hc]
    simpa using this
def oSl {α : Type} (E : ORel α) : ORel (List α) :=
  ⟨fSl E.fz, fun f h cs xs S => ∃ A c, cs = [.slice A xs.length c] ∧ SlO f h E A c xs S,
   fun ⟨A, c, e, _⟩ => by subst e; rfl,
   fun ⟨A, c, e, _⟩ => by subst e; simp [Value.oneCell'],
   fun ⟨A, c, e, h1, h2, h3⟩ hs => ⟨A, c, e, h1, h2, h3.imp id fun ⟨b, o, cur, ty, e, hb, hc, hz, F, k1, k2, k3⟩ =>
     ⟨b, o, cur, ty, e, hb, (hs b hb).trans hc, hz, F, k1, k2, fun i x hx => let ⟨es, e1, e2⟩ := k3 i x hx; ⟨es, e1, E.loc e2 (fun b' hb' => hs b' (k1 i b' hb').1)⟩⟩⟩,
   fun hl ⟨A, c, e, h1, h2, h3⟩ => ⟨A, c, e, h1, h2, h3.imp id fun ⟨b, o, cur, ty, e, hb, hc, hz, F, k1, k2, k3⟩ =>
     ⟨b, o, cur, ty, e, hb, hc, hz, F, k1, k2, fun i x hx => let ⟨es, e1, e2⟩ := k3 i x hx; ⟨es, e1, E.mono hl e2⟩⟩⟩,
   fun ⟨A, c, e, h1, h2, h3⟩ hs => ⟨A, c, e, h1, h2, h3.imp id fun ⟨b, o, cur, ty, e, hb, hc, hz, F, k1, k2, k3⟩ =>
     ⟨b, o, cur, ty, e, hs b hb, hc, hz, F, fun i b' hb' => ⟨hs b' (k1 i b' hb').1, (k1 i b' hb').2⟩, k2, k3⟩⟩,
   fun ⟨A, c, e, h⟩ hl hs => ⟨A, _, c, e, h.freeze hl hs⟩⟩
def oPtr {α : Type} (E : ORel α) : ORel α :=
  ⟨fPtr E.fz, fun f h cs x S => ∃ b arr ty S', cs = [.pointer (some ⟨b, 0, none⟩)] ∧ S b ∧ h b = some (.cells arr ty (0, 0)) ∧ E.p f h arr.toList x S' ∧ ∀ b', S' b' → S b' ∧ b' ≠ b,
   fun ⟨b, _, _, _, e, _⟩ => by subst e; rfl,
   fun ⟨b, _, _, _, e, _⟩ => by subst e; simp [Value.oneCell'],
   fun ⟨b, arr, ty, S', e, hb, h1, h2, h3⟩ hs => ⟨b, arr, ty, S', e, hb, (hs b hb).trans h1, E.loc h2 (fun b' hb' => hs b' (h3 b' hb').1), h3⟩,
   fun hl ⟨b, arr, ty, S', e, hb, h1, h2, h3⟩ => ⟨b, arr, ty, S', e, hb, h1, E.mono hl h2, h3⟩,
   fun ⟨b, arr, ty, S', e, hb, h1, h2, h3⟩ hs => ⟨b, arr, ty, S', e, hs b hb, h1, h2, fun b' hb' => ⟨hs b' (h3 b' hb').1, (h3 b' hb').2⟩⟩,
   fun ⟨b, arr, ty, S', e, hb, h1, h2, h3⟩ hl hs => ⟨b, arr.toList, ty, (0, 0), e, (hs b hb).trans h1, E.freeze h2 hl (fun b' hb' => hs b' (h3 b' hb').1)⟩⟩

/-! ### what is owned -/
structure HProp where
  p : HP → HP → Foot → Prop
  loc : ∀ {f h g S}, p f h S → (∀ b, S b → g b = h b) → p f g S
  mono : ∀ {f g h S}, HP.le f g → p f h S → p g h S
/-- a block, known -/
def Blk (b : Nat) (o : Obj) : HProp := ⟨fun _ h S => S b ∧ h b = some o, fun ⟨h1, h2⟩ hs => ⟨h1, (hs _ h1).trans h2⟩, fun _ h => h⟩
/-- a value, with what it owns -/
def Hv {α : Type} (cs : List Value) (R : ORel α) (x : α) : HProp := ⟨fun f h S => R.p f h cs x S, fun h hs => R.loc h hs, fun hl h => R.mono hl h⟩
/-- a block that holds such a value -/
def Pt {α : Type} (b : Nat) (ty : TypeId) (R : ORel α) (x : α) : HProp :=
  ⟨fun f h S => S b ∧ ∃ arr S', h b = some (.cells arr ty (0, 0)) ∧ R.p f h arr.toList x S' ∧ ∀ b', S' b' → S b' ∧ b' ≠ b,
   fun ⟨hb, arr, S', h1, h2, h3⟩ hs => ⟨hb, arr, S', (hs b hb).trans h1, R.loc h2 (fun b' hb' => hs b' (h3 b' hb').1), h3⟩,
   fun hl ⟨hb, arr, S', h1, h2, h3⟩ => ⟨hb, arr, S', h1, R.mono hl h2, h3⟩⟩

def SepL (f h : HP) : List HProp → Foot → Prop
  | [], _ => True
  | A :: L, av => ∃ S : Foot, A.p f h S ∧ (∀ b, S b → av b ∧ h b ≠ none) ∧ SepL f h L (fun b => av b ∧ ¬ S b)
/-- the world: as 'G' outside the heap; 'f' lies in it; beside it, apart, what 'L' says -/
structure Wd (G w : World) (f : HP) (L : List HProp) : Prop where
  os : w.os = G.os
  tape : w.tape = G.tape
  output : w.output = G.output
  fro : HP.le f (wh w)
  sep : SepL f (wh w) L (fun b => f b = none)

theorem SepL.weaken {f h : HP} : ∀ {L : List HProp} {av av' : Foot}, (∀ b, av b → av' b) → SepL f h L av → SepL f h L av'
  | [], _, _, _, _ => trivial
  | A :: L, av, av', hav, ⟨S, h1, h2, h3⟩ => ⟨S, h1, fun b hb => ⟨hav b (h2 b hb).1, (h2 b hb).2⟩, SepL.weaken (fun b hb => ⟨hav b hb.1, hb.2⟩) h3⟩
theorem SepL.swap {f h : HP} {A B : HProp} {L : List HProp} {av : Foot} : SepL f h (A :: B :: L) av → SepL f h (B :: A :: L) av :=
  fun ⟨S, h1, h2, T, k1, k2, k3⟩ => ⟨T, k1, fun b hb => ⟨(k2 b hb).1.1, (k2 b hb).2⟩, S, h1, fun b hb => ⟨⟨(h2 b hb).1, fun ht => (k2 b ht).1.2 hb⟩, (h2 b hb).2⟩,
    SepL.weaken (fun b hb => ⟨⟨hb.1.1, hb.2⟩, hb.1.2⟩) k3⟩
theorem SepL.cons {f h : HP} {A : HProp} {L L' : List HProp} (hLL : ∀ av, SepL f h L av → SepL f h L' av) {av : Foot} : SepL f h (A :: L) av → SepL f h (A :: L') av :=
  fun ⟨S, h1, h2, h3⟩ => ⟨S, h1, h2, hLL _ h3⟩
theorem SepL.monoF {f g h : HP} (hl : HP.le f g) : ∀ {L : List HProp} {av : Foot}, SepL f h L av → SepL g h L av
  | [], _, _ => trivial
  | A :: L, av, ⟨S, h1, h2, h3⟩ => ⟨S, A.mono hl h1, h2, SepL.monoF hl h3⟩
/-- the i-th comes to the front -/
theorem SepL.front {f h : HP} : ∀ (i : Nat) {L : List HProp} {A : HProp}, L[i]? = some A → ∀ {av : Foot}, SepL f h L av → SepL f h (A :: L.eraseIdx i) av
  | _, [], _, hi, _, _ => by simp at hi
  | 0, B :: L, A, hi, _, hs => by simp at hi; subst hi; exact hs
  | i + 1, B :: L, A, hi, _, hs => by
    have hi' : L[i]? = some A := by simpa using hi
    have := SepL.cons (A := B) (fun av' hs' => SepL.front i hi' (av := av') hs') hs
    simpa using SepL.swap this
theorem SepL.back {f h : HP} : ∀ (i : Nat) {L : List HProp} {A : HProp}, i ≤ L.length → ∀ {av : Foot}, SepL f h (A :: L) av → SepL f h (L.insertIdx i A) av
  | 0, L, A, _, _, hs => by simpa using hs
  | i + 1, [], A, hi, _, _ => by simp at hi
  | i + 1, B :: L, A, hi, _, hs => by
    have := SepL.cons (A := B) (fun av' hs' => SepL.back i (by simpa using hi) (av := av') hs') (SepL.swap hs)
    simpa using this

section
variable {G w w' : World} {f : HP} {L : List HProp}
theorem Wd.front (i : Nat) {A : HProp} (hi : L[i]? = some A) (h : Wd G w f L) : Wd G w f (A :: L.eraseIdx i) := ⟨h.os, h.tape, h.output, h.fro, h.sep.front i hi⟩
theorem Wd.swap {A B : HProp} (h : Wd G w f (A :: B :: L)) : Wd G w f (B :: A :: L) := ⟨h.os, h.tape, h.output, h.fro, h.sep.swap⟩
theorem Wd.drop1 {A : HProp} (h : Wd G w f (A :: L)) : Wd G w f L := ⟨h.os, h.tape, h.output, h.fro, let ⟨_, _, _, h3⟩ := h.sep; SepL.weaken (fun _ hb => hb.1) h3⟩
theorem Wd.drew (h : Wd G w f L) : Wd G { w with drawn := w.drawn + 1 } f L := ⟨h.os, h.tape, h.output, h.fro, h.sep⟩
/-- others stay as they are where one changes only what it owns, or what is new -/
theorem SepL.keep {f h h' : HP} : ∀ {L : List HProp} {av : Foot}, SepL f h L av → (∀ b, av b → h b ≠ none → h' b = h b) → SepL f h' L av
  | [], _, _, _ => trivial
  | A :: L, av, ⟨S, h1, h2, h3⟩, hk => by
    refine ⟨S, A.loc h1 (fun b hb => hk b (h2 b hb).1 (h2 b hb).2), fun b hb => ⟨(h2 b hb).1, ?_⟩, SepL.keep h3 (fun b hb hn => hk b hb.1 hn)⟩
    rw [hk b (h2 b hb).1 (h2 b hb).2]; exact (h2 b hb).2
theorem SepL.keep' {f h h' : HP} : ∀ {L : List HProp} {av av' : Foot}, SepL f h L av → (∀ b, av b → h b ≠ none → h' b = h b) → (∀ b, av b → h b ≠ none → av' b) → SepL f h' L av'
  | [], _, _, _, _, _ => trivial
  | A :: L, av, av', ⟨S, h1, h2, h3⟩, hk, ha => by
    refine ⟨S, A.loc h1 (fun b hb => hk b (h2 b hb).1 (h2 b hb).2), fun b hb => ⟨ha b (h2 b hb).1 (h2 b hb).2, ?_⟩,
      SepL.keep' h3 (fun b hb hn => hk b hb.1 hn) (fun b hb hn => ⟨ha b hb.1 hn, hb.2⟩)⟩
    rw [hk b (h2 b hb).1 (h2 b hb).2]; exact (h2 b hb).2
/-- the first changes, and takes what is new -/
theorem Wd.step0 {A A' : HProp} (h : Wd G w f (A :: L)) (hos : w'.os = w.os) (htape : w'.tape = w.tape) (hout : w'.output = w.output)
    (hst : ∀ S, A.p f (wh w) S → (∀ b, S b → wh w b ≠ none) → ∃ S' : Foot, A'.p f (wh w') S' ∧ (∀ b, S' b → (S b ∨ wh w b = none) ∧ wh w' b ≠ none) ∧ ∀ b, ¬ S b → wh w b ≠ none → wh w' b = wh w b) :
    Wd G w' f (A' :: L) := by
  obtain ⟨S, h1, h2, h3⟩ := h.sep
  obtain ⟨S', k1, k2, k3⟩ := hst S h1 (fun b hb => (h2 b hb).2)
  have hff : ∀ b o, f b = some o → ¬ S b := fun b o hf hS => by have := (h2 b hS).1; simp only at this; rw [hf] at this; cases this
  refine ⟨hos.trans h.os, htape.trans h.tape, hout.trans h.output, fun b o hf => ?_, S', k1, fun b hb => ⟨?_, (k2 b hb).2⟩, ?_⟩
  · have := h.fro b o hf
    rw [k3 b (hff b o hf) (by rw [this]; simp)]; exact this
  · rcases (k2 b hb).1 with hS | hn
    · exact (h2 b hS).1
    · cases hf : f b with
      | none => rfl
      | some o => have := h.fro b o hf; rw [hn] at this; cases this
  · refine SepL.keep' h3 (fun b hb hn => k3 b hb.2 hn) (fun b hb hn => ⟨hb.1, fun hS' => ?_⟩)
    rcases (k2 b hS').1 with hS | hn'
    · exact hb.2 hS
    · exact hn hn'
end
end Hk
