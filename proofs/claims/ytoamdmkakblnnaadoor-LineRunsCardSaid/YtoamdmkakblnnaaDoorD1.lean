/- Types of data, cells and states as the walk describes them: the words of a run over plain values. -/
import Derived.Test.YtoamdmkakblnnaaDoorK4
set_option linter.unusedVariables false
set_option linter.unusedSimpArgs false
namespace Hd
open Go Hk
inductive Ty where
  | int (k : IntKind) | bool | str | sl (e : Ty) | nsl (e : Ty) | opt (e : Ty) | ap (e : Ty) | st (i : Nat)
  | kv (k v : Ty)
def Ty.eqb : Ty → Ty → Bool
  | .int k, .int k' => decide (k = k')
  | .bool, .bool => true
  | .str, .str => true
  | .sl e, .sl e' => e.eqb e'
  | .nsl e, .nsl e' => e.eqb e'
  | .opt e, .opt e' => e.eqb e'
  | .ap e, .ap e' => e.eqb e'
  | .st i, .st j => Nat.beq i j
  | .kv k v, .kv k' v' => k.eqb k' && v.eqb v'
  | _, _ => false
theorem Ty.eqb_eq : ∀ {a b : Ty}, a.eqb b = true → a = b
  | .int k, .int k', h => by simp only [eqb, decide_eq_true_eq] at h; rw [h]
  | .bool, .bool, _ => rfl
  | .str, .str, _ => rfl
  | .sl e, .sl e', h => by rw [Ty.eqb_eq (a := e) (b := e') h]
  | .nsl e, .nsl e', h => by rw [Ty.eqb_eq (a := e) (b := e') h]
  | .opt e, .opt e', h => by rw [Ty.eqb_eq (a := e) (b := e') h]
  | .ap e, .ap e', h => by rw [Ty.eqb_eq (a := e) (b := e') h]
  | .st i, .st j, h => by rw [Nat.eq_of_beq_eq_true h]
  | .kv k v, .kv k' v', h => by
    simp only [eqb, Bool.and_eq_true] at h
    rw [Ty.eqb_eq h.1, Ty.eqb_eq h.2]
def den (T : Nat → Type) : Ty → Type
  | .int _ => Int
  | .bool => Bool
  | .str => ByteArray
  | .sl e => List (den T e)
  | .nsl e => Option (List (den T e))
  | .opt e => Option (den T e)
  | .ap e => Option (List (den T e))
  | .st i => T i
  | .kv k v => List (den T k × den T v)
def Tup (T : Nat → Type) : List Ty → Type
  | [] => Unit
  | [t] => den T t
  | t :: u :: l => den T t × Tup T (u :: l)
def HL (T : Nat → Type) : List Ty → Type
  | [] => Unit
  | t :: l => den T t × HL T l
def toHL {T : Nat → Type} : (l : List Ty) → Tup T l → HL T l
  | [], _ => ()
  | [_], x => (x, ())
  | _ :: u :: l, p => (p.1, toHL (u :: l) p.2)
def ofHL {T : Nat → Type} : (l : List Ty) → HL T l → Tup T l
  | [], _ => ()
  | [_], p => p.1
  | _ :: u :: l, p => (p.1, ofHL (u :: l) p.2)
theorem toHL_ofHL {T : Nat → Type} : ∀ (l : List Ty) (p : HL T l), toHL l (ofHL l p) = p
  | [], _ => rfl
  | [_], (_, _) => rfl
  | _ :: u :: l, (a, b) => by
    show (a, toHL (u :: l) (ofHL (u :: l) b)) = (a, b)
    rw [toHL_ofHL (u :: l) b]
def HL.fst {T : Nat → Type} : (l m : List Ty) → HL T (l ++ m) → HL T l
  | [], _, _ => ()
  | _ :: l, m, p => (p.1, HL.fst l m p.2)
def HL.snd {T : Nat → Type} : (l m : List Ty) → HL T (l ++ m) → HL T m
  | [], _, p => p
  | _ :: l, m, p => HL.snd l m p.2
def HL.app {T : Nat → Type} : (l m : List Ty) → HL T l → HL T m → HL T (l ++ m)
  | [], _, _, q => q
  | _ :: l, m, p, q => (p.1, HL.app l m p.2 q)
theorem HL.fst_app {T : Nat → Type} : ∀ (l m : List Ty) (p : HL T l) (q : HL T m), HL.fst l m (HL.app l m p q) = p
  | [], _, _, _ => rfl
  | _ :: l, m, (a, p), q => by
    show (a, HL.fst l m (HL.app l m p q)) = (a, p)
    rw [HL.fst_app l m p q]
theorem HL.snd_app {T : Nat → Type} : ∀ (l m : List Ty) (p : HL T l) (q : HL T m), HL.snd l m (HL.app l m p q) = q
  | [], _, _, _ => rfl
  | _ :: l, m, (a, p), q => HL.snd_app l m p q
def fUnit : FRel Unit := ⟨0, fun _ cs _ => cs = [], fun h => by subst h; rfl, fun h => by subst h; simp, fun _ h => h⟩
def fNsl {α : Type} (E : FRel α) : FRel (Option (List α)) :=
  ⟨1, fun f cs x => match x with | none => ∃ c, cs = [.slice none 0 c] ∧ c ≤ maxLen | some xs => ∃ a n c, cs = [.slice (some a) n c] ∧ SlF f E (some a) n c xs,
   fun {f cs x} h => by cases x with | none => obtain ⟨c, e, _⟩ := h; subst e; rfl | some y => obtain ⟨a, n, c, e, _⟩ := h; subst e; rfl,
   fun {f cs x} h => by cases x with | none => obtain ⟨c, e, _⟩ := h; subst e; simp [Value.oneCell'] | some y => obtain ⟨a, n, c, e, _⟩ := h; subst e; simp [Value.oneCell'],
   fun {f g cs x} hl h => by cases x with | none => exact h | some y => obtain ⟨a, n, c, e, h⟩ := h; exact ⟨a, n, c, e, h.mono hl⟩⟩
theorem slF_none {α : Type} {E : FRel α} {f : HP} {n c : Nat} {xs : List α} (h : SlF f E none n c xs) : n = 0 ∧ xs = [] ∧ c ≤ maxLen := by
  have : xs = [] := by
    cases xs with
    | nil => rfl
    | cons x l => obtain ⟨b, o, es, e, _⟩ := h.get 0 x rfl; cases e
  subst this
  exact ⟨h.len, rfl, h.max⟩
theorem slF_nilc {α : Type} (f : HP) (E : FRel α) {c : Nat} (h : c ≤ maxLen) : SlF f E none 0 c ([] : List α) := ⟨rfl, Nat.zero_le _, h, fun i x h => by simp at h⟩
theorem relAll_len {α : Type} {E : FRel α} {f : HP} : ∀ {ess : List (List Value)} {xs : List α}, RelAll E f ess xs → ess.flatten.length = xs.length * E.n
  | [], [], _ => by simp
  | es :: l, x :: xs, ⟨h1, h2⟩ => by
    simp only [List.flatten_cons, List.length_append, List.length_cons, relAll_len h2, E.len h1, Nat.add_mul, Nat.one_mul]
    omega
  | [], _ :: _, h => h.elim
  | _ :: _, [], h => h.elim
theorem relAll_one {α : Type} {E : FRel α} {f : HP} : ∀ {ess : List (List Value)} {xs : List α}, RelAll E f ess xs → ∀ v ∈ ess.flatten, v.oneCell' = true
  | [], [], _ => by simp
  | es :: l, x :: xs, ⟨h1, h2⟩ => fun v hv => by
    simp only [List.flatten_cons, List.mem_append] at hv
    exact hv.elim (E.one h1 v) (relAll_one h2 v)
  | [], _ :: _, h => h.elim
  | _ :: _, [], h => h.elim
theorem relAll_mono {α : Type} {E : FRel α} {f g : HP} (hl : HP.le f g) : ∀ {ess : List (List Value)} {xs : List α}, RelAll E f ess xs → RelAll E g ess xs
  | [], [], _ => trivial
  | es :: l, x :: xs, ⟨h1, h2⟩ => ⟨E.mono hl h1, relAll_mono hl h2⟩
  | [], _ :: _, h => h.elim
  | _ :: _, [], h => h.elim
def fArr {α : Type} (n : Nat) (E : FRel α) : FRel (List α) :=
  ⟨n * E.n, fun f cs xs => xs.length = n ∧ ∃ ess, cs = ess.flatten ∧ RelAll E f ess xs,
   fun ⟨h1, ess, e, h2⟩ => by subst e; rw [relAll_len h2, h1],
   fun ⟨h1, ess, e, h2⟩ => by subst e; exact relAll_one h2,
   fun hl ⟨h1, ess, e, h2⟩ => ⟨h1, ess, e, relAll_mono hl h2⟩⟩
def fAp {α : Type} (E : FRel α) : FRel (Option (List α)) :=
  ⟨1, fun f cs x => match x with | none => cs = [.pointer none] | some xs => ∃ b o, cs = [.pointer (some ⟨b, o, none⟩)] ∧ SlF f E (some ⟨b, o, none⟩) xs.length xs.length xs,
   fun {f cs x} h => by cases x with | none => rw [h]; rfl | some y => obtain ⟨b, o, e, _⟩ := h; subst e; rfl,
   fun {f cs x} h => by cases x with | none => rw [h]; simp [Value.oneCell'] | some y => obtain ⟨b, o, e, _⟩ := h; subst e; simp [Value.oneCell'],
   fun {f g cs x} hl h => by cases x with | none => exact h | some y => obtain ⟨b, o, e, h⟩ := h; exact ⟨b, o, e, h.mono hl⟩⟩
def fNone {α : Type} : FRel α := ⟨1, fun _ _ _ => False, fun h => h.elim, fun h => h.elim, fun _ h => h.elim⟩
def rel {T : Nat → Type} (R : ∀ i, FRel (T i)) : (t : Ty) → FRel (den T t)
  | .int k => fInt k
  | .bool => fBool
  | .str => fStr
  | .sl e => fSl (rel R e)
  | .nsl e => fNsl (rel R e)
  | .opt e => fOpt (rel R e)
  | .ap e => fAp (rel R e)
  | .st i => R i
  | .kv _ _ => fNone
def fTup {T : Nat → Type} (R : ∀ i, FRel (T i)) : (l : List Ty) → FRel (Tup T l)
  | [] => fUnit
  | [t] => rel R t
  | t :: u :: l => fPair (rel R t) (fTup R (u :: l))
structure Tab where
  T : Nat → Type
  R : ∀ i, FRel (T i)
  fs : Nat → List Ty
  to : ∀ i, T i → Tup T (fs i)
  mks : ∀ i, Tup T (fs i) → T i
  ok : ∀ i f cs x, (R i).p f cs x ↔ (fTup R (fs i)).p f cs (to i x)
  tomk : ∀ i h, to i (mks i h) = h
  glob : HP → Prop
  gmono : ∀ f g, HP.le f g → glob f → glob g
inductive Cel (B : Tab) : Type where
  | int (k : IntKind) (n : Int)
  | ilen (m : Nat)
  | bool (b : Bool)
  | str (s : ByteArray)
  | sl (e : Ty) (xs : List (den B.T e))
  | nsl (e : Ty) (x : Option (List (den B.T e)))
  | opt (e : Ty) (x : Option (den B.T e))
  | ap (e : Ty) (x : Option (List (den B.T e)))
  | pf (e : Ty) (xs : List (den B.T e)) (off : Int)
  | pa (i : Nat) (off : Int)
  | nils | nilp | nilf | nilm
  | mpr (i : Nat)
  | ob (i : Nat) (b : Bool)
  | own (i : Nat)
  | ptr (i off : Nat)
  | fpt (e : Ty) (x : den B.T e)
  | fel (e : Ty) (x : den B.T e) (off : Nat)
  | oel (a : Nat) (e : Ty) (i : Int) (x : den B.T e) (off : Nat) (s : Nat)
  | gop (g : Nat) (e : Ty) (i : Int)
  | grow (g : Nat) (e : Ty) (i : Int) (h : Nat)
  | gel (g : Nat) (e : Ty) (i j : Int) (x : den B.T e) (off s h : Nat)
  | vw (a : Nat) (e : Ty) (l h : Int)
  | pw (a : Nat) (e : Ty) (l h : Int)
  | fn0 (fid : Nat)
  | yl (i : Nat)
  | fn (fid cid n : Nat)
  | slk (c n : Nat)
  | und
inductive DV (B : Tab) : Type where
  | one (c : Cel B)
  | agg (l : List (Cel B))
  | tup (l : List (Bool × List (Cel B)))
  | lst (e : Ty) (xs : List (den B.T e))
  | pas
inductive Loc where
  | s (t : Nat) | c (i j : Nat) | a (i : Nat) | b (i : Nat) | k (i j : Nat)
def Loc.beq : Loc → Loc → Bool
  | .s t, .s t' => Nat.beq t t'
  | .c i j, .c i' j' => Nat.beq i i' && Nat.beq j j'
  | .a i, .a i' => Nat.beq i i'
  | .b i, .b i' => Nat.beq i i'
  | .k i j, .k i' j' => Nat.beq i i' && Nat.beq j j'
  | _, _ => false
theorem Loc.beq_iff {a b : Loc} : a.beq b = true ↔ a = b := by
  cases a <;> cases b <;> simp [Loc.beq]
theorem Loc.beq_self (a : Loc) : a.beq a = true := Loc.beq_iff.2 rfl
theorem Loc.beq_ne {a b : Loc} (h : a ≠ b) : a.beq b = false := by
  cases hb : a.beq b
  · rfl
  · exact absurd (Loc.beq_iff.1 hb) h
inductive Con (B : Tab) : Type where
  | v (d : DV B)
  | c (c : Cel B)
  | arr (e : Ty) (xs : List (den B.T e)) (s nn : Nat)
  | fz (e : Ty) (xs : List (den B.T e)) (nn : Nat)
  | grid (e : Ty) (rows : List (List (den B.T e))) (s h : Nat) (hole : Option Int) (nn : Nat)
  | mp (k v : Ty) (m : List (den B.T k × den B.T v))
  | mph (k e : Ty) (m : List (den B.T k × List (den B.T e))) (key : den B.T k) (pd : Option Nat)
  | blk (ty n : Nat)
  | fzb (e : Ty) (x : den B.T e)
  | gone
abbrev Mem (B : Tab) := List (Loc × Con B)
def look {B : Tab} : Mem B → Loc → Option (Con B)
  | [], _ => none
  | (l, c) :: r, l' => cond (l.beq l') (some c) (look r l')
inductive EH where
  | arr (e : Ty)
  | grid (e : Ty)
  | mp (k v : Ty)
  | blk (ty n : Nat)
inductive Real (B : Tab) where
  | hdr (A : Option Addr) (n c : Nat)
  | blk (b : Nat)
  | clo (vals : List Value)
  | con (e : Ty) (xs : List (den B.T e))
  | hdrs (hs : List Hdr)
  | mob (r : Nat)
abbrev Rz (B : Tab) := Nat → Option (Real B)
section
variable {B : Tab}
abbrev relB (B : Tab) (t : Ty) : FRel (den B.T t) := rel B.R t
def CRel (f : HP) (σ : Rz B) : Cel B → Value → Prop
  | .int k n, v => v = .int k n
  | .ilen m, v => v = .int .i64 (m : Int) ∧ m ≤ maxLen
  | .bool b, v => v = .bool b
  | .str s, v => v = .string s
  | .sl e xs, v => ∃ A n c, v = .slice A n c ∧ SlF f (relB B e) A n c xs
  | .nsl e x, v => (fNsl (relB B e)).p f [v] x
  | .opt e x, v => (fOpt (relB B e)).p f [v] x
  | .ap e x, v => (fAp (relB B e)).p f [v] x
  | .pf e xs off, v => ∃ b o, v = .pointer (some ⟨b, o + off.toNat, none⟩) ∧ 0 ≤ off ∧ SlF f (relB B e) (some ⟨b, o, none⟩) xs.length xs.length xs
  | .pa i off, v => ∃ b o n c, σ i = some (.hdr (some ⟨b, o, none⟩) n c) ∧ v = .pointer (some ⟨b, o + off.toNat, none⟩) ∧ 0 ≤ off
  | .nils, v => v = .slice none 0 0
  | .nilp, v => v = .pointer none
  | .nilf, v => v = .nilFunc
  | .nilm, v => v = .map none
  | .mpr i, v => ∃ r, σ i = some (.mob r) ∧ v = .map (some r)
  | .ob i b, v => ∃ A n c, σ i = some (.hdr A n c) ∧ v = .slice A n c ∧ A.isNone = b
  | .own i, v => ∃ A n c, σ i = some (.hdr A n c) ∧ v = .slice A n c
  | .ptr i off, v => ∃ b, σ i = some (.blk b) ∧ v = .pointer (some ⟨b, off, none⟩)
  | .fpt e x, v => ∃ b ds ty fr, v = .pointer (some ⟨b, 0, none⟩) ∧ f b = some (.cells (List.toArray ds) ty fr) ∧ (relB B e).p f ds x
  | .fel e x off, v => ∃ b o ds, v = .pointer (some ⟨b, o + off, none⟩) ∧ (∀ j u, ds[j]? = some u → hcell f ⟨b, o + j, none⟩ = some u) ∧ (relB B e).p f ds x
  | .oel a e i x off s, v => ∃ b o n c xs, σ a = some (.hdr (some ⟨b, o, none⟩) n c) ∧ v = .pointer (some ⟨b, o + i.toNat * (relB B e).n + off, none⟩) ∧ σ s = some (.con e xs) ∧ idx xs i = some x
  | .gop g e i, v => ∃ b o n c, σ g = some (.hdr (some ⟨b, o, none⟩) n c) ∧ v = .pointer (some ⟨b, o + i.toNat * 1, none⟩)
  | .grow g e i h, v => (∃ r, σ g = some r) ∧ ∃ hs hd, σ h = some (.hdrs hs) ∧ hs[i.toNat]? = some hd ∧ v = .slice hd.1 hd.2.1 hd.2.2
  | .gel g e i j x off s h, v => (∃ r, σ g = some r) ∧ ∃ (hs : List Hdr) (b o m q : Nat) (rows : List (List (den B.T e))) (row : List (den B.T e)), σ h = some (.hdrs hs) ∧ hs[i.toNat]? = some (some ⟨b, o, none⟩, m, q) ∧ v = .pointer (some ⟨b, o + j.toNat * (relB B e).n + off, none⟩) ∧
      σ s = some (.con (.sl e) rows) ∧ idx rows i = some row ∧ idx row j = some x
  | .vw a e l h, v => ∃ A n c, σ a = some (.hdr A n c) ∧ v = .slice (cutA A (relB B e).n l.toNat c) (h.toNat - l.toNat) (c - l.toNat)
  | .pw a e l h, v => ∃ b o n c, σ a = some (.hdr (some ⟨b, o, none⟩) n c) ∧ v = .slice (cutA (some ⟨b, o, none⟩) (relB B e).n l.toNat n) (h.toNat - l.toNat) (n - l.toNat)
  | .fn0 fid, v => v = .func (.func fid) #[] #[]
  | .yl i, v => ∃ l, σ i = some (.clo [.func (.yield l) #[] #[]]) ∧ v = .func (.yield l) #[] #[]
  | .slk c m, v => ∃ b vals ty fr, σ c = some (.clo vals) ∧ vals.length = m ∧ v = .slice (some ⟨b, 0, none⟩) m m ∧ f b = some (.cells (List.toArray vals) ty fr)
  | .fn fid cid m, v => ∃ vals, σ cid = some (.clo vals) ∧ vals.length = m ∧ v = .func (.func fid) #[] vals.toArray
  | .und, _ => True
def CRels (f : HP) (σ : Rz B) : List (Cel B) → List Value → Prop
  | [], [] => True
  | c :: cs, v :: vs => CRel f σ c v ∧ CRels f σ cs vs
  | _, _ => False
def TRels (f : HP) (σ : Rz B) : List (Bool × List (Cel B)) → List Value → Prop
  | [], [] => True
  | (g, cs) :: r, v :: vs => (∃ us, CRels f σ cs us ∧ v = cond g (.agg us.toArray) (us.headD undef) ∧ (g = false → us.length = 1)) ∧ TRels f σ r vs
  | _, _ => False
def DRel (f : HP) (σ : Rz B) : DV B → Value → Prop
  | .one c, v => CRel f σ c v
  | .agg l, v => ∃ vs, v = .agg vs.toArray ∧ CRels f σ l vs
  | .tup l, v => ∃ vs, v = .tuple vs.toArray ∧ TRels f σ l vs
  | .lst e xs, v => ∃ vs, v = .agg vs.toArray ∧ (fArr xs.length (relB B e)).p f vs xs
  | .pas, v => v = undef
def Rz.le (σ τ : Rz B) : Prop := ∀ i r, σ i = some r → τ i = some r
theorem Rz.le_refl (σ : Rz B) : Rz.le σ σ := fun _ _ h => h
theorem Rz.le_trans {σ τ υ : Rz B} (a : Rz.le σ τ) (b : Rz.le τ υ) : Rz.le σ υ := fun i r h => b i r (a i r h)
theorem CRel.mono {f g : HP} {σ τ : Rz B} (hl : HP.le f g) (hs : Rz.le σ τ) {c : Cel B} {v : Value} (h : CRel f σ c v) : CRel g τ c v := by
  cases c with
  | int k n => exact h
  | ilen m => exact h
  | bool b => exact h
  | str s => exact h
  | sl e xs => obtain ⟨A, n, c, e1, h⟩ := h; exact ⟨A, n, c, e1, h.mono hl⟩
  | nsl e x => exact (fNsl (relB B e)).mono hl h
  | opt e x => exact (fOpt (relB B e)).mono hl h
  | ap e x => exact (fAp (relB B e)).mono hl h
  | pf e xs off => obtain ⟨b, o, e1, h1, h2⟩ := h; exact ⟨b, o, e1, h1, h2.mono hl⟩
  | pa i off => obtain ⟨b, o, n, c, h1, h2⟩ := h; exact ⟨b, o, n, c, hs _ _ h1, h2⟩
  | nils => exact h
  | nilp => exact h
  | nilf => exact h
  | nilm => exact h
  | mpr i => obtain ⟨r, h1, h2⟩ := h; exact ⟨r, hs _ _ h1, h2⟩
  | ob i b => obtain ⟨A, n, c, h1, h2⟩ := h; exact ⟨A, n, c, hs _ _ h1, h2⟩
  | own i => obtain ⟨A, n, c, h1, h2⟩ := h; exact ⟨A, n, c, hs _ _ h1, h2⟩
  | ptr i off => obtain ⟨b, h1, h2⟩ := h; exact ⟨b, hs _ _ h1, h2⟩
  | fpt e x => obtain ⟨b, ds, ty, fr, e1, h1, h2⟩ := h; exact ⟨b, ds, ty, fr, e1, hl _ _ h1, (relB B e).mono hl h2⟩
  | fel e x off => obtain ⟨b, o, ds, e1, h1, h2⟩ := h; exact ⟨b, o, ds, e1, fun j u hj => hcell_le hl (h1 j u hj), (relB B e).mono hl h2⟩
  | oel a e i x off s => obtain ⟨b, o, n, c, xs, h1, h2, h3, h4⟩ := h; exact ⟨b, o, n, c, xs, hs _ _ h1, h2, hs _ _ h3, h4⟩
  | gop g e i => obtain ⟨b, o, n, c, h1, h2⟩ := h; exact ⟨b, o, n, c, hs _ _ h1, h2⟩
  | grow g e i k => obtain ⟨⟨r, h0⟩, l, hd, h1, h2⟩ := h; exact ⟨⟨r, hs _ _ h0⟩, l, hd, hs _ _ h1, h2⟩
  | gel g e i j x off s k => obtain ⟨⟨r, h0⟩, l, b, o, m, q, rows, row, h1, h2, h3, h4, h5⟩ := h; exact ⟨⟨r, hs _ _ h0⟩, l, b, o, m, q, rows, row, hs _ _ h1, h2, h3, hs _ _ h4, h5⟩
  | vw a e l k => obtain ⟨A, n, c, h1, h2⟩ := h; exact ⟨A, n, c, hs _ _ h1, h2⟩
  | pw a e l k => obtain ⟨b, o, n, c, h1, h2⟩ := h; exact ⟨b, o, n, c, hs _ _ h1, h2⟩
  | fn0 fid => exact h
  | yl i => obtain ⟨l, e1, e2⟩ := h; exact ⟨l, hs _ _ e1, e2⟩
  | fn fid cid m => obtain ⟨vals, h1, h2⟩ := h; exact ⟨vals, hs _ _ h1, h2⟩
  | slk c m => obtain ⟨b, vals, ty, fr, h1, h2, h3, h4⟩ := h; exact ⟨b, vals, ty, fr, hs _ _ h1, h2, h3, hl _ _ h4⟩
  | und => trivial
theorem CRels.mono {f g : HP} {σ τ : Rz B} (hl : HP.le f g) (hs : Rz.le σ τ) : ∀ {cs : List (Cel B)} {vs : List Value}, CRels f σ cs vs → CRels g τ cs vs
  | [], [], _ => trivial
  | _ :: _, _ :: _, ⟨h1, h2⟩ => ⟨h1.mono hl hs, CRels.mono hl hs h2⟩
  | [], _ :: _, h => h.elim
  | _ :: _, [], h => h.elim
theorem TRels.mono {f g : HP} {σ τ : Rz B} (hl : HP.le f g) (hs : Rz.le σ τ) : ∀ {l : List (Bool × List (Cel B))} {vs : List Value}, TRels f σ l vs → TRels g τ l vs
  | [], [], _ => trivial
  | (_, _) :: _, _ :: _, ⟨⟨us, h1, h3⟩, h2⟩ => ⟨⟨us, h1.mono hl hs, h3⟩, TRels.mono hl hs h2⟩
  | [], _ :: _, h => h.elim
  | _ :: _, [], h => h.elim
theorem DRel.mono {f g : HP} {σ τ : Rz B} (hl : HP.le f g) (hs : Rz.le σ τ) {d : DV B} {v : Value} (h : DRel f σ d v) : DRel g τ d v := by
  cases d with
  | one c => exact CRel.mono hl hs h
  | agg l => obtain ⟨vs, e, h⟩ := h; exact ⟨vs, e, h.mono hl hs⟩
  | tup l => obtain ⟨vs, e, h⟩ := h; exact ⟨vs, e, h.mono hl hs⟩
  | lst e xs => obtain ⟨vs, e1, h⟩ := h; exact ⟨vs, e1, (fArr xs.length (relB B e)).mono hl h⟩
  | pas => exact h
theorem CRels.len {f : HP} {σ : Rz B} : ∀ {cs : List (Cel B)} {vs : List Value}, CRels f σ cs vs → vs.length = cs.length
  | [], [], _ => rfl
  | _ :: _, _ :: _, ⟨_, h2⟩ => by simp [CRels.len h2]
  | [], _ :: _, h => h.elim
  | _ :: _, [], h => h.elim
theorem CRels.get {f : HP} {σ : Rz B} : ∀ {cs : List (Cel B)} {vs : List Value}, CRels f σ cs vs → ∀ (j : Nat) (c : Cel B), cs[j]? = some c → ∃ v, vs[j]? = some v ∧ CRel f σ c v
  | [], [], _, j, c, h => by simp at h
  | c0 :: cs, v :: vs, ⟨h1, h2⟩, 0, c, h => by simp at h; subst h; exact ⟨v, rfl, h1⟩
  | c0 :: cs, v :: vs, ⟨h1, h2⟩, j + 1, c, h => by simpa using CRels.get h2 j c (by simpa using h)
  | [], _ :: _, h, _, _, _ => h.elim
  | _ :: _, [], h, _, _, _ => h.elim
theorem CRels.app {f : HP} {σ : Rz B} : ∀ {cs ds : List (Cel B)} {vs us : List Value}, CRels f σ cs vs → CRels f σ ds us → CRels f σ (cs ++ ds) (vs ++ us)
  | [], _, [], _, _, h => h
  | _ :: _, _, _ :: _, _, ⟨h1, h2⟩, h => ⟨h1, CRels.app h2 h⟩
  | [], _, _ :: _, _, h, _ => h.elim
  | _ :: _, _, [], _, h, _ => h.elim
theorem CRels.split {f : HP} {σ : Rz B} : ∀ {cs ds : List (Cel B)} {vs : List Value}, CRels f σ (cs ++ ds) vs → ∃ us ws, vs = us ++ ws ∧ CRels f σ cs us ∧ CRels f σ ds ws
  | [], _, vs, h => ⟨[], vs, rfl, trivial, h⟩
  | c :: cs, ds, v :: vs, ⟨h1, h2⟩ => by
    obtain ⟨us, ws, e, k1, k2⟩ := CRels.split (cs := cs) h2
    exact ⟨v :: us, ws, by simp [e], ⟨h1, k1⟩, k2⟩
  | _ :: _, _, [], h => h.elim
theorem CRels.drop {f : HP} {σ : Rz B} : ∀ (n : Nat) {cs : List (Cel B)} {vs : List Value}, CRels f σ cs vs → CRels f σ (cs.drop n) (vs.drop n)
  | 0, _, _, h => h
  | n + 1, [], [], _ => trivial
  | n + 1, _ :: _, _ :: _, ⟨_, h2⟩ => CRels.drop n h2
  | _ + 1, [], _ :: _, h => h.elim
  | _ + 1, _ :: _, [], h => h.elim
theorem CRels.take {f : HP} {σ : Rz B} : ∀ (n : Nat) {cs : List (Cel B)} {vs : List Value}, CRels f σ cs vs → CRels f σ (cs.take n) (vs.take n)
  | 0, _, _, _ => trivial
  | n + 1, [], [], _ => trivial
  | n + 1, _ :: _, _ :: _, ⟨h1, h2⟩ => ⟨h1, CRels.take n h2⟩
  | _ + 1, [], _ :: _, h => h.elim
  | _ + 1, _ :: _, [], h => h.elim
def cellsL (B : Tab) (F : (t : Ty) → den B.T t → List (Cel B)) : (l : List Ty) → HL B.T l → List (Cel B)
  | [], _ => []
  | t :: l, p => F t p.1 ++ cellsL B F l p.2
def cellsD (B : Tab) : Nat → (t : Ty) → den B.T t → List (Cel B)
  | _, .int k, x => [.int k x]
  | _, .bool, x => [.bool x]
  | _, .str, x => [.str x]
  | _, .sl e, x => [.sl e x]
  | _, .nsl e, x => [.nsl e x]
  | _, .opt e, x => [.opt e x]
  | _, .ap e, x => [.ap e x]
  | _, .kv _ _, _ => []
  | 0, .st _, _ => []
  | d + 1, .st i, x => cellsL B (cellsD B d) (B.fs i) (toHL _ (B.to i x))
def okT (B : Tab) : Nat → Ty → Bool
  | _, .kv _ _ => false
  | 0, .st _ => false
  | d + 1, .st i => okTs (okT B d) (B.fs i)
  | _, _ => true
where okTs (F : Ty → Bool) : List Ty → Bool
  | [] => true
  | t :: l => match F t with | true => okTs F l | false => false
end
end Hd
set_option linter.unusedVariables false
set_option linter.unusedSimpArgs false
namespace Hd
open Go Hk
inductive RM (B : Tab) (ρ : Type) : Type 1 where
  | ret (x : ρ)
  | read (l : Loc) (k : Option (Con B) → RM B ρ)
  | bind {β : Type} (x : Option β) (k : β → RM B ρ)
  | ite (b : Bool) (x y : RM B ρ)
  | fail
section
variable {B : Tab} {ρ α : Type}
noncomputable def RM.go (lk : Loc → Option (Con B)) : RM B ρ → List Loc → (ρ → List Loc → Option α) → Option α
  | .ret x, rs, k => k x rs
  | .read l f, rs, k => (f (lk l)).go lk (l :: rs) k
  | .bind x f, rs, k => x.bind fun y => (f y).go lk rs k
  | .ite b x y, rs, k => Bool.rec (y.go lk rs k) (x.go lk rs k) b
  | .fail, _, _ => none
def RM.Ran (lk : Loc → Option (Con B)) : RM B ρ → ρ → List Loc → Prop
  | .ret x, o, rs => x = o ∧ rs = []
  | .read l f, o, rs => ∃ rs', rs = l :: rs' ∧ (f (lk l)).Ran lk o rs'
  | .bind x f, o, rs => ∃ y, x = some y ∧ (f y).Ran lk o rs
  | .ite b x y, o, rs => cond b (x.Ran lk o rs) (y.Ran lk o rs)
  | .fail, _, _ => False
theorem RM.go_ran {lk : Loc → Option (Con B)} : ∀ {p : RM B ρ} {rs : List Loc} {k : ρ → List Loc → Option α} {r : α}, p.go lk rs k = some r → ∃ o rs', p.Ran lk o rs' ∧ k o (rs'.reverse ++ rs) = some r
  | .ret x, rs, k, r, h => ⟨x, [], ⟨rfl, rfl⟩, h⟩
  | .read l f, rs, k, r, h => by
    obtain ⟨o, rs', h1, h2⟩ := RM.go_ran (p := f (lk l)) h
    exact ⟨o, l :: rs', ⟨rs', rfl, h1⟩, by simpa using h2⟩
  | .bind x f, rs, k, r, h => by
    obtain ⟨y, hy, h⟩ := bind_some h
    obtain ⟨o, rs', h1, h2⟩ := RM.go_ran (p := f y) h
    exact ⟨o, rs', ⟨y, hy, h1⟩, h2⟩
  | .ite b x y, rs, k, r, h => by
    cases b
    · obtain ⟨o, rs', h1, h2⟩ := RM.go_ran (p := y) h
      exact ⟨o, rs', h1, h2⟩
    · obtain ⟨o, rs', h1, h2⟩ := RM.go_ran (p := x) h
      exact ⟨o, rs', h1, h2⟩
  | .fail, _, _, _, h => by cases h
theorem RM.Ran.congr {lk lk' : Loc → Option (Con B)} : ∀ {p : RM B ρ} {o : ρ} {rs : List Loc}, p.Ran lk o rs → (∀ l ∈ rs, lk' l = lk l) → p.Ran lk' o rs
  | .ret _, _, _, h, _ => h
  | .read l f, o, rs, h, hl => by
    obtain ⟨rs', e, h⟩ := h
    subst e
    refine ⟨rs', rfl, ?_⟩
    rw [hl l (by simp)]
    exact RM.Ran.congr h fun l' hl' => hl l' (by simp [hl'])
  | .bind x f, o, rs, h, hl => by
    obtain ⟨y, e, h⟩ := h
    exact ⟨y, e, RM.Ran.congr h hl⟩
  | .ite b x y, o, rs, h, hl => by
    cases b
    · exact RM.Ran.congr (p := y) h hl
    · exact RM.Ran.congr (p := x) h hl
  | .fail, _, _, h, _ => h.elim
def RM.opt {β : Type} (x : Option β) (k : β → RM B ρ) : RM B ρ := match x with | some y => k y | none => .fail
def RM.chk (b : Bool) (k : RM B ρ) : RM B ρ := match b with | true => k | false => .fail
end
def stepW : Nat := 64
def stepV : Nat := 60
structure Out (B : Tab) where
  v : Option (DV B)
  up : Mem B
  add : List (Nat × EH)
  del : List Nat
structure Ov (B : Tab) where
  up : Mem B
  add : List (Nat × EH)
  del : List Nat
  nx : Nat
  mu : List (Nat × Nat)
def assoc : List (Nat × Nat) → Nat → Option Nat
  | [], _ => none
  | (a, b) :: r, i => cond (Nat.beq a i) (some b) (assoc r i)
section
variable {B : Tab} {ρ : Type}
def castD (B : Tab) (t u : Ty) (x : den B.T t) : Option (den B.T u) :=
  match h : t.eqb u with
  | true => some (Ty.eqb_eq h ▸ x)
  | false => none
def takeL (B : Tab) (F : (t : Ty) → List (Cel B) → Option (den B.T t × List (Cel B))) : (l : List Ty) → List (Cel B) → Option (HL B.T l × List (Cel B))
  | [], cs => some ((), cs)
  | t :: l, cs => match F t cs with
    | some (x, r) => match takeL B F l r with
      | some (y, r') => some ((x, y), r')
      | none => none
    | none => none
def takeD (B : Tab) : Nat → (t : Ty) → List (Cel B) → Option (den B.T t × List (Cel B))
  | d, t, cs => match t, cs with
    | .int k, .int k' n :: r => bif decide (k = k') then some (n, r) else none
    | .int k, .ilen m :: r => bif decide (k = .i64) then some ((m : Int), r) else none
    | .bool, .bool b :: r => some (b, r)
    | .str, .str s :: r => some (s, r)
    | .sl e, .sl e' xs :: r => match castD B (.sl e') (.sl e) xs with | some ys => some (ys, r) | none => none
    | .sl e, .nils :: r => some (([] : List (den B.T e)), r)
    | .sl e, .nsl e' x :: r => match castD B (.sl e') (.sl e) (x.getD []) with | some ys => some (ys, r) | none => none
    | .nsl e, .nsl e' x :: r => match castD B (.nsl e') (.nsl e) x with | some ys => some (ys, r) | none => none
    | .nsl e, .nils :: r => some ((none : Option (List (den B.T e))), r)
    | .opt e, .opt e' x :: r => match castD B (.opt e') (.opt e) x with | some ys => some (ys, r) | none => none
    | .opt e, .nilp :: r => some ((none : Option (den B.T e)), r)
    | .opt e, .fpt e' x :: r => match castD B e' e x with | some y => some (some y, r) | none => none
    | .ap e, .ap e' x :: r => match castD B (.ap e') (.ap e) x with | some y => some (y, r) | none => none
    | .ap e, .nilp :: r => some ((none : Option (List (den B.T e))), r)
    | .ap e, .pf e' xs off :: r => match off with
      | .ofNat 0 => (match castD B (.sl e') (.sl e) xs with | some ys => some ((some ys : Option (List (den B.T e))), r) | none => none)
      | _ => none
    | .st i, cs => match d with
      | 0 => none
      | d + 1 => match takeL B (takeD B d) (B.fs i) cs with
        | some (h, r) => some (B.mks i (ofHL _ h), r)
        | none => none
    | _, _ => none
def dataOf (B : Tab) (t : Ty) (cs : List (Cel B)) : Option (den B.T t) :=
  match takeD B 8 t cs with
  | some (x, []) => some x
  | _ => none
def cellsOf (t : Ty) (x : den B.T t) : List (Cel B) := cellsD B 8 t x
def slC (e : Ty) (xs : List (den B.T e)) : Nat → Cel B
  | 0 => .sl e xs
  | _ + 1 => .nsl e (some xs)
def unN : Cel B → Cel B
  | .nsl e x => .sl e (x.getD [])
  | c => c
def unO : Cel B → Cel B
  | .ob i _ => .own i
  | c => c
def resC (c : Cel B) (k : Cel B → RM B ρ) : RM B ρ :=
  match c with
  | .own i => .read (.a i) fun
    | some (.fz e xs nn) => k (slC e xs nn)
    | _ => k (.own i)
  | .ob i b => .read (.a i) fun
    | some (.fz e xs _) => k (.nsl e (cond b none (some xs)))
    | _ => k (.ob i b)
  | .pa i off => .read (.a i) fun
    | some (.fz e xs _) => k (.pf e xs off)
    | _ => k (.pa i off)
  | .ptr i off => .read (.b i) fun
    | some (.fzb e x) => match off with
      | 0 => k (.fpt e x)
      | n + 1 => k (.fel e x (n + 1))
    | _ => k (.ptr i off)
  | c => k c
def resL : List (Cel B) → (List (Cel B) → RM B ρ) → RM B ρ
  | [], k => k []
  | c :: cs, k => resC c fun c' => resL cs fun cs' => k (c' :: cs')
def resT : List (Bool × List (Cel B)) → (List (Bool × List (Cel B)) → RM B ρ) → RM B ρ
  | [], k => k []
  | (g, cs) :: r, k => resL cs fun cs' => resT r fun r' => k ((g, cs') :: r')
def resD (d : DV B) (k : DV B → RM B ρ) : RM B ρ :=
  match d with
  | .one c => resC c fun c' => k (.one c')
  | .agg l => resL l fun l' => k (.agg l')
  | .tup l => resT l fun l' => k (.tup l')
  | .lst e xs => k (.lst e xs)
  | .pas => k .pas
def constC : Value → Option (Cel B)
  | .int k n => some (.int k n)
  | .bool b => some (.bool b)
  | .string s => some (.str s)
  | .pointer none => some .nilp
  | .slice none 0 0 => some .nils
  | .nilFunc => some .nilf
  | .map none => some .nilm
  | _ => none
def constL : List Value → Option (List (Cel B))
  | [] => some []
  | v :: vs => match constC v with
    | some c => match constL vs with | some l => some (c :: l) | none => none
    | none => none
def opd (o : Operand) (k : DV B → RM B ρ) : RM B ρ :=
  match o with
  | .tmp t => .read (.s t) fun
    | some (.v d) => resD d k
    | _ => .fail
  | .const (.agg cs) => RM.opt (constL cs.toList) fun l => k (.agg l)
  | .const v => RM.opt (constC v) fun c => k (.one c)
  | .func f => k (.one (.fn0 f))
  | .global _ => .fail
def opdRaw (o : Operand) (k : DV B → RM B ρ) : RM B ρ :=
  match o with
  | .tmp t => .read (.s t) fun
    | some (.v d) => k d
    | _ => .fail
  | o => opd o k
@[irreducible] def opd1 (o : Operand) (k : Cel B → RM B ρ) : RM B ρ := opd o fun | .one c => k (unO c) | _ => .fail
def cellsDV : DV B → Option (List (Cel B))
  | .one c => some [c]
  | .agg l => some l
  | _ => none
def opdL (o : Operand) (k : List (Cel B) → RM B ρ) : RM B ρ := opd o fun d => RM.opt (cellsDV d) k
def opds : List Operand → (List (DV B) → RM B ρ) → RM B ρ
  | [], k => k []
  | o :: l, k => opd o fun d => opds l fun ds => k (d :: ds)
inductive TD where
  | int (k : IntKind) | bool | str
  | slice (e : Nat) (t : Option Ty)
  | struct (fs : List (Nat × Nat × Nat)) (q : List KT)
  | array (n e : Nat)
  | map (kt et : Nat) (g : Bool) (ks : List KT) (k v : Ty)
  | ptr
  | other
structure TI (B : Tab) where
  id : Nat
  td : TD
  size : Nat
  bytes : Nat
  agg : Bool
  zc : List (Cel B)
def celIs : Cel B → Value → Bool
  | .int k n, .int k' n' => decide (k = k') && decide (n = n')
  | .bool b, .bool b' => b == b'
  | .str s, .string s' => decide (s = s')
  | .nils, .slice none 0 0 => true
  | .nilp, .pointer none => true
  | .nilf, .nilFunc => true
  | .nilm, .map none => true
  | _, _ => false
def celsAre : List (Cel B) → List Value → Bool
  | [], [] => true
  | c :: cs, v :: vs => celIs c v && celsAre cs vs
  | _, _ => false
def fieldsOk (P : Program) (t : Nat) : Nat → List (Nat × Nat × Nat) → Bool
  | _, [] => true
  | i, (off, _, ft) :: r => decide (tyField P t i = some (off, ft)) && fieldsOk P t (i + 1) r
def keyOk (P : Program) (kt : Nat) : Bool → List KT → Bool
  | true, ks => eqsOk P kt ks
  | false, [k] => kdOk (P.underlying kt) k
  | false, _ => false
def tdOk (P : Program) (t : Nat) : TD → Bool
  | .int k => match P.underlying t with | some (.int k') => decide (k = k') | _ => false
  | .bool => match P.underlying t with | some .bool => true | _ => false
  | .str => match P.underlying t with | some .string => true | _ => false
  | .slice e _ => decide (tyElem P t = some e)
  | .struct fs q => fieldsOk P t 0 fs && decide (tyPlaces P t = some (fs.map fun x => (x.1, x.2.1))) && (match q with | [] => true | k :: q => eqsOk P t (k :: q))
  | .array n e => match P.underlying t with | some (.array n' e') => decide (n = n') && decide (e = e') | _ => false
  | .map kt et g ks _ _ => match P.underlying t with | some (.map kt' et') => decide (kt = kt') && decide (et = et') && keyOk P kt g ks | _ => false
  | .ptr => match P.underlying t with | some (.pointer _) => true | _ => false
  | .other => true
def zagg (g : Bool) : Value → Bool
  | .agg _ => g
  | _ => !g
def tiOk (P : Program) (t : TI B) : Bool :=
  decide (tySize P t.id = some t.size) && decide (tyBytes P t.id = some t.bytes) && decide (tyAgg P t.id = some t.agg) && tdOk P t.id t.td &&
    (match tyZero P t.id with | some z => celsAre t.zc z.cells.toList && Nat.beq t.zc.length t.size && zagg t.agg z | none => false)
def ttOk (P : Program) : List (TI B) → Bool
  | [] => true
  | t :: r => tiOk P t && ttOk P r
def tfind : List (TI B) → Nat → Option (TI B)
  | [], _ => none
  | t :: r, i => cond (Nat.beq t.id i) (some t) (tfind r i)
def gquoK (k : IntKind) (a b : Int) : Option Int := if b = 0 then none else some (k.wrap (a.tdiv b))
def gremK (a b : Int) : Option Int := if b = 0 then none else some (a.tmod b)
def gshl (k : IntKind) (a b : Int) : Option Int := if b < 0 then none else some (k.wrap (a * (2 ^ (min b.toNat k.bits) : Nat)))
def gshr (k : IntKind) (a b : Int) : Option Int := if b < 0 then none else some (a.fdiv ((2 ^ (min b.toNat k.bits) : Nat)))
def iand (k : IntKind) (a b : Int) : Int := k.wrap ((BitVec.ofInt k.bits a &&& BitVec.ofInt k.bits b).toNat)
def ior (k : IntKind) (a b : Int) : Int := k.wrap ((BitVec.ofInt k.bits a ||| BitVec.ofInt k.bits b).toNat)
def ixor (k : IntKind) (a b : Int) : Int := k.wrap ((BitVec.ofInt k.bits a ^^^ BitVec.ofInt k.bits b).toNat)
def asI : Cel B → Option (IntKind × Int)
  | .int k n => some (k, n)
  | .ilen m => some (.i64, (m : Int))
  | _ => none
def vals (c : Cel B) : RM B (Out B) := .ret ⟨some (.one c), [], [], []⟩
def valD (d : DV B) : RM B (Out B) := .ret ⟨some d, [], [], []⟩
def binI (op : BinOp) (k k' : IntKind) (a b : Int) : RM B (Out B) :=
  match op with
  | .shl => .bind (gshl k a b) fun r => vals (.int k r)
  | .shr => .bind (gshr k a b) fun r => vals (.int k r)
  | op => RM.chk (decide (k = k')) (match op with
    | .add => vals (.int k (k.wrap (a + b)))
    | .sub => vals (.int k (k.wrap (a - b)))
    | .mul => vals (.int k (k.wrap (a * b)))
    | .quo => .bind (gquoK k a b) fun r => vals (.int k r)
    | .rem => .bind (gremK a b) fun r => vals (.int k r)
    | .eql => vals (.bool (a == b))
    | .neq => vals (.bool (a != b))
    | .lss => vals (.bool (decide (a < b)))
    | .leq => vals (.bool (decide (a ≤ b)))
    | .gtr => vals (.bool (decide (a > b)))
    | .geq => vals (.bool (decide (a ≥ b)))
    | .and => vals (.int k (iand k a b))
    | .or => vals (.int k (ior k a b))
    | .xor => vals (.int k (ixor k a b))
    | _ => .fail)
def rdo (ov : Ov B) (l : Loc) (k : Option (Con B) → RM B ρ) : RM B ρ :=
  match look ov.up l with
  | some c => k (some c)
  | none => .read l k
def frzA (ov : Ov B) (i : Nat) (k : (e : Ty) → List (den B.T e) → Nat → Ov B → RM B ρ) : RM B ρ :=
  rdo ov (.a i) fun
    | some (.arr e xs _ nn) => k e xs nn { ov with up := (.a i, .fz e xs nn) :: ov.up, del := i :: ov.del }
    | some (.fz e xs nn) => k e xs nn ov
    | some (.grid e rows _ _ none nn) => k (.sl e) rows nn { ov with up := (.a i, .fz (.sl e) rows nn) :: ov.up, del := i :: ov.del }
    | _ => .fail
def dataC (ov : Ov B) : List (Cel B) → (List (Cel B) → Ov B → RM B ρ) → RM B ρ
  | [], k => k [] ov
  | .own i :: cs, k => frzA ov i fun e xs nn ov => dataC ov cs fun cs' ov => k (slC e xs nn :: cs') ov
  | .ob i b :: cs, k => frzA ov i fun e xs _ ov => dataC ov cs fun cs' ov => k (.nsl e (cond b none (some xs)) :: cs') ov
  | .pa i off :: cs, k => match off with
    | .ofNat 0 => frzA ov i fun e xs _ ov => dataC ov cs fun cs' ov => k (.ap e (some xs) :: cs') ov
    | _ => .fail
  | .pw i e0 l h :: cs, k => frzA ov i fun e xs _ ov => RM.chk (e.eqb e0) <| .bind (gcut xs l h) fun r => dataC ov cs fun cs' ov => k (.sl e r :: cs') ov
  | .ptr i 0 :: cs, k => rdo ov (.b i) fun
    | some (.fzb e x) => dataC ov cs fun cs' ov => k (.fpt e x :: cs') ov
    | _ => .fail
  | c :: cs, k => dataC ov cs fun cs' ov => k (c :: cs') ov
def nilOf (c : Cel B) (k : Bool → RM B ρ) : RM B ρ :=
  match c with
  | .nils => k true
  | .nsl _ x => k x.isNone
  | .ob _ b => k b
  | .own i => .read (.a i) fun
    | some (.arr _ _ _ nn) => RM.chk (Nat.ble 1 nn) (k false)
    | some (.grid _ _ _ _ _ nn) => RM.chk (Nat.ble 1 nn) (k false)
    | _ => .fail
  | _ => .fail
def isSl (tt : List (TI B)) (t : Nat) : Bool := match tfind tt t with | some ti => (match ti.td with | .slice _ _ => true | _ => false) | none => false
def isStr (tt : List (TI B)) (t : Nat) : Bool := match tfind tt t with | some ti => (match ti.td with | .str => true | _ => false) | none => false
def isMap (tt : List (TI B)) (t : Nat) : Bool := match tfind tt t with | some ti => (match ti.td with | .map _ _ _ _ _ _ => true | _ => false) | none => false
def isBool (tt : List (TI B)) (t : Nat) : Bool := match tfind tt t with | some ti => (match ti.td with | .bool => true | _ => false) | none => false
def isNil : Cel B → Bool
  | .nils => true
  | _ => false
def isPt (tt : List (TI B)) (t : Nat) : Bool := match tfind tt t with | some ti => (match ti.td with | .ptr => true | _ => false) | none => false
def nilP : Cel B → Option Bool
  | .nilp => some true
  | .opt _ x => some x.isNone
  | .ap _ x => some x.isNone
  | .ptr _ _ => some false
  | .fpt _ _ => some false
  | _ => none
def binP (tt : List (TI B)) (t : Nat) (op : BinOp) (x : Cel B) : RM B (Out B) :=
  RM.chk (isPt tt t) <| .bind (nilP x) fun b => match op with
    | .eql => vals (.bool b)
    | .neq => vals (.bool (!b))
    | _ => .fail
def sl8 (s : ByteArray) : List UInt8 := s.data.toList
def seq (a b : ByteArray) : Bool := sl8 a == sl8 b
def slt (a b : ByteArray) : Bool := Op.bytesLess (sl8 a) (sl8 b)
def scat (a b : ByteArray) : Option ByteArray := if a.size + b.size ≤ 9223372036854775807 then some (a ++ b) else none
def sidx (s : ByteArray) (i : Int) : Option Int := if 0 ≤ i ∧ i < (s.size : Int) then some (((sl8 s).getD i.toNat 0).toNat : Int) else none
def scut (s : ByteArray) (l h : Int) : Option ByteArray := if 0 ≤ l ∧ l ≤ h ∧ h ≤ (s.size : Int) then some (s.extract l.toNat h.toNat) else none
def sbytes (s : ByteArray) : Option (List Int) := if s.size ≤ 9223372036854775807 then some ((sl8 s).map fun b => (b.toNat : Int)) else none
def strBin (op : BinOp) (a b : ByteArray) : RM B (Out B) :=
  match op with
  | .eql => vals (.bool (seq a b))
  | .neq => vals (.bool (!(seq a b)))
  | .lss => vals (.bool (slt a b))
  | .leq => vals (.bool (slt a b || seq a b))
  | .gtr => vals (.bool (!(slt a b || seq a b)))
  | .geq => vals (.bool (!(slt a b)))
  | .add => .bind (scat a b) fun r => vals (.str r)
  | _ => .fail
def binC (tt : List (TI B)) (t : Nat) (op : BinOp) (x y : Cel B) : RM B (Out B) :=
  match asI x, asI y with
  | some (k, a), some (k', b) => binI op k k' a b
  | _, _ => match x, y with
    | .bool a, .bool b => RM.chk (isBool tt t) <| match op with
      | .eql => vals (.bool (a == b))
      | .neq => vals (.bool (a != b))
      | _ => .fail
    | .str a, .str b => strBin op a b
    | x, .nilp => binP tt t op x
    | .nilp, y => binP tt t op y
    | x, y => RM.chk (isSl tt t) <| match isNil y, isNil x with
      | true, _ => match op with
        | .eql => nilOf x fun b => vals (.bool b)
        | .neq => nilOf x fun b => vals (.bool (!b))
        | _ => .fail
      | false, true => match op with
        | .eql => nilOf y fun b => vals (.bool b)
        | .neq => nilOf y fun b => vals (.bool (!b))
        | _ => .fail
      | false, false => .fail
def readC (i : Nat) : Nat → Nat → (List (Cel B) → RM B ρ) → RM B ρ
  | _, 0, k => k []
  | o, n + 1, k => .read (.c i o) fun
    | some (.c c) => resC c fun c' => readC i (o + 1) n fun cs => k (c' :: cs)
    | _ => .fail
def dvOf (agg : Bool) (cs : List (Cel B)) (k : DV B → RM B ρ) : RM B ρ :=
  match agg, cs with
  | true, cs => k (.agg cs)
  | false, [c] => k (.one c)
  | _, _ => .fail
def upC (i : Nat) : Nat → List (Cel B) → Mem B
  | _, [] => []
  | o, c :: cs => (.c i o, .c c) :: upC i (o + 1) cs
def isUnd : Cel B → Bool
  | .und => true
  | _ => false
def noUnd : List (Cel B) → Bool
  | [] => true
  | c :: cs => match isUnd c with | true => false | false => noUnd cs
def spliceC (cs : List (Cel B)) (o : Nat) (news : List (Cel B)) : List (Cel B) := cs.take o ++ news ++ cs.drop (o + news.length)
def fillC (place : Nat → Option (Nat × Nat)) : List (Cel B) → List (Nat × List (Cel B)) → Option (List (Cel B))
  | cs, [] => some cs
  | cs, (i, v) :: r => match place i with
    | some (o, n) => match Nat.beq v.length n && Nat.ble (o + n) cs.length with
      | true => fillC place (spliceC cs o v) r
      | false => none
    | none => none
def partsR : List (Nat × Operand) → (List (Nat × List (Cel B)) → RM B ρ) → RM B ρ
  | [], k => k []
  | (i, o) :: l, k => opdL o fun cs => RM.chk (noUnd cs) <| partsR l fun r => k ((i, cs) :: r)
def nthL {α : Type} : List α → Nat → Option α
  | [], _ => none
  | x :: _, 0 => some x
  | _ :: l, n + 1 => nthL l n
def elems (B : Tab) (e : Ty) : Nat → List (Cel B) → Option (List (den B.T e))
  | 0, [] => some []
  | n + 1, cs => match takeD B 8 e cs with
    | some (x, r) => match elems B e n r with
      | some xs => some (x :: xs)
      | none => none
    | none => none
  | _, _ => none
def repL {α : Type} : Nat → List α → List α
  | 0, _ => []
  | n + 1, l => l ++ repL n l
def elTy (tt : List (TI B)) (t : Nat) : Option (TI B × Ty) :=
  match tfind tt t with
  | some ti => match ti.td with
    | .slice e (some u) => match tfind tt e with
      | some te => match Nat.beq te.size (relB B u).n && Nat.blt 0 te.size with
        | true => some (te, u)
        | false => none
      | none => none
    | _ => none
  | none => none
def curEl (B : Tab) (a : Nat) (e : Ty) (i : Int) (x : den B.T e) (s : Nat) (k : List (den B.T e) → Nat → den B.T e → RM B ρ) : RM B ρ :=
  .read (.a a) fun
    | some (.arr e' xs s' nn) => RM.opt (castD B (.sl e') (.sl e) xs) fun ys => match Nat.beq s s' with
      | true => k ys nn x
      | false => .bind (idx ys i) fun y => k ys nn y
    | _ => .fail
def curG (B : Tab) (g : Nat) (e : Ty) (i j : Int) (x : den B.T e) (s h : Nat) (k : List (List (den B.T e)) → List (den B.T e) → Nat → Option Int → Nat → den B.T e → RM B ρ) : RM B ρ :=
  .read (.a g) fun
    | some (.grid e' rows s' h' hole nn) => RM.chk (Nat.beq h h' && hole.isNone) <| RM.opt (castD B (.sl (.sl e')) (.sl (.sl e)) rows) fun rows => .bind (idx rows i) fun row => match Nat.beq s s' with
      | true => k rows row h' hole nn x
      | false => .bind (idx row j) fun y => k rows row h' hole nn y
    | _ => .fail
def frzEl (B : Tab) (a : Nat) (e : Ty) (i : Int) (k : den B.T e → RM B ρ) (other : RM B ρ) : RM B ρ :=
  .read (.a a) fun
    | some (.fz e' xs _) => RM.opt (castD B (.sl e') (.sl e) xs) fun ys => .bind (idx ys i) k
    | _ => other
def goneA : Option Nat → Mem B
  | none => []
  | some i => [(.a i, .gone)]
def appOut (base : Nat) (e : Ty) (i : Option Nat) (r : List (den B.T e)) (nn : Nat) : Out B := ⟨some (.one (.own base)), (.a base, .arr e r (base + 1) nn) :: goneA i, [(base, .arr e)], i.toList⟩
def two : Nat → Nat → Nat
  | 2, _ => 2
  | _, 2 => 2
  | _, 0 => 0
  | _, _ => 1
def appFin (bytes base : Nat) (e : Ty) (i : Option Nat) (zs : List (den B.T e)) (nn : Nat) (ws : List (den B.T e)) (nw : Nat) : RM B (Out B) :=
  .bind (gapp bytes zs ws) fun r => .ret (appOut base e i r (two nw nn))
def notI (i : Option Nat) (j : Nat) : Bool := match i with | some i => !(Nat.beq i j) | none => true
def appSnd (bytes base : Nat) (e : Ty) (i : Option Nat) (zs : List (den B.T e)) (nn : Nat) (ys : Cel B) : RM B (Out B) :=
  match ys with
  | .sl e' ws => RM.opt (castD B (.sl e') (.sl e) ws) fun ws => appFin bytes base e i zs nn ws 0
  | .nsl e' x => RM.opt (castD B (.sl e') (.sl e) (x.getD [])) fun ws => appFin bytes base e i zs nn ws 0
  | .nils => appFin bytes base e i zs nn [] 0
  | .own j => RM.chk (notI i j) <| .read (.a j) fun
    | some (.arr e' ws _ nw) => RM.opt (castD B (.sl e') (.sl e) ws) fun ws => appFin bytes base e i zs nn ws nw
    | _ => .fail
  | _ => .fail
def appR (tt : List (TI B)) (base t : Nat) (xs : Cel B) (ys : Cel B) : RM B (Out B) :=
  RM.opt (elTy tt t) fun (te, e) => match xs with
  | .own i => .read (.a i) fun
    | some (.arr e' zs _ nn) => RM.opt (castD B (.sl e') (.sl e) zs) fun zs => appSnd te.bytes base e (some i) zs nn ys
    | _ => .fail
  | .nils => appSnd te.bytes base e none [] 0 ys
  | _ => .fail
def isI (tt : List (TI B)) (t : Nat) : Bool := match tfind tt t with | some ti => (match ti.td with | .int _ => true | _ => false) | none => false
def appZ (tt : List (TI B)) (base t t' : Nat) (cx cy : Cel B) : RM B (Out B) :=
  RM.chk (isI tt t') <| RM.opt (elTy tt t) fun (te, e) => RM.opt (dataOf B e te.zc) fun z => RM.opt (asI cy) fun (k, n) => match cx with
    | .nils => RM.chk (decide (k = .i64) && Nat.blt 0 (relB B e).n) <| .bind (gmake te.bytes n z) fun xs => .ret ⟨some (.one (.own base)), [(.a base, .arr e xs (base + 1) 0)], [(base, .arr e)], []⟩
    | _ => .fail
def opdI : List Operand → (List (IntKind × Int) → RM B ρ) → RM B ρ
  | [], k => k []
  | x :: l, k => opd1 x fun c => RM.opt (asI c) fun p => opdI l fun r => k (p :: r)
def oneOf : List (DV B) → Option (List (Cel B))
  | [] => some []
  | .one c :: l => match oneOf l with | some r => some (c :: r) | none => none
  | _ => none
def upK (i : Nat) : Nat → List (Cel B) → Mem B
  | _, [] => []
  | o, c :: cs => (.k i o, .c c) :: upK i (o + 1) cs
def optOpd (o : Option Operand) (d : Int) (k : Int → RM B ρ) : RM B ρ :=
  match o with
  | none => k d
  | some o => opd1 o fun c => RM.opt (asI c) fun (kk, n) => RM.chk (decide (kk = .i64)) (k n)
def cutR (tt : List (TI B)) (base t : Nat) (x : Cel B) (lo hi : Option Operand) : RM B (Out B) :=
  RM.opt (elTy tt t) fun (te, e0) => match unN x with
  | .sl e xs => RM.chk (e.eqb e0) <| optOpd lo 0 fun l => optOpd hi (xs.length : Int) fun h => .bind (gcut xs l h) fun ys => vals (.sl e ys)
  | .nils => optOpd lo 0 fun l => optOpd hi 0 fun h => .bind (gcut ([] : List (den B.T e0)) l h) fun _ => vals .nils
  | .own i => .read (.a i) fun
    | some (.arr e xs _ nn) => RM.chk (e.eqb e0) <| optOpd lo 0 fun l => optOpd hi (xs.length : Int) fun h => .bind (gcut xs l h) fun ys =>
      .ret ⟨some (.one (.own base)), [(.a base, .arr e ys (base + 1) (match nn with | 0 => 0 | _ => 1)), (.a i, .gone)], [(base, .arr e)], [i]⟩
    | _ => .fail
  | _ => .fail
def strCut (tt : List (TI B)) (t : Nat) (s : ByteArray) (lo hi : Option Operand) : RM B (Out B) :=
  RM.chk (isStr tt t) <| optOpd lo 0 fun l => optOpd hi (s.size : Int) fun h => .bind (scut s l h) fun r => vals (.str r)
def isBytes (tt : List (TI B)) (u : Nat) : Bool :=
  match tfind tt u with
  | some tu => match tu.td with
    | .slice e _ => match tfind tt e with
      | some te => match te.td with
        | .int .u8 => true
        | _ => false
      | none => false
    | _ => false
  | none => false
def strBytes (tt : List (TI B)) (t u : Nat) (s : ByteArray) : RM B (Out B) :=
  RM.chk (isStr tt t && isBytes tt u) <| .bind (sbytes s) fun xs => vals (.sl (.int .u8) xs)
def noLook (m : Mem B) (l : Loc) : Bool := match look m l with | none => true | some _ => false
def elOut (base a : Nat) (e : Ty) (i : Int) (ys : List (den B.T e)) (nn : Nat) (w : den B.T e) (ov : Ov B) : Out B := ⟨none, (.a a, .arr e (setI ys i w) base nn) :: ov.up, ov.add, ov.del⟩
def storeEl (base a : Nat) (e : Ty) (i : Int) (o nn : Nat) (ys : List (den B.T e)) (z : den B.T e) (cs : List (Cel B)) (ov : Ov B) : RM B (Out B) :=
  match Nat.beq o 0 && Nat.beq cs.length (relB B e).n with
  | true => RM.opt (dataOf B e cs) fun w => .ret (elOut base a e i ys nn w ov)
  | false => RM.chk (okT B 8 e && Nat.ble (o + cs.length) (relB B e).n) <| RM.opt (dataOf B e (spliceC (cellsOf e z) o cs)) fun w => .ret (elOut base a e i ys nn w ov)
def holeOk : Option Int → Int → Option Unit
  | none, _ => some ()
  | some j, i => if j = i then some () else none
def putRow (base g : Nat) (i : Int) (size : Nat) (cs : List (Cel B)) : RM B (Out B) :=
  match cs with
  | [.own k] => .read (.a g) fun
    | some (.grid e rows _ _ hole nn) => .read (.a k) fun
      | some (.arr e' ys _ _) => RM.chk (Nat.beq size 1 && !(Nat.beq k g)) <| RM.opt (castD B (.sl e') (.sl e) ys) fun ys => .bind (holeOk hole i) fun _ => .bind (idx rows i) fun _ =>
        .ret ⟨none, [(.a g, .grid e (setI rows i ys) base (base + 1) none nn), (.a k, .gone)], [], [k]⟩
      | _ => .fail
    | _ => .fail
  | _ => .fail
def elGOut (base g : Nat) (e : Ty) (i j : Int) (h : Nat) (hole : Option Int) (nn : Nat) (rows : List (List (den B.T e))) (row : List (den B.T e)) (w : den B.T e) (ov : Ov B) : Out B :=
  ⟨none, (.a g, .grid e (setI rows i (setI row j w)) base h hole nn) :: ov.up, ov.add, ov.del⟩
def storeG (base g : Nat) (e : Ty) (i j : Int) (o nn h : Nat) (hole : Option Int) (rows : List (List (den B.T e))) (row : List (den B.T e)) (cs : List (Cel B)) (ov : Ov B) : RM B (Out B) :=
  RM.chk (Nat.beq o 0 && Nat.beq cs.length (relB B e).n) <| RM.opt (dataOf B e cs) fun w => .ret (elGOut base g e i j h hole nn rows row w ov)
def nnOf : Nat → Nat
  | 0 => 1
  | _ => 2
def sameOp : Operand → Operand → Bool
  | .tmp a, .tmp b => Nat.beq a b
  | _, _ => false
def tyTD : TD → Option Ty
  | .int k => some (.int k)
  | .bool => some .bool
  | .str => some .str
  | .slice _ (some u) => some (.sl u)
  | _ => none
def srcR (e : Ty) (cy : Cel B) (k : List (den B.T e) → RM B ρ) : RM B ρ :=
  match cy with
  | .sl e' ws => RM.opt (castD B (.sl e') (.sl e) ws) k
  | .nsl e' x => RM.opt (castD B (.sl e') (.sl e) (x.getD [])) k
  | .nils => k []
  | .own j => .read (.a j) fun
    | some (.arr e' ws _ _) => RM.opt (castD B (.sl e') (.sl e) ws) k
    | _ => .fail
  | .vw j e0 l h => RM.chk (e0.eqb e) <| .read (.a j) fun
    | some (.arr e' ws _ _) => RM.opt (castD B (.sl e') (.sl e) ws) fun ws => .bind (gcut ws l h) k
    | _ => .fail
  | _ => .fail
def copyOut (base i : Nat) (e : Ty) (m n : Nat) (zs : List (den B.T e)) (nn : Nat) : Out B := ⟨some (.one (.int .i64 (min (m : Int) n))), [(.a i, .arr e zs base nn)], [], []⟩
def copyR (tt : List (TI B)) (base t : Nat) (cx cy : Cel B) : RM B (Out B) :=
  RM.opt (elTy tt t) fun (te, e) => RM.chk (Nat.beq te.size 1) <| srcR e cy fun ys => match cx with
  | .own i => .read (.a i) fun
    | some (.arr e' xs _ nn) => RM.opt (castD B (.sl e') (.sl e) xs) fun xs => .ret (copyOut base i e xs.length ys.length (gcopy xs 0 xs.length ys) nn)
    | _ => .fail
  | .vw i e0 l h => RM.chk (e0.eqb e) <| .read (.a i) fun
    | some (.arr e' xs _ nn) => RM.opt (castD B (.sl e') (.sl e) xs) fun xs => .bind (gcut xs l h) fun dx => .ret (copyOut base i e dx.length ys.length (gcopy xs l.toNat dx.length ys) nn)
    | _ => .fail
  | _ => .fail
def arrTy (tt : List (TI B)) (t : Nat) : Option (Nat × Nat) :=
  match tfind tt t with
  | some ti => match ti.td with
    | .array m e => match tfind tt e with
      | some te => some (m, te.size)
      | none => none
    | _ => none
  | none => none
def glen {α : Type} (xs : List α) (n : Nat) : Option Unit := if xs.length = n then some () else none
def isZ : Int → Bool
  | .ofNat 0 => true
  | _ => false
def viewR (tt : List (TI B)) (t : Nat) (x : Operand) (lo hi : Option Operand) : RM B (Out B) :=
  opd1 x fun c => match c with
  | .own i => RM.opt (elTy tt t) fun (_, e0) => .read (.a i) fun
    | some (.arr e xs _ _) => RM.chk (e.eqb e0) <| optOpd lo 0 fun l => optOpd hi (xs.length : Int) fun h => .bind (gcut xs l h) fun _ => vals (.vw i e l h)
    | _ => .fail
  | .pa i off => RM.opt (arrTy tt t) fun (m, sz) => RM.chk (isZ off) <| .read (.a i) fun
    | some (.arr e xs _ _) => RM.chk (Nat.beq sz (relB B e).n) <| .bind (glen xs m) fun _ => optOpd lo 0 fun l => optOpd hi (m : Int) fun h => .bind (gcut xs l h) fun _ => vals (.pw i e l h)
    | _ => .fail
  | _ => .fail
def cutP (tt : List (TI B)) (base t i : Nat) (lo hi : Option Operand) : RM B (Out B) :=
  RM.opt (arrTy tt t) fun (m, sz) => .read (.a i) fun
  | some (.arr e xs _ _) => RM.chk (Nat.beq sz (relB B e).n) <| .bind (glen xs m) fun _ => optOpd lo 0 fun l => optOpd hi (m : Int) fun h => .bind (gcut xs l h) fun ys =>
    .ret ⟨some (.one (.own base)), [(.a base, .arr e ys (base + 1) 1), (.a i, .gone)], [(base, .arr e)], [i]⟩
  | _ => .fail
def geqI (a b : Int) : Option Unit := if a = b then some () else none
def cut3R (tt : List (TI B)) (base t : Nat) (x hi mx : Operand) : RM B (Out B) :=
  opd1 x fun c => RM.opt (elTy tt t) fun (_, e0) => match unN c with
    | .own i => .read (.a i) fun
      | some (.arr e xs _ nn) => RM.chk (e.eqb e0) <| optOpd (some hi) 0 fun h => optOpd (some mx) 0 fun m => .bind (geqI h m) fun _ => .bind (gcut xs 0 h) fun ys =>
        .ret ⟨some (.one (.own base)), [(.a base, .arr e ys (base + 1) (match nn with | 0 => 0 | _ => 1)), (.a i, .gone)], [(base, .arr e)], [i]⟩
      | _ => .fail
    | _ => .fail
def indexR (tt : List (TI B)) (t : Nat) (x ix : Operand) : RM B (Out B) :=
  opd x fun d => match d with
  | .agg cs => opd1 ix fun ci => RM.opt (asI ci) fun (k, n) => RM.chk (decide (k = .i64)) <| match tfind tt t with
    | some ti => match ti.td with
      | .array m e => match tfind tt e with
        | some te => match tyTD te.td with
          | some u => RM.chk (Nat.beq te.size 1 && !te.agg && Nat.beq (relB B u).n 1 && okT B 8 u) <| RM.opt (elems B u m cs) fun xs => .bind (idx xs n) fun y =>
            match cellsOf u y with
            | [c] => vals c
            | _ => .fail
          | none => match n with
            | .ofNat q => RM.chk (Nat.beq te.size 1 && !te.agg && Nat.blt q m) <| RM.opt (nthL cs q) vals
            | _ => .fail
        | none => .fail
      | _ => .fail
    | none => .fail
  | .one (.str s) => opd1 ix fun ci => RM.opt (asI ci) fun (_, n) => RM.chk (isStr tt t) <| .bind (sidx s n) fun b => vals (.int .u8 b)
  | .lst u xs => opd1 ix fun ci => RM.opt (asI ci) fun (k, n) => RM.chk (decide (k = .i64)) <| match tfind tt t with
    | some ti => match ti.td with
      | .array m e => match tfind tt e with
        | some te => RM.chk (Nat.beq te.size 1 && !te.agg && Nat.beq (relB B u).n 1 && okT B 8 u) <| .bind (glen xs m) fun _ => .bind (idx xs n) fun y =>
            match cellsOf u y with
            | [c] => vals c
            | _ => .fail
        | none => .fail
      | _ => .fail
    | none => .fail
  | _ => .fail
def gix (m : Nat) (i : Int) : Option Unit := if 0 ≤ i ∧ i < (m : Int) then some () else none
def stAgg (ti : TI B) (base i : Nat) (off : Int) (cs : List (Cel B)) : RM B (Out B) :=
  match off with
  | .ofNat 0 => .read (.a i) fun
    | some (.arr e xs _ nn) => RM.chk (Nat.beq (relB B e).n 1 && Nat.beq cs.length ti.size) <| RM.opt (elems B e cs.length cs) fun ys => .bind (glen xs ti.size) fun _ => .ret ⟨none, [(.a i, .arr e ys base nn)], [], []⟩
    | _ => .fail
  | _ => .fail
def flatT (tt : List (TI B)) : Nat → Nat → Option Ty
  | 0, _ => none
  | d + 1, t => match tfind tt t with
    | some ti => match ti.td with
      | .array _ e => flatT tt d e
      | td => match Nat.beq ti.size 1 && !ti.agg with
        | true => tyTD td
        | false => none
    | none => none
def isArr (tt : List (TI B)) (t : Nat) : Option Ty :=
  match arrTy tt t with
  | some _ => flatT tt 8 t
  | none => none
def boxA (base : Nat) (u : Ty) (cs : List (Cel B)) : RM B (Out B) :=
  RM.chk (Nat.beq (relB B u).n 1 && Nat.ble cs.length 1000000) <| RM.opt (elems B u cs.length cs) fun xs => .ret ⟨some (.one (.pa base 0)), [(.a base, .arr u xs (base + 1) 1)], [(base, .arr u)], []⟩
def ldA (ti : TI B) (e : Ty) (xs : List (den B.T e)) (off : Int) : RM B (Out B) :=
  RM.chk (Nat.beq (relB B e).n 1 && okT B 8 e) <| match ti.agg with
  | false => RM.chk (Nat.beq ti.size 1) <| .bind (idx xs off) fun y => dvOf false (cellsOf e y) valD
  | true => match ti.td, off with
    | .array _ _, .ofNat 0 => .bind (glen xs ti.size) fun _ => valD (.lst e xs)
    | _, _ => .fail
def stA (tt : List (TI B)) (base t i : Nat) (off : Int) (x : Operand) : RM B (Out B) :=
  match tfind tt t with
  | some ti => match ti.agg with
    | false => opdL x fun cs => RM.chk (Nat.beq ti.size 1 && noUnd cs) <| .read (.a i) fun
      | some (.arr e xs _ nn) => RM.chk (Nat.beq (relB B e).n 1) <| .bind (idx xs off) fun _ => RM.opt (dataOf B e cs) fun w => .ret ⟨none, [(.a i, .arr e (setI xs off w) base nn)], [], []⟩
      | _ => .fail
    | true => opd x fun
      | .lst e' ys => RM.chk (Nat.blt 0 ti.size) <| match off with
        | .ofNat 0 => .read (.a i) fun
          | some (.arr e xs _ nn) => RM.chk (Nat.beq (relB B e).n 1) <| RM.opt (castD B (.sl e') (.sl e) ys) fun ys => .bind (glen xs ti.size) fun _ => .bind (glen ys ti.size) fun _ => .ret ⟨none, [(.a i, .arr e ys base nn)], [], []⟩
          | _ => .fail
        | _ => .fail
      | .agg cs => RM.chk (Nat.blt 0 ti.size && noUnd cs) <| stAgg ti base i off cs
      | _ => .fail
  | none => .fail
def aggT : Ty → Bool
  | .st _ => true
  | _ => false
def kindT : Ty → Option KT
  | .int k => some (.int k)
  | .bool => some .bool
  | .str => some .str
  | _ => none
def kindsT : List Ty → Option (List KT)
  | [] => some []
  | t :: l => match kindT t, kindsT l with
    | some k, some r => some (k :: r)
    | _, _ => none
def kindsK (B : Tab) : Ty → Option (List KT)
  | .st i => kindsT (B.fs i)
  | t => kindsT [t]
def ksIs : Option (List KT) → List KT → Bool
  | some l, m => ksBeq l m
  | none, _ => false
def ieq (a b : Int) : Bool := a == b
def beqB (a b : Bool) : Bool := a == b
def keq1 {T : Nat → Type} : (t : Ty) → den T t → den T t → Bool
  | .int _, a, b => ieq a b
  | .bool, a, b => beqB a b
  | .str, a, b => seq a b
  | _, _, _ => false
def keqL {T : Nat → Type} : (l : List Ty) → HL T l → HL T l → Bool
  | [], _, _ => true
  | t :: l, a, b => keq1 t a.1 b.1 && keqL l a.2 b.2
def keqD (B : Tab) : (t : Ty) → den B.T t → den B.T t → Bool
  | .st i, a, b => keqL (B.fs i) (toHL _ (B.to i a)) (toHL _ (B.to i b))
  | t, a, b => keq1 t a b
def celEq : KT → Cel B → Cel B → Option Bool
  | .int k, c, d => match asI c, asI d with
    | some (k1, a), some (k2, b) => match decide (k1 = k) && decide (k2 = k) with | true => some (ieq a b) | false => none
    | _, _ => none
  | .bool, .bool a, .bool b => some (beqB a b)
  | .str, .str a, .str b => some (seq a b)
  | _, _, _ => none
def celsEq : List KT → List (Cel B) → List (Cel B) → Option Bool
  | [], [], [] => some true
  | k :: ks, c :: cs, d :: ds => match celEq k c d, celsEq ks cs ds with
    | some p, some q => some (p && q)
    | _, _ => none
  | _, _, _ => none
def binS (tt : List (TI B)) (t : Nat) (op : BinOp) (xs ys : List (Cel B)) : RM B (Out B) :=
  match tfind tt t with
  | some ti => match ti.td with
    | .struct _ (k :: q) => RM.opt (celsEq (k :: q) xs ys) fun b => match op with
      | .eql => vals (.bool b)
      | .neq => vals (.bool (!b))
      | _ => .fail
    | _ => .fail
  | none => .fail
def mfind {α β : Type} (eq : α → α → Bool) (x : α) : List (α × β) → Option β
  | [] => none
  | (a, b) :: r => cond (eq x a) (some b) (mfind eq x r)
def mset {α β : Type} (eq : α → α → Bool) (x : α) (y : β) : List (α × β) → List (α × β)
  | [] => [(x, y)]
  | (a, b) :: r => cond (eq x a) ((x, y) :: r) ((a, b) :: mset eq x y r)
def mapTy (tt : List (TI B)) (t : Nat) : Option (TI B × Ty × Ty) :=
  match tfind tt t with
  | some ti => match ti.td with
    | .map _ et g ks k v => match tfind tt et with
      | some te => match (aggT k == g) && ksIs (kindsK B k) ks && (te.agg == aggT v) && Nat.beq te.size (relB B v).n && okT B 8 v && okT B 8 k with
        | true => some (te, k, v)
        | false => none
      | none => none
    | _ => none
  | none => none
def opdG (g : Bool) (o : Operand) (k : List (Cel B) → RM B ρ) : RM B ρ :=
  opd o fun d => match g, d with
    | false, .one c => k [c]
    | true, .agg cs => k cs
    | _, _ => .fail
def lookR (agg ok : Bool) (v : Ty) (r : Option (den B.T v)) (z : den B.T v) : RM B (Out B) :=
  match ok with
  | false => dvOf agg (cellsOf v (r.getD z)) valD
  | true => valD (.tup [(agg, cellsOf v (r.getD z)), (false, [.bool r.isSome])])
def rowT : Ty → Option Ty
  | .sl e => some e
  | _ => none
def zcN : List (Cel B) → Bool
  | [.nils] => true
  | _ => false
def lookRowR (base : Nat) (te : TI B) (k e : Ty) (x ix : Operand) (ok : Bool) : RM B (Out B) :=
  opd1 x fun c => opdG (aggT k) ix fun kcs => RM.opt (dataOf B k kcs) fun key => match c with
    | .mpr i => RM.chk (!ok && zcN te.zc) <| .read (.a i) fun
      | some (.mp k' v' m) => RM.opt (castD B (.kv k' v') (.kv k (.sl e)) m) fun m =>
        .ret ⟨some (.one (.own base)), [(.a base, .arr e ((mfind (keqD B k) key m).getD []) (base + 1) 0), (.a i, .mph k e m key none)], [(base, .arr e)], []⟩
      | _ => .fail
    | _ => .fail
def keyIs {α : Type} (eq : α → α → Bool) (x y : α) : Option Unit := match eq x y with | true => some () | false => none
def putRowR (base : Nat) (k e : Ty) (x ix y : Operand) : RM B (Out B) :=
  opd1 x fun c => opdG (aggT k) ix fun kcs => RM.opt (dataOf B k kcs) fun key => opdG false y fun vcs => match c, vcs with
    | .mpr i, [.own j] => RM.chk (!(Nat.beq j i)) <| .read (.a j) fun
      | some (.arr e' ys _ _) => RM.opt (castD B (.sl e') (.sl e) ys) fun ys => .read (.a i) fun
        | some (.mp k' v' m) => RM.opt (castD B (.kv k' v') (.kv k (.sl e)) m) fun m => .ret ⟨none, [(.a i, .mph k e (mset (keqD B k) key ys m) key (some j))], [], []⟩
        | some (.mph k' e' m key' none) => RM.opt (castD B (.kv k' (.sl e')) (.kv k (.sl e)) m) fun m => RM.opt (castD B k' k key') fun key' => .bind (keyIs (keqD B k) key' key) fun _ =>
          .ret ⟨none, [(.a i, .mph k e (mset (keqD B k) key ys m) key (some j))], [], []⟩
        | _ => .fail
      | _ => .fail
    | _, _ => .fail
def lookupR (tt : List (TI B)) (base t : Nat) (x ix : Operand) (ok : Bool) : RM B (Out B) :=
  RM.opt (mapTy tt t) fun (te, k, v) => match rowT v with
  | some e => lookRowR base te k e x ix ok
  | none => opd1 x fun c => opdG (aggT k) ix fun kcs => RM.opt (dataOf B k kcs) fun key => RM.opt (dataOf B v te.zc) fun z => match c with
    | .mpr i => .read (.a i) fun
      | some (.mp k' v' m) => RM.opt (castD B (.kv k' v') (.kv k v) m) fun m => lookR te.agg ok v (mfind (keqD B k) key m) z
      | _ => .fail
    | .nilm => lookR te.agg ok v none z
    | _ => .fail
def updateR (tt : List (TI B)) (base t : Nat) (x ix y : Operand) : RM B (Out B) :=
  RM.opt (mapTy tt t) fun (te, k, v) => match rowT v with
  | some e => putRowR base k e x ix y
  | none => opd1 x fun c => opdG (aggT k) ix fun kcs => RM.opt (dataOf B k kcs) fun key => opdG (aggT v) y fun vcs => match c with
    | .mpr i => .read (.a i) fun
      | some (.mp k' v' m) => RM.opt (castD B (.kv k' v') (.kv k v) m) fun m => dataC ⟨[], [], [], base, []⟩ vcs fun vcs ov => RM.chk (noLook ov.up (.a i)) <| RM.opt (dataOf B v vcs) fun w =>
        .ret ⟨none, (.a i, .mp k v (mset (keqD B k) key w m)) :: ov.up, ov.add, ov.del⟩
      | _ => .fail
    | _ => .fail
def idxC (m sz : Nat) (n : Int) (c : Cel B) : RM B (Out B) :=
  match n with
  | .ofNat q => RM.chk (Nat.blt q m) <| match c with
    | .ptr j o => vals (.ptr j (o + q * sz))
    | .fpt e y => vals (.fel e y (q * sz))
    | .fel e y o => vals (.fel e y (o + q * sz))
    | .oel a e i y o s => vals (.oel a e i y (o + q * sz) s)
    | _ => .fail
  | _ => .fail
def allocB (tt : List (TI B)) (base t : Nat) : RM B (Out B) :=
  match tfind tt t with
  | some ti => .ret ⟨some (.one (.ptr base 0)), (.b base, .blk t ti.zc.length) :: upC base 0 ti.zc, [(base, .blk t ti.zc.length)], []⟩
  | none => .fail
def boxB (base t : Nat) (x : Operand) : RM B (Out B) :=
  opdL x fun cs => RM.chk (noUnd cs) <| .ret ⟨some (.one (.ptr base 0)), (.b base, .blk t cs.length) :: upC base 0 cs, [(base, .blk t cs.length)], []⟩
def hdrLit (tt : List (TI B)) (base t n : Nat) (parts : List (Nat × Operand)) : RM B (Out B) :=
  partsR parts fun ps => RM.opt (elTy tt t) fun (te, _) => RM.chk (Nat.ble (n * te.size) 1000000) <|
    RM.opt (fillC (fun i => some (i * te.size, te.size)) (repL n te.zc) ps) fun cs => RM.chk (Nat.beq cs.length n && noUnd cs) <| .ret ⟨some (.one (.slk base n)), upK base 0 cs, [], []⟩
def opProg (tt : List (TI B)) (base : Nat) (o : Op) : RM B (Out B) :=
  match o with
  | .move x => opdRaw x valD
  | .assign x => opdRaw x valD
  | .pick c a b => opd1 c fun
    | .bool t => opd a fun da => opd b fun db => match da, db with
      | .one (.bool x), .one (.bool y) => vals (.bool (cond t x y))
      | da, db => .ite t (valD da) (valD db)
    | _ => .fail
  | .binOp op t x y _ => opd x fun dx => opd y fun dy => match dx, dy with
    | .one cx, .one cy => binC tt t op cx cy
    | .agg xs, .agg ys => binS tt t op xs ys
    | _, _ => .fail
  | .unOp op _ x => opd1 x fun cx => match op, cx with
    | .not, .bool b => vals (.bool (!b))
    | .neg, cx => RM.opt (asI cx) fun (k, a) => vals (.int k (k.wrap (0 - a)))
    | _, _ => .fail
  | .convert s d x => opd1 x fun cx => match cx with
    | .str u => strBytes tt s d u
    | cx => RM.opt (asI cx) fun (k, a) => match tfind tt s, tfind tt d with
    | some ts, some td => match ts.td, td.td with
      | .int k1, .int k2 => RM.chk (decide (k1 = k)) (vals (.int k2 (k2.wrap a)))
      | _, _ => .fail
    | _, _ => .fail
  | .extract x i => opd x fun
    | .tup l => match nthL l i with
      | some (false, [c]) => vals c
      | some (true, cs) => valD (.agg cs)
      | _ => .fail
    | _ => .fail
  | .nilCheck x => opd1 x fun
    | .opt e y => .bind y fun z => vals (.fpt e z)
    | .ap e y => .bind y fun xs => vals (.pf e xs 0)
    | .pf e xs o => vals (.pf e xs o)
    | .pa i o => vals (.pa i o)
    | .ptr i o => vals (.ptr i o)
    | .fpt e y => vals (.fpt e y)
    | .fel e y o => vals (.fel e y o)
    | .oel a e i y o s => vals (.oel a e i y o s)
    | .gop g e i => vals (.gop g e i)
    | .gel g e i j y o s h => vals (.gel g e i j y o s h)
    | _ => .fail
  | .fieldAddr t x i => opd1 x fun c => match tfind tt t with
    | some ti => match ti.td with
      | .struct fs _ => match nthL fs i with
        | some (off, _, _) => match c with
          | .ptr j o => vals (.ptr j (o + off))
          | .opt e y => .bind y fun z => vals (.fel e z off)
          | .fpt e y => vals (.fel e y off)
          | .fel e y o => vals (.fel e y (o + off))
          | .oel a e n y o s => vals (.oel a e n y (o + off) s)
          | .gel g e i j y o s h => vals (.gel g e i j y (o + off) s h)
          | _ => .fail
        | none => .fail
      | _ => .fail
    | none => .fail
  | .load t x => opd1 x fun c => match tfind tt t with
    | some ti => match c with
      | .ptr i o => .read (.b i) fun
        | some (.blk _ n) => RM.chk (Nat.ble (o + ti.size) n) (readC i o ti.size fun cs => dvOf ti.agg cs valD)
        | _ => .fail
      | .pa i off => .read (.a i) fun
        | some (.arr e xs _ _) => ldA ti e xs off
        | _ => .fail
      | .pf e xs off => ldA ti e xs off
      | .opt e x => .bind x fun y => RM.chk (okT B 8 e && Nat.ble ti.size (relB B e).n) (dvOf ti.agg ((cellsOf e y).take ti.size) valD)
      | .fpt e y => RM.chk (okT B 8 e && Nat.ble ti.size (relB B e).n) (dvOf ti.agg ((cellsOf e y).take ti.size) valD)
      | .fel e y o => RM.chk (okT B 8 e && Nat.ble (o + ti.size) (relB B e).n) (dvOf ti.agg (((cellsOf e y).drop o).take ti.size) valD)
      | .gop g _ i => RM.chk (!ti.agg && Nat.beq ti.size 1) <| .read (.a g) fun
        | some (.grid e rows _ h none _) => .bind (idx rows i) fun _ => vals (.grow g e i h)
        | _ => .fail
      | .gel g e i j y o s h => RM.chk (okT B 8 e && Nat.ble (o + ti.size) (relB B e).n) (curG B g e i j y s h fun _ _ _ _ _ z => dvOf ti.agg (((cellsOf e z).drop o).take ti.size) valD)
      | .oel a e i y o s => RM.chk (okT B 8 e && Nat.ble (o + ti.size) (relB B e).n) (frzEl B a e i (fun z => dvOf ti.agg (((cellsOf e z).drop o).take ti.size) valD)
          (curEl B a e i y s fun _ _ z => dvOf ti.agg (((cellsOf e z).drop o).take ti.size) valD))
      | _ => .fail
    | none => .fail
  | .store t a x => opd1 a fun c => match c with
    | .pa i off => stA tt base t i off x
    | c => opdL x fun cs => match tfind tt t with
    | some ti => RM.chk (Nat.beq cs.length ti.size && noUnd cs) <| match c with
      | .ptr i o => .read (.b i) fun
        | some (.blk _ n) => RM.chk (Nat.ble (o + cs.length) n) (.ret ⟨none, upC i o cs, [], []⟩)
        | _ => .fail
      | .gop g _ i => putRow base g i ti.size cs
      | .gel g e i j y o s h => curG B g e i j y s h fun rows row h' hole nn z => dataC ⟨[], [], [], base, []⟩ cs fun cs ov => RM.chk (noLook ov.up (.a g)) (storeG base g e i j o nn h' hole rows row cs ov)
      | .oel a e i y o s => curEl B a e i y s fun ys nn z => dataC ⟨[], [], [], base, []⟩ cs fun cs ov => RM.chk (noLook ov.up (.a a)) (storeEl base a e i o nn ys z cs ov)
      | _ => .fail
    | none => .fail
  | .alloc t => match tfind tt t with
    | some ti => match isArr tt t with
      | some u => boxA base u ti.zc
      | none => .ret ⟨some (.one (.ptr base 0)), (.b base, .blk t ti.zc.length) :: upC base 0 ti.zc, [(base, .blk t ti.zc.length)], []⟩
    | none => .fail
  | .box t x => opdL x fun cs => RM.chk (noUnd cs) <| match isArr tt t with
    | some u => RM.chk (match tfind tt t with | some ti => Nat.beq cs.length ti.size | none => false) (boxA base u cs)
    | none => (.ret ⟨some (.one (.ptr base 0)), (.b base, .blk t cs.length) :: upC base 0 cs, [(base, .blk t cs.length)], []⟩)
  | .build t parts => partsR parts.toList fun ps => match tfind tt t with
    | some ti => match ti.td with
      | .struct fs _ => RM.opt (fillC (fun i => match nthL fs i with | some (o, n, _) => some (o, n) | none => none) ti.zc ps) fun cs => valD (.agg cs)
      | .array _ e => match tfind tt e with
        | some te => RM.opt (fillC (fun i => some (i * te.size, te.size)) ti.zc ps) fun cs => valD (.agg cs)
        | none => .fail
      | _ => .fail
    | none => .fail
  | .buildSlice t n parts => partsR parts.toList fun ps => RM.opt (elTy tt t) fun (te, e) => RM.chk (Nat.ble (n * te.size) 1000000) <|
      RM.opt (fillC (fun i => some (i * te.size, te.size)) (repL n te.zc) ps) fun cs => dataC ⟨[], [], [], base, []⟩ cs fun cs ov => RM.opt (elems B e n cs) fun xs =>
        .ret ⟨some (.one (.own base)), (.a base, .arr e xs (base + 1) (nnOf n)) :: ov.up, (base, .arr e) :: ov.add, ov.del⟩
  | .makeSlice t l c => opd1 l fun cl => opd1 c fun cc => RM.opt (elTy tt t) fun (te, e) => RM.opt (dataOf B e te.zc) fun z =>
      RM.opt (asI cl) fun (kl, nl) => RM.opt (asI cc) fun (kc, nc) => RM.chk (decide (kl = .i64) && decide (kc = .i64)) <|
        match sameOp l c with
        | true => .bind (gmake te.bytes nl z) fun xs => .ret ⟨some (.one (.own base)), [(.a base, .arr e xs (base + 1) 1)], [(base, .arr e)], []⟩
        | false => .bind (gmakec te.bytes nl nc z) fun xs => .ret ⟨some (.one (.own base)), [(.a base, .arr e xs (base + 1) 1)], [(base, .arr e)], []⟩
  | .indexAddr t x ix => opd1 x fun c => opd1 ix fun ci => RM.opt (asI ci) fun (k, n) => match arrTy tt t with
    | some (m, sz) => RM.chk (decide (k = .i64)) <| match c with
      | .pa i off => .bind (gix m n) fun _ => vals (.pa i (off + n * (sz : Int)))
      | .pf e xs off => .bind (gix m n) fun _ => vals (.pf e xs (off + n * (sz : Int)))
      | c => idxC m sz n c
    | none => RM.opt (elTy tt t) fun (_, e0) => RM.chk (decide (k = .i64)) <| match unN c with
    | .sl e xs => RM.chk (e.eqb e0) <| .bind (idx xs n) fun y => vals (.fel e y 0)
    | .own i => .read (.a i) fun
      | some (.arr e xs s _) => RM.chk (e.eqb e0) <| .bind (idx xs n) fun y => vals (.oel i e n y 0 s)
      | some (.grid e rows _ _ _ _) => RM.chk (Ty.eqb (.sl e) e0) <| .bind (idx rows n) fun _ => vals (.gop i e n)
      | _ => .fail
    | .grow g _ i h => .read (.a g) fun
      | some (.grid e rows s h' none _) => RM.chk (e.eqb e0 && Nat.beq h h') <| .bind (idx rows i) fun row => .bind (idx row n) fun y => vals (.gel g e i n y 0 s h)
      | _ => .fail
    | _ => .fail
  | .index t x ix => indexR tt t x ix
  | .makeMap t none => RM.opt (mapTy tt t) fun (_, k, v) => .ret ⟨some (.one (.mpr base)), [(.a base, .mp k v [])], [(base, .mp k v)], []⟩
  | .lookup t x ix ok => lookupR tt base t x ix ok
  | .mapUpdate t m k v => updateR tt base t m k v
  | .insert t m k v => updateR tt base t m k v
  | .slice t x lo hi none => opd1 x fun c => match c with
    | .str s => strCut tt t s lo hi
    | .pa i off => RM.chk (isZ off) (cutP tt base t i lo hi)
    | c => cutR tt base t c lo hi
  | .slice t x none (some hi) (some mx) => cut3R tt base t x hi mx
  | .slice t x (some lo) (some hi) (some mx) => opd1 x fun c => optOpd (some lo) 0 fun l => optOpd (some hi) 0 fun h => optOpd (some mx) 0 fun m =>
      match l, h, m with
      | .ofNat 0, .ofNat 0, .ofNat 0 => RM.opt (elTy tt t) fun (_, e) => match unN c with
        | .nils => vals .nils
        | .sl _ _ => .ret ⟨some (.one (.own base)), [(.a base, .arr e [] (base + 1) 0)], [(base, .arr e)], []⟩
        | .own i => .read (.a i) fun
          | some (.arr _ _ _ nn) => .ret ⟨some (.one (.own base)), [(.a base, .arr e [] (base + 1) (match nn with | 0 => 0 | _ => 1))], [(base, .arr e)], []⟩
          | _ => .fail
        | _ => .fail
      | _, _, _ => .fail
  | .makeFunc (.func fid) first cap => match first.toList with
    | [] => opds cap.toList fun ds => RM.opt (oneOf ds) fun cs => RM.chk (noUnd cs) <| match cs with
      | [] => vals (.fn0 fid)
      | cs => .ret ⟨some (.one (.fn fid base cs.length)), upK base 0 cs, [], []⟩
    | _ => .fail
  | .call c => match c.callee with
    | .builtin .len => match c.args.toList, c.argTypes.toList with
      | [x], [t] => opd1 x fun
        | .sl _ xs => RM.chk (isSl tt t) (vals (.ilen xs.length))
        | .nsl _ x => RM.chk (isSl tt t) (vals (.ilen (x.getD []).length))
        | .nils => RM.chk (isSl tt t) (vals (.ilen 0))
        | .own i => RM.chk (isSl tt t) <| .read (.a i) fun
          | some (.arr _ xs _ _) => vals (.ilen xs.length)
          | some (.grid _ rows _ _ _ _) => vals (.ilen rows.length)
          | _ => .fail
        | .grow g _ i h => RM.chk (isSl tt t) <| .read (.a g) fun
          | some (.grid _ rows _ h' none _) => RM.chk (Nat.beq h h') <| .bind (idx rows i) fun row => vals (.ilen row.length)
          | _ => .fail
        | .str s => RM.chk (isStr tt t) (vals (.int .i64 (s.size : Int)))
        | .mpr i => RM.chk (isMap tt t) <| .read (.a i) fun
          | some (.mp _ _ m) => vals (.int .i64 (m.length : Int))
          | _ => .fail
        | _ => .fail
      | _, _ => .fail
    | .builtin .cap => match c.args.toList, c.argTypes.toList with
      | [x], [t] => opd1 x fun
        | .nils => RM.chk (isSl tt t) (vals (.int .i64 0))
        | _ => .fail
      | _, _ => .fail
    | .builtin .max => opdI c.args.toList fun l => match l with
      | [(k, a), (k', b)] => RM.chk (decide (k = k') && Nat.beq c.argTypes.size 2) (vals (.int k (gmax a b)))
      | [(k, a), (k', b), (k'', d)] => RM.chk (decide (k = k') && decide (k = k'') && Nat.beq c.argTypes.size 3) (vals (.int k (gmax (gmax a b) d)))
      | [(k, a), (k', b), (k'', d), (k3, g)] => RM.chk (decide (k = k') && decide (k = k'') && decide (k = k3) && Nat.beq c.argTypes.size 4) (vals (.int k (gmax (gmax (gmax a b) d) g)))
      | _ => .fail
    | .builtin .min => opdI c.args.toList fun l => match l with
      | [(k, a), (k', b)] => RM.chk (decide (k = k') && Nat.beq c.argTypes.size 2) (vals (.int k (gmin a b)))
      | [(k, a), (k', b), (k'', d)] => RM.chk (decide (k = k') && decide (k = k'') && Nat.beq c.argTypes.size 3) (vals (.int k (gmin (gmin a b) d)))
      | [(k, a), (k', b), (k'', d), (k3, g)] => RM.chk (decide (k = k') && decide (k = k'') && decide (k = k3) && Nat.beq c.argTypes.size 4) (vals (.int k (gmin (gmin (gmin a b) d) g)))
      | _ => .fail
    | .builtin .copy => match c.args.toList, c.argTypes.toList with
      | [x, y], [t, t'] => RM.chk (Nat.beq t t') <| opd1 x fun cx => opd1 y fun cy => copyR tt base t cx cy
      | _, _ => .fail
    | .builtin .append => match c.args.toList, c.argTypes.toList with
      | [x, y], [t, t'] => match Nat.beq t t' with
        | true => opd1 x fun cx => opd1 y fun cy => appR tt base t cx cy
        | false => opd1 x fun cx => opd1 y fun cy => appZ tt base t t' cx cy
      | _, _ => .fail
    | _ => .fail
  | _ => .fail
end
end Hd
set_option linter.unusedVariables false
set_option linter.unusedSimpArgs false
namespace Hd
open Go Hk
inductive Sh where
  | d (t : Ty) | own (i : Nat) (e : Ty) | og (i : Nat) (e : Ty) | pa (i : Nat) (e : Ty) | ob (i : Nat) (e : Ty) | ptr (i off : Nat) | fn0 (fid : Nat) | fn (fid cid n : Nat) | nils | nilp | nilf | nilm | mpr (i : Nat) | und
  | kb (b : Bool) | ki (k : IntKind) (n : Int) | ks (s : ByteArray)
inductive VSh where
  | one (s : Sh) | agg (l : List Sh) | dat (t : Ty)
inductive Item where
  | slot (t : Nat) (v : VSh)
  | cell (i j : Nat) (s : Sh)
  | arr (i : Nat) (e : Ty) (nn : Nat)
  | frz (i : Nat) (e : Ty) (nn : Nat)
  | grd (i : Nat) (e : Ty) (nn h : Nat)
  | mp (i : Nat) (k v : Ty)
  | blk (i ty n : Nat)
  | clo (c j : Nat) (s : Sh)
  | kr (t n : Nat)
  | rm (i : Nat)
  | rmb (i : Nat)
structure Tpl where
  items : List Item
  ents : List (Nat × EH)
  nx : Nat
def Sh.comps : Sh → List Ty
  | .d t => [t]
  | .ob _ _ => [.bool]
  | _ => []
def shsC : List Sh → List Ty
  | [] => []
  | s :: l => s.comps ++ shsC l
def VSh.comps : VSh → List Ty
  | .one s => s.comps
  | .agg l => shsC l
  | .dat t => [t]
def Item.comps : Item → List Ty
  | .slot _ v => v.comps
  | .cell _ _ s => s.comps
  | .arr _ e _ => [.sl e]
  | .frz _ e _ => [.sl e]
  | .grd _ e _ _ => [.sl (.sl e)]
  | .mp _ k v => [.kv k v]
  | .clo _ _ s => s.comps
  | _ => []
def itemsC : List Item → List Ty
  | [] => []
  | i :: l => i.comps ++ itemsC l
abbrev TplT (B : Tab) (T : Tpl) : Type := Tup B.T (itemsC T.items)
section
variable {B : Tab} {ρ α : Type}
def unSh (rn : Nat → Nat) : (s : Sh) → HL B.T s.comps → List (Cel B)
  | .d t, p => cellsOf t p.1
  | .own i _, _ => [.own (rn i)]
  | .og i _, _ => [.own (rn i)]
  | .pa i _, _ => [.pa (rn i) 0]
  | .ob i _, p => [.ob (rn i) p.1]
  | .ptr i o, _ => [.ptr (rn i) o]
  | .fn0 f, _ => [.fn0 f]
  | .fn f c n, _ => [.fn f (rn c) n]
  | .nils, _ => [.nils]
  | .nilp, _ => [.nilp]
  | .nilf, _ => [.nilf]
  | .nilm, _ => [.nilm]
  | .mpr i, _ => [.mpr (rn i)]
  | .und, _ => [.und]
  | .kb b, _ => [.bool b]
  | .ki k n, _ => [.int k n]
  | .ks s, _ => [.str s]
def unShs (rn : Nat → Nat) : (l : List Sh) → HL B.T (shsC l) → List (Cel B)
  | [], _ => []
  | s :: l, p => unSh rn s (HL.fst s.comps (shsC l) p) ++ unShs rn l (HL.snd s.comps (shsC l) p)
def unV (rn : Nat → Nat) : (v : VSh) → HL B.T v.comps → DV B
  | .one s, p => match unSh rn s p with
    | [c] => .one c
    | l => .agg l
  | .agg l, p => .agg (unShs rn l p)
  | .dat t, p => .agg (cellsOf t p.1)
def killM : Nat → Nat → Mem B
  | _, 0 => []
  | t, n + 1 => (.s t, .v (.one .und)) :: killM (t + 1) n
def unItem (rn : Nat → Nat) (q : Nat) : (i : Item) → HL B.T i.comps → Mem B
  | .slot t v, p => [(.s t, .v (unV rn v p))]
  | .cell i j s, p => match unSh rn s p with
    | [c] => [(.c (rn i) j, .c c)]
    | _ => []
  | .arr i e nn, p => [(.a (rn i), .arr e p.1 q nn)]
  | .frz i e nn, p => [(.a (rn i), .fz e p.1 nn)]
  | .grd i e nn h, p => [(.a (rn i), .grid e p.1 q (rn h) none nn)]
  | .mp i k v, p => [(.a (rn i), .mp k v p.1)]
  | .blk i ty n, _ => [(.b (rn i), .blk ty n)]
  | .clo c j s, p => match unSh rn s p with
    | [x] => [(.k (rn c) j, .c x)]
    | _ => []
  | .kr t n, _ => killM t n
  | .rm i, _ => [(.a (rn i), .gone)]
  | .rmb i, _ => [(.b (rn i), .gone)]
def unItems (rn : Nat → Nat) : (q : Nat) → (l : List Item) → HL B.T (itemsC l) → Mem B
  | _, [], _ => []
  | q, i :: l, p => unItem rn q i (HL.fst i.comps (itemsC l) p) ++ unItems rn (q + 1) l (HL.snd i.comps (itemsC l) p)
def inRange : List (Nat × Nat) → Nat → Bool
  | [], _ => false
  | (_, b) :: r, i => match Nat.beq b i with | true => true | false => inRange r i
def role (n0 : Nat) (ov : Ov B) (e i : Nat) (k : Ov B → RM B ρ) : RM B ρ :=
  match Nat.blt e n0 with
  | true => RM.chk (Nat.beq e i) (k ov)
  | false => match assoc ov.mu e with
    | some j => RM.chk (Nat.beq j i) (k ov)
    | none => match inRange ov.mu i with
      | true => .fail
      | false => k { ov with mu := (e, i) :: ov.mu }
def readO (ov : Ov B) (i : Nat) : Nat → Nat → (List (Cel B) → RM B ρ) → RM B ρ
  | _, 0, k => k []
  | o, n + 1, k => rdo ov (.c i o) fun
    | some (.c c) => readO ov i (o + 1) n fun cs => k (c :: cs)
    | _ => .fail
def frzB (ov : Ov B) (i : Nat) (e : Ty) (k : den B.T e → Ov B → RM B ρ) : RM B ρ :=
  rdo ov (.b i) fun
    | some (.blk _ n) => readO ov i 0 n fun cs => dataC ov cs fun cs ov => RM.opt (dataOf B e cs) fun x =>
      k x { ov with up := (.b i, .fzb e x) :: ov.up, del := i :: ov.del }
    | some (.fzb e' x) => RM.opt (castD B e' e x) fun x => k x ov
    | _ => .fail
def capsO (ov : Ov B) (c : Nat) : Nat → Nat → (List (Cel B) → RM B ρ) → RM B ρ
  | _, 0, k => k []
  | j, n + 1, k => rdo ov (.k c j) fun
    | some (.c x) => capsO ov c (j + 1) n fun cs => k (x :: cs)
    | _ => .fail
def mSh (n0 lim : Nat) (ov : Ov B) (s : Sh) (c : Cel B) (k : HL B.T s.comps → Ov B → RM B ρ) : RM B ρ :=
  match s, c, k with
  | .d (.opt e), .ptr i 0, k => frzB ov i e fun x ov => k ((some x : Option (den B.T e)), ()) ov
  | .d (.sl e), .slk c n, k => capsO ov c 0 n fun cs => dataC ov cs fun cs ov => RM.chk (Nat.beq (relB B e).n 1 && Nat.ble n 1000000) <| RM.opt (elems B e n cs) fun xs => k ((xs : List (den B.T e)), ()) ov
  | .d t, c, k => dataC ov [c] fun cs ov => RM.opt (dataOf B t cs) fun x => k (x, ()) ov
  | .own i _, .own j, k => role n0 ov i j (k ())
  | .own i e, .nils, k => RM.chk (Nat.ble (ov.nx + 2) lim) (role n0 { ov with up := (.a ov.nx, .arr e [] (ov.nx + 1) 0) :: ov.up, add := (ov.nx, .arr e) :: ov.add, nx := ov.nx + 2 } i ov.nx (k ()))
  | .own i _, .ob j _, k => role n0 ov i j (k ())
  | .og i _, .own j, k => role n0 ov i j (k ())
  | .ob i _, .ob j b, k => role n0 ov i j (k ((b : Bool), ()))
  | .ob i _, .own j, k => rdo ov (.a j) fun
    | some (.arr _ _ _ nn) => RM.chk (Nat.ble 1 nn) (role n0 ov i j (k (false, ())))
    | _ => .fail
  | .ob i e, .nils, k => RM.chk (Nat.ble (ov.nx + 2) lim) (role n0 { ov with up := (.a ov.nx, .arr e [] (ov.nx + 1) 0) :: ov.up, add := (ov.nx, .arr e) :: ov.add, nx := ov.nx + 2 } i ov.nx (k (true, ())))
  | .pa i _, .pa j off, k => match off with
    | .ofNat 0 => role n0 ov i j (k ())
    | _ => .fail
  | .og i e, .nils, k => RM.chk (Nat.ble (ov.nx + 3) lim) (role n0 { ov with up := (.a ov.nx, .grid e [] (ov.nx + 1) (ov.nx + 2) none 0) :: ov.up, add := (ov.nx, .grid e) :: ov.add, nx := ov.nx + 3 } i ov.nx (k ()))
  | .ptr i o, .ptr j o', k => RM.chk (Nat.beq o o') (role n0 ov i j (k ()))
  | .fn0 f, .fn0 g, k => RM.chk (Nat.beq f g) (k () ov)
  | .fn f c n, .fn g d m, k => RM.chk (Nat.beq f g && Nat.beq n m) (role n0 ov c d (k ()))
  | .nils, .nils, k => k () ov
  | .nilp, .nilp, k => k () ov
  | .nilf, .nilf, k => k () ov
  | .nilm, .nilm, k => k () ov
  | .mpr i, .mpr j, k => role n0 ov i j (k ())
  | .und, _, k => k () ov
  | .kb b, .bool b', k => RM.chk (b == b') (k () ov)
  | .ki q n, c, k => RM.chk (match asI c with | some (q', n') => decide (q = q') && decide (n = n') | none => false) (k () ov)
  | .ks s, .str s', k => RM.chk (decide (s = s')) (k () ov)
  | _, _, _ => .fail
def mShs (n0 lim : Nat) : (ov : Ov B) → (l : List Sh) → List (Cel B) → (HL B.T (shsC l) → Ov B → RM B ρ) → RM B ρ
  | ov, [], [], k => k () ov
  | ov, s :: l, c :: cs, k => mSh n0 lim ov s c fun p ov => mShs n0 lim ov l cs fun q ov => k (HL.app s.comps (shsC l) p q) ov
  | _, _, _, _ => .fail
def mV (n0 lim : Nat) (ov : Ov B) (v : VSh) (d : DV B) (k : HL B.T v.comps → Ov B → RM B ρ) : RM B ρ :=
  match v, d, k with
  | .one s, .one c, k => mSh n0 lim ov s c k
  | .agg l, .agg cs, k => mShs n0 lim ov l cs k
  | .dat t, .agg cs, k => dataC ov cs fun cs ov => RM.opt (dataOf B t cs) fun x => k (x, ()) ov
  | _, _, _ => .fail
def roleOf (n0 : Nat) (ov : Ov B) (e : Nat) (k : Nat → RM B ρ) : RM B ρ :=
  match Nat.blt e n0 with
  | true => k e
  | false => RM.opt (assoc ov.mu e) k
def mItem (n0 lim : Nat) (sl : Nat → (DV B → RM B ρ) → RM B ρ) (ov : Ov B) (i : Item) (k : HL B.T i.comps → Ov B → RM B ρ) : RM B ρ :=
  match i, k with
  | .slot t v, k => sl t fun d => mV n0 lim ov v d k
  | .cell i j s, k => roleOf n0 ov i fun i => rdo ov (.b i) fun
    | some (.blk _ n) => RM.chk (Nat.blt j n) <| rdo ov (.c i j) fun
      | some (.c c) => mSh n0 lim ov s c k
      | _ => .fail
    | _ => .fail
  | .arr i e nn, k => roleOf n0 ov i fun i => rdo ov (.a i) fun
    | some (.arr e' xs _ nn') => RM.chk (Nat.ble nn nn') <| RM.opt (castD B (.sl e') (.sl e) xs) fun ys => k (ys, ()) ov
    | _ => .fail
  | .frz i e nn, k => roleOf n0 ov i fun i => frzA ov i fun e' xs _ ov => RM.chk (Nat.beq nn 0) <| RM.opt (castD B (.sl e') (.sl e) xs) fun ys => k (ys, ()) ov
  | .grd i e nn h, k => roleOf n0 ov i fun i => rdo ov (.a i) fun
    | some (.grid e' rows _ h' none nn') => RM.chk (Nat.ble nn nn') <| RM.opt (castD B (.sl (.sl e')) (.sl (.sl e)) rows) fun ys => role n0 ov h h' (k (ys, ()))
    | _ => .fail
  | .mp i kt vt, k => roleOf n0 ov i fun i => rdo ov (.a i) fun
    | some (.mp k' v' m) => RM.opt (castD B (.kv k' v') (.kv kt vt) m) fun m => k (m, ()) ov
    | some (.mph k' e m key (some j)) => RM.chk (!(Nat.beq j i)) <| rdo ov (.a j) fun
      | some (.arr e' ys _ _) => RM.opt (castD B (.sl e') (.sl e) ys) fun ys => RM.opt (castD B (.kv k' (.sl e)) (.kv kt vt) (mset (keqD B k') key ys m)) fun m' =>
        k (m', ()) { ov with up := (.a i, .mp k' (.sl e) (mset (keqD B k') key ys m)) :: (.a j, .gone) :: ov.up, del := j :: ov.del }
      | _ => .fail
    | _ => .fail
  | .blk i ty n, k => roleOf n0 ov i fun i => rdo ov (.b i) fun
    | some (.blk ty' n') => RM.chk (Nat.beq ty ty' && Nat.beq n n') (k () ov)
    | _ => .fail
  | .clo c j s, k => roleOf n0 ov c fun c => rdo ov (.k c j) fun
    | some (.c x) => mSh n0 lim ov s x k
    | _ => .fail
  | .kr _ _, k => k () ov
  | .rm _, k => k () ov
  | .rmb _, k => k () ov
def mItems (n0 lim : Nat) (sl : Nat → (DV B → RM B ρ) → RM B ρ) : (ov : Ov B) → (l : List Item) → (HL B.T (itemsC l) → Ov B → RM B ρ) → RM B ρ
  | ov, [], k => k () ov
  | ov, i :: l, k => mItem n0 lim sl ov i fun p ov => mItems n0 lim sl ov l fun q ov => k (HL.app i.comps (itemsC l) p q) ov
structure Spec (B : Tab) where
  fid : Nat
  args : Tpl
  res : Tpl
  rts : List Nat
  fn : TplT B args → Option (TplT B res)
def hasId : List (Nat × EH) → Nat → Bool
  | [], _ => false
  | (a, _) :: r, i => match Nat.beq a i with | true => true | false => hasId r i
def killK : Nat → Nat → List Loc
  | _, 0 => []
  | t, n + 1 => .s t :: killK (t + 1) n
def itemKey : Item → List Loc
  | .slot t _ => [.s t]
  | .cell i j _ => [.c i j]
  | .arr i _ _ => [.a i]
  | .frz i _ _ => [.a i]
  | .grd i _ _ _ => [.a i]
  | .mp i _ _ => [.a i]
  | .blk i _ _ => [.b i]
  | .clo c j _ => [.k c j]
  | .kr t n => killK t n
  | .rm i => [.a i]
  | .rmb i => [.b i]
def itemKeys : List Item → List Loc
  | [] => []
  | i :: l => itemKey i ++ itemKeys l
def memL : List Loc → Loc → Bool
  | [], _ => false
  | a :: r, l => match a.beq l with | true => true | false => memL r l
def entEq : EH → EH → Bool
  | .arr e, .arr e' => e.eqb e'
  | .grid e, .grid e' => e.eqb e'
  | .mp k v, .mp k' v' => k.eqb k' && v.eqb v'
  | .blk t n, .blk t' n' => Nat.beq t t' && Nat.beq n n'
  | _, _ => false
def findE : List (Nat × EH) → Nat → Option EH
  | [], _ => none
  | (a, h) :: r, i => match Nat.beq a i with | true => some h | false => findE r i
def idsOnce : List (Nat × EH) → Bool
  | [] => true
  | (i, _) :: r => match hasId r i with | true => false | false => idsOnce r
def rolesLow (nx : Nat) : List (Nat × Nat) → Bool
  | [] => true
  | (e, _) :: r => Nat.blt e nx && rolesLow nx r
def entIs (E : List (Nat × EH)) (i : Nat) (h : EH) : Bool := match findE E i with | some h' => entEq h h' | none => false
def itemsTold (E : List (Nat × EH)) : List Item → Bool
  | [] => true
  | .arr i e _ :: r => match entIs E i (.arr e) with | true => itemsTold E r | false => false
  | .grd i e _ _ :: r => match entIs E i (.grid e) with | true => itemsTold E r | false => false
  | .mp i k v :: r => match entIs E i (.mp k v) with | true => itemsTold E r | false => false
  | .blk i ty n :: r => match entIs E i (.blk ty n) with | true => itemsTold E r | false => false
  | .frz i _ _ :: r => match hasId E i with | true => false | false => itemsTold E r
  | .rm i :: r => match hasId E i with | true => false | false => itemsTold E r
  | .rmb i :: r => match hasId E i with | true => false | false => itemsTold E r
  | _ :: r => itemsTold E r
def cellsTold (keys : List Loc) (i : Nat) : Nat → Bool
  | 0 => true
  | n + 1 => match memL keys (.c i n) with | true => cellsTold keys i n | false => false
def entTold (keys : List Loc) (i : Nat) : EH → Bool
  | .arr _ => memL keys (.a i)
  | .grid _ => memL keys (.a i)
  | .mp _ _ => memL keys (.a i)
  | .blk _ n => memL keys (.b i) && cellsTold keys i n
def entsTold (keys : List Loc) (E0 : List (Nat × EH)) : List (Nat × EH) → Bool
  | [] => true
  | (i, h) :: r => match entIs E0 i h || entTold keys i h with | true => entsTold keys E0 r | false => false
def tplOk (E0 : List (Nat × EH)) (T : Tpl) : Bool := idsOnce T.ents && itemsTold T.ents T.items && entsTold (itemKeys T.items) E0 T.ents
def keysLow (n : Nat) : List Loc → Bool
  | [] => true
  | .s _ :: r => keysLow n r
  | .c i _ :: r => Nat.blt i n && keysLow n r
  | .a i :: r => Nat.blt i n && keysLow n r
  | .b i :: r => Nat.blt i n && keysLow n r
  | .k i _ :: r => Nat.blt i n && keysLow n r
def scalSh : Sh → Bool
  | .d (.int _) => true
  | .d .bool => true
  | .d .str => true
  | .kb _ => true
  | .ki _ _ => true
  | .ks _ => true
  | .own _ _ => true
  | .ptr _ _ => true
  | _ => false
def cellScal : List Item → Nat → Nat → Bool
  | [], _, _ => true
  | .cell i' j' s :: r, i, j => match Nat.beq i' i && Nat.beq j' j with | true => scalSh s && cellScal r i j | false => cellScal r i j
  | _ :: r, i, j => cellScal r i j
def cellsKept (its : List Item) (keys : List Loc) (i : Nat) : Nat → Bool
  | 0 => true
  | n + 1 => match memL keys (.c i n) || cellScal its i n with | true => cellsKept its keys i n | false => false
def keepsOk (its : List Item) (a : Nat) (E : List (Nat × EH)) (keys : List Loc) : List (Nat × EH) → Bool
  | [] => true
  | (i, h) :: r => match Nat.ble a i || (entIs E i h && (match h with | .arr _ => true | .grid _ => true | .mp _ _ => true | .blk _ n => cellsKept its keys i n)) with | true => keepsOk its a E keys r | false => false
def oneC : Sh → Bool
  | .d (.st _) => false
  | .d (.kv _ _) => false
  | _ => true
def itemsOne : List Item → Bool
  | [] => true
  | .cell _ _ s :: r => oneC s && itemsOne r
  | .clo _ _ s :: r => oneC s && itemsOne r
  | _ :: r => itemsOne r
def keysHeld (a : Nat) (E : List (Nat × EH)) : List Loc → Bool
  | [] => true
  | .c i _ :: r => (Nat.ble a i || hasId E i) && keysHeld a E r
  | .a i :: r => (Nat.ble a i || hasId E i) && keysHeld a E r
  | .b i :: r => (Nat.ble a i || hasId E i) && keysHeld a E r
  | _ :: r => keysHeld a E r
def Spec.ok (S : Spec B) : Bool := tplOk [] S.args && keysLow S.res.nx (itemKeys S.res.items) && itemsOne S.res.items && keepsOk S.args.items S.args.nx S.args.ents (itemKeys S.res.items) S.res.ents && Nat.ble S.args.nx S.res.nx && keysHeld S.args.nx S.args.ents (itemKeys S.res.items)
def allIn (mu : List (Nat × Nat)) : Nat → Bool
  | 0 => true
  | n + 1 => match assoc mu n with | some _ => allIn mu n | none => false
def memN : List Nat → Nat → Bool
  | [], _ => false
  | a :: r, i => match Nat.beq a i with | true => true | false => memN r i
def entsLive (mu : List (Nat × Nat)) (del : List Nat) : List (Nat × EH) → Bool
  | [] => true
  | (i, _) :: r => match assoc mu i with
    | some j => match memN del j with | true => false | false => entsLive mu del r
    | none => false
def resV (m : Mem B) : List Nat → Option (List (Bool × List (Cel B)))
  | [] => some []
  | t :: r => match look m (.s t) with
    | some (.v (.one c)) => match resV m r with | some l => some ((false, [c]) :: l) | none => none
    | some (.v (.agg cs)) => match resV m r with | some l => some ((true, cs) :: l) | none => none
    | _ => none
def noSlots : Mem B → Mem B
  | [] => []
  | (.s _, _) :: r => noSlots r
  | x :: r => x :: noSlots r
def newEnts (rn : Nat → Nat) (n : Nat) : List (Nat × EH) → List (Nat × EH)
  | [] => []
  | (i, h) :: r => match Nat.blt i n with | true => newEnts rn n r | false => (rn i, h) :: newEnts rn n r
def goneM (rn : Nat → Nat) (now : List (Nat × EH)) : List (Nat × EH) → Mem B
  | [] => []
  | (i, h) :: r => match hasId now i with
    | true => goneM rn now r
    | false => (match h with | .arr _ => (.a (rn i), .gone) | .grid _ => (.a (rn i), .gone) | .mp _ _ => (.a (rn i), .gone) | .blk _ _ => (.b (rn i), .gone)) :: goneM rn now r
def goneEnts (rn : Nat → Nat) (now : List (Nat × EH)) : List (Nat × EH) → List Nat
  | [] => []
  | (i, _) :: r => match hasId now i with | true => goneEnts rn now r | false => rn i :: goneEnts rn now r
def scalC : List (Cel B) → Bool
  | [] => true
  | .int _ _ :: r => scalC r
  | .bool _ :: r => scalC r
  | .str _ :: r => scalC r
  | _ :: _ => false
def scalT : List (Bool × List (Cel B)) → Bool
  | [] => true
  | (_, cs) :: r => scalC cs && scalT r
def scalI : List Item → Bool
  | [] => true
  | .slot _ (.one (.d (.int _))) :: r => scalI r
  | .slot _ (.one (.d .bool)) :: r => scalI r
  | .slot _ (.one (.d .str)) :: r => scalI r
  | .slot _ (.one (.kb _)) :: r => scalI r
  | .slot _ (.one (.ki _ _)) :: r => scalI r
  | .slot _ (.one (.ks _)) :: r => scalI r
  | _ :: _ => false
def noEnts : List (Nat × EH) → Bool
  | [] => true
  | _ => false
def lends (S : Spec B) : Bool := noEnts S.args.ents && noEnts S.res.ents && scalI S.res.items
def flatL (B : Tab) : Nat → Ty → Bool
  | _, .int _ => true
  | _, .bool => true
  | _, .str => true
  | d + 1, .st i => flatLs (flatL B d) (B.fs i)
  | _, _ => false
where flatLs (F : Ty → Bool) : List Ty → Bool
  | [] => true
  | t :: l => match F t with | true => flatLs F l | false => false
def lendsA (S : Spec B) : Bool := noEnts S.args.ents && match S.res.items, S.rts, S.res.ents with
  | [.slot t (.one (.own i _)), .arr i' e _], [t'], [(j, .arr e')] => Nat.beq t t' && Nat.beq i i' && Nat.beq i j && e.eqb e' && flatL B 8 e
  | _, _, _ => false
def freshA : (l : List Item) → HL B.T (itemsC l) → Option ((e : Ty) × List (den B.T e) × Nat)
  | [.slot _ (.one (.own _ _)), .arr _ e nn], p => some ⟨e, p.1, nn⟩
  | _, _ => none
def tupD : List (Bool × List (Cel B)) → DV B
  | [(false, [c])] => .one c
  | [(true, cs)] => .agg cs
  | l => .tup l
def slotsN : List Item → Nat
  | [] => 0
  | .slot _ _ :: r => slotsN r + 1
  | _ :: r => slotsN r
def lenIs {α : Type} : List α → Nat → Bool
  | [], 0 => true
  | _ :: l, n + 1 => lenIs l n
  | _, _ => false
def callProg (S : Spec B) (base : Nat) (ds : List (DV B)) : RM B (Out B) :=
  mItems 0 (base + stepV) (fun t k => match nthL ds t with | some d => k d | none => .fail) ⟨[], [], [], base, []⟩ S.args.items fun p ov =>
    RM.chk (S.ok && rolesLow S.args.nx ov.mu && allIn ov.mu S.args.nx && entsLive ov.mu ov.del S.args.ents && lenIs ds (slotsN S.args.items)) <| .bind (S.fn (ofHL _ p)) fun r => match lends S with
    | true => RM.opt (resV (unItems (fun e => e) S.res.nx S.res.items (toHL _ r)) S.rts) fun l => RM.chk (scalT l) <| .ret ⟨some (tupD l), [], [], []⟩
    | false => match lendsA S with
    | true => RM.opt (freshA S.res.items (toHL _ r)) fun x => .ret ⟨some (.one (.own base)), [(.a base, .arr x.1 x.2.1 (base + 1) x.2.2)], [(base, .arr x.1)], []⟩
    | false =>
      let rn : Nat → Nat := fun e => match Nat.blt e S.args.nx with | true => (assoc ov.mu e).getD 0 | false => ov.nx + (e - S.args.nx)
      let m := unItems rn (ov.nx + (S.res.nx - S.args.nx)) S.res.items (toHL _ r)
      RM.chk (Nat.ble (ov.nx + (S.res.nx - S.args.nx) + S.res.items.length) (base + stepV)) <| RM.opt (resV m S.rts) fun l =>
        let d : DV B := match l with
          | [(false, [c])] => .one c
          | [(true, cs)] => .agg cs
          | l => .tup l
        .ret ⟨some d, goneM rn S.res.ents S.args.ents ++ (noSlots m ++ ov.up), newEnts rn S.args.nx S.res.ents ++ ov.add, goneEnts rn S.res.ents S.args.ents ++ ov.del⟩
structure St (B : Tab) where
  m : Mem B
  E : List (Nat × EH)
  nx : Nat
def lkS (a0 fr : Mem B) (m : Mem B) (l : Loc) : Option (Con B) :=
  match look m l with
  | some c => some c
  | none => match look fr l with
    | some c => some c
    | none => look a0 l
def delE : List (Nat × EH) → Nat → List (Nat × EH)
  | [], _ => []
  | (a, h) :: r, i => match Nat.beq a i with | true => delE r i | false => (a, h) :: delE r i
def delsE : List (Nat × EH) → List Nat → List (Nat × EH)
  | E, [] => E
  | E, i :: l => delsE (delE E i) l
def callee (c : Call) (k : Nat → List (DV B) → RM B ρ) : RM B ρ :=
  match c.callee with
  | .value f => opd1 f fun
    | .fn0 fid => opds c.args.toList fun ds => k fid ds
    | .fn fid cid n => opds c.args.toList fun ds => caps cid 0 n fun cs => k fid (ds ++ cs)
    | _ => .fail
  | _ => .fail
where caps (cid : Nat) : Nat → Nat → (List (DV B) → RM B ρ) → RM B ρ
  | _, 0, k => k []
  | j, n + 1, k => .read (.k cid j) fun
    | some (.c c) => resC c fun c => caps cid (j + 1) n fun cs => k (.one c :: cs)
    | _ => .fail
def RM.over {ρ : Type} (ups : Mem B) : RM B ρ → RM B ρ
  | .ret x => .ret x
  | .read l k => match look ups l with
    | some c => RM.over ups (k (some c))
    | none => .read l fun c => RM.over ups (k c)
  | .bind x k => .bind x fun y => RM.over ups (k y)
  | .ite b x y => .ite b (RM.over ups x) (RM.over ups y)
  | .fail => .fail
def RM.andThen {ρ ρ' : Type} (f : ρ → RM B ρ') : RM B ρ → RM B ρ'
  | .ret x => f x
  | .read l k => .read l fun c => RM.andThen f (k c)
  | .bind x k => .bind x fun y => RM.andThen f (k y)
  | .ite b x y => .ite b (RM.andThen f x) (RM.andThen f y)
  | .fail => .fail
def memNat : List Nat → Nat → Bool
  | [], _ => false
  | a :: r, i => match Nat.beq a i with | true => true | false => memNat r i
def rowUps (base tx g : Nat) (e : Ty) (i : Int) (s h nn : Nat) (rows : List (List (den B.T e))) (row : List (den B.T e)) : Mem B :=
  [(.s tx, .v (.one (.own (base + 60)))), (.a g, .grid e rows s h (some i) nn), (.a (base + 60), .arr e row (base + 61) 0)]
def rowOp (tt : List (TI B)) (base : Nat) (x : Operand) (o : Op) : RM B (Out B) :=
  match x with
  | .tmp tx => .read (.s tx) fun
    | some (.v (.one (.grow g _ i h))) => .read (.a g) fun
      | some (.grid e rows s h' none nn) => RM.chk (Nat.beq h h') <| .bind (idx rows i) fun row =>
        RM.andThen (fun out => RM.chk (memNat out.del (base + 60)) <| .ret ⟨out.v, out.up ++ [(.a g, .grid e rows s h (some i) nn), (.a (base + 60), .arr e row (base + 61) 0)], out.add, out.del⟩)
          (RM.over (rowUps base tx g e i s h nn rows row) (opProg tt base o))
      | _ => .fail
    | _ => .fail
  | _ => .fail
def gridMake (tt : List (TI B)) (base t : Nat) (l c : Operand) : RM B (Out B) :=
  opd1 l fun cl => RM.opt (elTy tt t) fun (te, e0) => RM.opt (asI cl) fun (kl, nl) => match e0 with
    | .sl e => RM.chk (decide (kl = .i64) && sameOp l c && zcNil te.zc && !te.agg) <| .bind (gmake te.bytes nl ([] : List (den B.T e))) fun rows =>
      .ret ⟨some (.one (.own base)), [(.a base, .grid e rows (base + 1) (base + 2) none 0)], [(base, .grid e)], []⟩
    | _ => .fail
where zcNil : List (Cel B) → Bool
  | [.nils] => true
  | _ => false
def gridLit (tt : List (TI B)) (base t n : Nat) (parts : List (Nat × Operand)) : RM B (Out B) :=
  match n, parts with
  | 1, [(0, x)] => opdL x fun cs => RM.opt (elTy tt t) fun (te, e0) => match e0 with
    | .sl e => RM.chk (gridMake.zcNil te.zc) <| match cs with
      | [.own k] => .read (.a k) fun
        | some (.arr e' ys _ _) => RM.opt (castD B (.sl e') (.sl e) ys) fun ys => .ret ⟨some (.one (.own base)), [(.a base, .grid e [ys] (base + 1) (base + 2) none 1), (.a k, .gone)], [(base, .grid e)], [k]⟩
        | _ => .fail
      | [.nils] => .ret ⟨some (.one (.own base)), [(.a base, .grid e [[]] (base + 1) (base + 2) none 1)], [(base, .grid e)], []⟩
      | _ => .fail
    | _ => .fail
  | _, _ => .fail
def gridApp (tt : List (TI B)) (base t : Nat) (cx cy : Cel B) : RM B (Out B) :=
  RM.opt (elTy tt t) fun (te, e0) => match e0, cy with
  | .sl e, .own j => .read (.a j) fun
    | some (.grid e1 rows1 _ _ none _) => match rows1 with
      | [row] => RM.opt (castD B (.sl e1) (.sl e) row) fun row => match cx with
        | .own i => RM.chk (!(Nat.beq j i)) <| .read (.a i) fun
          | some (.grid e2 rows _ _ none _) => RM.opt (castD B (.sl (.sl e2)) (.sl (.sl e)) rows) fun rows => .bind (gapp te.bytes rows [row]) fun r =>
            .ret ⟨some (.one (.own base)), [(.a base, .grid e r (base + 1) (base + 2) none 0), (.a i, .gone), (.a j, .gone)], [(base, .grid e)], [i, j]⟩
          | _ => .fail
        | .nils => .bind (gapp te.bytes [] [row]) fun r => .ret ⟨some (.one (.own base)), [(.a base, .grid e r (base + 1) (base + 2) none 0), (.a j, .gone)], [(base, .grid e)], [j]⟩
        | _ => .fail
      | _ => .fail
    | _ => .fail
  | _, _ => .fail
def anyProg (tt : List (TI B)) (specs : List (Spec B)) (calls : List (Nat × Nat)) (i base : Nat) (o : Op) : RM B (Out B) :=
  match o with
  | .call c => match c.callee with
    | .value _ => callee c fun fid ds => match assoc calls i with
      | some s => match nthL specs s with
        | some S => RM.chk (Nat.beq S.fid fid) (callProg S base ds)
        | none => .fail
      | none => .fail
    | .builtin .append => match c.args.toList, assoc calls i with
      | x :: rest, some (k + 1) => match k with
        | 0 => rowOp tt base x (.call c)
        | _ + 1 => match rest, c.argTypes.toList with
          | [y], [t, t'] => RM.chk (Nat.beq t t') <| opd1 x fun cx => opd1 y fun cy => gridApp tt base t cx cy
          | _, _ => .fail
      | _, _ => opProg tt base (.call c)
    | _ => opProg tt base o
  | .makeSlice t l c => match assoc calls i with
    | some _ => gridMake tt base t l c
    | none => opProg tt base (.makeSlice t l c)
  | .buildSlice t n parts => match assoc calls i with
    | some 3 => hdrLit tt base t n parts.toList
    | some _ => gridLit tt base t n parts.toList
    | none => opProg tt base (.buildSlice t n parts)
  | .alloc t => match assoc calls i with
    | some _ => allocB tt base t
    | none => opProg tt base (.alloc t)
  | .box t x => match assoc calls i with
    | some _ => boxB base t x
    | none => opProg tt base (.box t x)
  | .slice t x lo hi mx => match assoc calls i with
    | some 0 => match mx with
      | none => viewR tt t x lo hi
      | some _ => .fail
    | some _ => rowOp tt base x (.slice t x lo hi mx)
    | none => opProg tt base (.slice t x lo hi mx)
  | o => opProg tt base o
def isGuard : List Oper → Nat → Bool
  | [], _ => false
  | o :: l, i => match o.guard with
    | some (j, _) => match Nat.beq j i with | true => true | false => isGuard l i
    | none => isGuard l i
def keysOf : Mem B → List Loc
  | [] => []
  | (l, _) :: r => l :: keysOf r
def disj : List Loc → List Loc → Bool
  | [], _ => true
  | a :: r, l => match memL l a with | true => false | false => disj r l
def bindsB (e : Edge) : Bool := match e.ground with | .textOnly _ => false | .gcOnly _ => false | _ => true
def befMask (acc : List (Nat × Nat)) : List Edge → Nat
  | [] => 0
  | e :: l => match bindsB e with
    | true => Nat.lor (Nat.lor (Nat.shiftLeft 1 e.on) ((assoc acc e.on).getD 0)) (befMask acc l)
    | false => befMask acc l
def befAll : List Oper → Nat → List (Nat × Nat) → List (Nat × Nat)
  | [], _, acc => acc
  | o :: l, i, acc => befAll l (i + 1) ((i, befMask acc o.after.toList) :: acc)
def bitOf (m i : Nat) : Bool := Nat.testBit m i
structure Row where
  i : Nat
  rs : List Loc
  ws : List Loc
def edgesLow (i : Nat) : List Edge → Bool
  | [] => true
  | e :: l => match bindsB e with | true => Nat.blt e.on i && edgesLow i l | false => edgesLow i l
def apartRow (b : Nat) (r : Row) : List Row → Bool
  | [] => true
  | q :: l => match bitOf b q.i with
    | true => apartRow b r l
    | false => disj r.rs q.ws && disj r.ws q.rs && disj r.ws q.ws && apartRow b r l
def apartRows (tab : List (Nat × Nat)) : List Row → Bool
  | [] => true
  | r :: l => apartRow ((assoc tab r.i).getD 0) r l && apartRows tab l
def outM (o : Oper) (out : Out B) : Option (Mem B) :=
  match o.dst, out.v with
  | some d, some v => some ((.s d, .v v) :: out.up)
  | none, none => some out.up
  | _, _ => none
def addK : List (Nat × EH) → List Loc
  | [] => []
  | (i, _) :: r => .a i :: addK r
def delK : List Nat → List Loc
  | [] => []
  | i :: r => .a i :: delK r
def idKeys (add : List (Nat × EH)) (del : List Nat) : List Loc := addK add ++ delK del
def addRow : Bool → Row → List Row → List Row
  | true, x, rows => x :: rows
  | false, _, _ => []
noncomputable def runOp (tt : List (TI B)) (specs : List (Spec B)) (calls : List (Nat × Nat)) (a0 fr : Mem B) (draw : Bool) (base : Nat) (o : Oper) (i : Nat) (gd : Bool) (m : Mem B) (E : List (Nat × EH)) (rows : List Row) (gs : List Loc)
    (k : Mem B → List (Nat × EH) → List Row → Option α) : Option α :=
  (anyProg tt specs calls i (base + stepW * i) o.op).go (lkS a0 fr m) [] fun out rs =>
    match outM o out with
    | none => none
    | some um =>
      let rows' : List Row := addRow draw ⟨i, gs ++ rs, keysOf um ++ idKeys out.add out.del⟩ rows
      let E' := delsE (out.add ++ E) out.del
      match gd, out.v, o.dst with
      | true, some (.one (.bool b)), some d =>
        Bool.rec (k ((.s d, .v (.one (.bool false))) :: um ++ m) E' rows') (k ((.s d, .v (.one (.bool true))) :: um ++ m) E' rows') b
      | _, _, _ => k (um ++ m) E' rows'
def guardOf (lk : Loc → Option (Con B)) (all : List Oper) (o : Oper) : Option (Bool × List Loc) :=
  match o.guard with
  | none => some (true, [])
  | some (j, want) => match nthL all j with
    | some oj => match oj.dst with
      | some d => match lk (.s d) with
        | some (.v (.one (.bool b))) => match b, want with
          | true, true => some (true, [.s d])
          | false, false => some (true, [.s d])
          | _, _ => some (false, [.s d])
        | some (.v .pas) => some (false, [.s d])
        | _ => none
      | none => none
    | none => none
noncomputable def Dops (tt : List (TI B)) (specs : List (Spec B)) (calls : List (Nat × Nat)) (a0 fr : Mem B) (all : List Oper) (draw : Bool) (base : Nat) :
    (l : List Oper) → (i : Nat) → (m : Mem B) → (E : List (Nat × EH)) → List Row → (Mem B → List (Nat × EH) → List Row → Option α) → Option α
  | [], _, m, E, rows, k => k m E rows
  | o :: l, i, m, E, rows, k =>
    match draw && !(edgesLow i o.after.toList) with
    | true => none
    | false => match guardOf (lkS a0 fr m) all o with
      | some (true, gs) => runOp tt specs calls a0 fr draw base o i (isGuard l i) m E rows gs fun m E rows => Dops tt specs calls a0 fr all draw base l (i + 1) m E rows k
      | some (false, gs) => match o.dst with
        | some d => Dops tt specs calls a0 fr all draw base l (i + 1) ((.s d, .v .pas) :: m) E (addRow draw ⟨i, gs, [.s d]⟩ rows) k
        | none => none
      | none => none
inductive Hint where
  | n
  | r (calls : List (Nat × Nat))
  | s (a b : Hint)
  | cut (T : Tpl) (ret : Bool) (outs : List (Nat × Tpl)) (a b : Hint)
  | c (x y : Hint)
  | b (h : Hint)
  | lp (T TX : Tpl) (ret : Bool) (outs : List (Nat × Tpl)) (h : Hint)
  | rg (T : Tpl) (ret : Bool) (h : Hint)
  | un (n : Nat) (h : Hint)
  | rf (T TR : Tpl) (ret : Bool) (outs : List (Nat × Tpl)) (ha hb : Hint)
structure KK (B : Tab) (R α : Type) where
  go : St B → Option α
  ex : Nat → St B → Option α
  rt : R → Option α
def fresh (n : Nat) (ret : Bool) : Loc → Bool
  | .s _ => ret
  | .c i _ => Nat.ble n i
  | .a i => Nat.ble n i
  | .b i => Nat.ble n i
  | .k i _ => Nat.ble n i
def covered (n : Nat) (ret : Bool) (keys : List Loc) : Mem B → Bool
  | [] => true
  | (l, _) :: r => match fresh n ret l with
    | true => covered n ret keys r
    | false => match memL keys l with | true => covered n ret keys r | false => false
def entsIn (n0 : Nat) (mu : List (Nat × Nat)) (E : List (Nat × EH)) : List (Nat × EH) → Bool
  | [] => true
  | (i, h) :: r =>
    match (match Nat.blt i n0 with | true => some i | false => assoc mu i) with
    | some j => match findE E j with
      | some h' => match entEq h h' with | true => entsIn n0 mu E r | false => false
      | none => false
    | none => false
def oldTold (keys : List Loc) (now : List (Nat × EH)) : List (Nat × EH) → Bool
  | [] => true
  | (i, h) :: r => match hasId now i with
    | true => oldTold keys now r
    | false => match h with
      | .arr _ => memL keys (.a i) && oldTold keys now r
      | .grid _ => memL keys (.a i) && oldTold keys now r
      | .mp _ _ => memL keys (.a i) && oldTold keys now r
      | .blk _ _ => memL keys (.b i) && oldTold keys now r
def muApart (n0 : Nat) (E : List (Nat × EH)) : List (Nat × Nat) → Bool
  | [] => true
  | (_, j) :: r => match Nat.ble n0 j || !(hasId E j) with | true => muApart n0 E r | false => false
noncomputable def pk (a0 fr : Mem B) (n0 : Nat) (E0 : List (Nat × EH)) (ret : Bool) (T : Tpl) (m : Mem B) (E : List (Nat × EH)) (nx : Nat) (k : TplT B T → Option α) : Option α :=
  (mItems (ρ := HL B.T (itemsC T.items) × Ov B) n0 (nx + 1000000) (fun t k => .read (.s t) fun | some (.v d) => k d | _ => .fail) ⟨[], [], [], nx, []⟩ T.items fun p ov => .ret (p, ov)).go (lkS a0 fr m) [] fun (p, ov) _ =>
    match covered n0 ret (itemKeys T.items) ov.up && entsIn n0 ov.mu (delsE (ov.add ++ E) ov.del) T.ents && rolesLow T.nx ov.mu && muApart n0 T.ents ov.mu && tplOk E0 T && Nat.ble n0 T.nx && oldTold (itemKeys T.items) T.ents E0 with
    | true => k (ofHL _ p)
    | false => none
def unM (T : Tpl) (t : TplT B T) : Mem B := unItems (fun e => e) T.nx T.items (toHL _ t)
def unSt (T : Tpl) (t : TplT B T) : St B := ⟨unM T t, T.ents, T.nx + T.items.length⟩
def aft (T : Tpl) (t : TplT B T) (m : Mem B) : St B := ⟨unM T t ++ m, T.ents, T.nx + T.items.length⟩
def OutX (B : Tab) : List (Nat × Tpl) → Type
  | [] => Empty
  | [(_, T)] => TplT B T
  | (_, T) :: y :: l => TplT B T ⊕ OutX B (y :: l)
def OutT (B : Tab) (R : Type) : Bool → List (Nat × Tpl) → Type
  | false, l => OutX B l
  | true, [] => R
  | true, x :: l => R ⊕ OutX B (x :: l)
def inX : (l : List (Nat × Tpl)) → Nat → ((T : Tpl) → (TplT B T → Option α) → Option α) → (OutX B l → Option α) → Option α
  | [], _, _, _ => none
  | [(i, T)], id, f, k => match Nat.beq i id with | true => f T k | false => none
  | (i, T) :: y :: l, id, f, k => match Nat.beq i id with | true => f T fun t => k (.inl t) | false => inX (y :: l) id f fun o => k (.inr o)
def inR {R : Type} : (ret : Bool) → (l : List (Nat × Tpl)) → R → (OutT B R ret l → Option α) → Option α
  | false, _, _, _ => none
  | true, [], r, k => k r
  | true, _ :: _, r, k => k (.inl r)
def inE {R : Type} : (ret : Bool) → (l : List (Nat × Tpl)) → Nat → ((T : Tpl) → (TplT B T → Option α) → Option α) → (OutT B R ret l → Option α) → Option α
  | false, l, id, f, k => inX l id f k
  | true, [], _, _, _ => none
  | true, x :: l, id, f, k => inX (x :: l) id f fun o => k (.inr o)
def onX : (l : List (Nat × Tpl)) → OutX B l → ((i : Nat) → (T : Tpl) → TplT B T → Option α) → Option α
  | [], o, _ => o.elim
  | [(i, T)], t, f => f i T t
  | (i, T) :: y :: l, o, f => Sum.elim (fun t => f i T t) (fun o => onX (y :: l) o f) o
def onO {R : Type} : (ret : Bool) → (l : List (Nat × Tpl)) → OutT B R ret l → (R → Option α) → ((i : Nat) → (T : Tpl) → TplT B T → Option α) → Option α
  | false, l, o, _, f => onX l o f
  | true, [], r, g, _ => g r
  | true, x :: l, o, g, f => Sum.elim (fun r => g r) (fun o => onX (x :: l) o f) o
end
section
variable {B : Tab}
def bigT : Nat := 1048576
def noBig : List Nat → Bool
  | [] => true
  | u :: l => match Nat.blt u bigT with | true => noBig l | false => false
def retR {ρ : Type} (tt : List (TI B)) : List Nat → (Mem B → RM B ρ) → RM B ρ
  | [], k => k []
  | u :: l, k => match Nat.blt u bigT with
    | true => retR tt l k
    | false => .read (.s (u % bigT)) fun
      | some (.v (.one (.ptr i o))) => match tfind tt (u / bigT) with
        | some ti => .read (.b i) fun
          | some (.blk _ n) => RM.chk (Nat.ble (o + ti.size) n) <| readC i o ti.size fun cs => dvOf ti.agg cs fun d => retR tt l fun m => k ((.s u, .v d) :: m)
          | _ => .fail
        | none => .fail
      | _ => .fail
def vshC : List VSh → List Ty
  | [] => []
  | v :: l => v.comps ++ vshC l
structure It (B : Tab) where
  fid : Nat
  args : Tpl
  el : List VSh
  fn : TplT B args → Option (List (Tup B.T (vshC el)))
structure Fn (B : Tab) where
  tt : List (TI B)
  specs : List (Spec B)
  a0 : Mem B
  res : Tpl
  n0 : Nat
  E0 : List (Nat × EH)
  rts : List Nat
  its : List (It B)
structure ItR (B : Tab) where
  it : It B
  xs : List (Tup B.T (vshC it.el))
  ov : Ov B
def itFind : List (It B) → Nat → Option (It B)
  | [], _ => none
  | it :: l, i => match Nat.beq it.fid i with | true => some it | false => itFind l i
def noSl : List Item → Bool
  | [] => true
  | .slot _ _ :: _ => false
  | .kr _ _ :: _ => false
  | _ :: r => noSl r
def It.ok (it : It B) : Bool := noEnts it.args.ents && tplOk [] it.args
def itProg {ρ : Type} (its : List (It B)) (base : Nat) (g : Operand) (k : ItR B → RM B ρ) : RM B ρ :=
  opd1 g fun
    | .fn fid cid n => callee.caps cid 0 n fun cs => RM.opt (itFind its fid) fun it =>
      mItems 0 (base + stepV) (fun t k => match nthL cs t with | some d => k d | none => .fail) ⟨[], [], [], base, []⟩ it.args.items fun p ov =>
        RM.chk (it.ok && rolesLow it.args.nx ov.mu && Nat.ble ov.nx (base + stepV) && lenIs cs (slotsN it.args.items)) <| .bind (it.fn (ofHL _ p)) fun xs => k ⟨it, xs, ov⟩
    | _ => .fail
def elM : List Nat → (l : List VSh) → HL B.T (vshC l) → Mem B → Mem B
  | p :: ps, v :: vs, x, acc => elM ps vs (HL.snd v.comps (vshC vs) x) ((.s p, .v (unV (fun e => e) v (HL.fst v.comps (vshC vs) x))) :: acc)
  | _, _, _, acc => acc
def noRf : Code → Bool
  | .seq a b => match noRf a with | true => noRf b | false => false
  | .cond _ a b => match noRf a with | true => noRf b | false => false
  | .block _ c => noRf c
  | .loop c => noRf c
  | .rangeFunc .. => false
  | _ => true
structure RgP where
  ti : Nat
  tn : Nat
  tc : Nat
  tp : Nat
def rgParts (id : Nat) (r1 : List Oper) (c : Code) (r2 : List Oper) : Option RgP :=
  match r1, c, r2 with
  | [⟨some tc, .binOp .lss _ (.tmp ti) (.tmp tn) _, _, _, _, none⟩], .cond (.tmp tc') .skip (.exit id'), [⟨some tp, .binOp .add _ (.tmp ti') (.const (.int .i64 1)) _, _, _, _, none⟩, ⟨some ti'', .move (.tmp tp'), _, _, _, none⟩] =>
    match Nat.beq tc tc' && Nat.beq id id' && Nat.beq ti ti' && Nat.beq ti ti'' && Nat.beq tp tp' && !(Nat.beq ti tn) && !(Nat.beq tc ti) && !(Nat.beq tc tn) && !(Nat.beq tp ti) && !(Nat.beq tp tn) with
    | true => some ⟨ti, tn, tc, tp⟩
    | false => none
  | _, _, _ => none
def rgFree (g : RgP) (ks : List Loc) : Bool := !(memL ks (.s g.ti)) && !(memL ks (.s g.tn)) && !(memL ks (.s g.tc)) && !(memL ks (.s g.tp))
def zeroI : Int → Bool
  | .ofNat 0 => true
  | _ => false
def hintC : Hint → List (Nat × Nat)
  | .r c => c
  | _ => []
def hintL : Hint → Hint
  | .s a _ => a
  | .c a _ => a
  | .cut _ _ _ a _ => a
  | .b h => h
  | _ => .n
def hintR : Hint → Hint
  | .s _ b => b
  | .c _ b => b
  | .cut _ _ _ _ b => b
  | _ => .n
noncomputable def Dret (F : Fn B) (fr : Mem B) {α : Type} (st : St B) (K : KK B (TplT B F.res) α) : Option α :=
  (retR F.tt F.rts fun m => .ret m : RM B (Mem B)).go (lkS F.a0 fr st.m) [] fun m _ => match covered F.n0 true (itemKeys F.res.items) (m ++ (st.m ++ fr)) with
    | true => pk F.a0 (m ++ (st.m ++ fr)) F.n0 F.E0 true F.res [] st.E st.nx K.rt
    | false => none
noncomputable def D : (F : Fn B) → Code → Hint → (fr : Mem B) → {α : Type} → St B → KK B (TplT B F.res) α → Option α
  | F, .skip, _, _, _, st, K => K.go st
  | F, .region _ ops draw, h, fr, _, st, K =>
    Dops F.tt F.specs (hintC h) F.a0 fr ops.toList draw st.nx ops.toList 0 st.m st.E [] fun m E rows =>
      match (match draw with | true => apartRows (befAll ops.toList 0 []) rows | false => true) with
      | true => K.go ⟨m, E, st.nx + stepW * ops.size⟩
      | false => none
  | F, .seq a b, h, fr, α, st, K =>
    match h with
    | .cut T false [] ha hb =>
      let fr' := st.m ++ fr
      (D F a ha fr' (α := TplT B T) ⟨[], st.E, st.nx⟩
        ⟨fun s => match covered st.nx false (itemKeys T.items) s.m with | true => pk F.a0 (s.m ++ fr') st.nx st.E false T [] s.E s.nx some | false => none, fun _ _ => none, fun _ => none⟩).bind fun t =>
        D F b hb fr (aft T t st.m) K
    | .cut T ret outs ha hb =>
      let fr' := st.m ++ fr
      let f {β : Type} (T' : Tpl) (s : St B) (k : TplT B T' → Option β) : Option β := match covered st.nx false (itemKeys T'.items) s.m with | true => pk F.a0 (s.m ++ fr') st.nx st.E false T' [] s.E s.nx k | false => none
      (D F a ha fr' (α := Ctl (TplT B T) (OutT B (TplT B F.res) ret outs)) ⟨[], st.E, st.nx⟩
        ⟨fun s => f T s fun t => some (.go t), fun i s => inE ret outs i (fun T' k => f T' s k) fun o => some (.out o), fun r => inR ret outs r fun o => some (.out o)⟩).bind fun x =>
        Ctl.on x (fun t => D F b hb fr (aft T t st.m) K) (fun o => onO ret outs o K.rt fun i T' t => K.ex i (aft T' t st.m))
    | h => D F a (hintL h) fr st ⟨fun s => D F b (hintR h) fr s K, K.ex, K.rt⟩
  | F, .cond c x y, h, fr, _, st, K =>
    match c with
    | .tmp t => match lkS F.a0 fr st.m (.s t) with
      | some (.v (.one (.bool b))) => Bool.rec (D F y (hintR h) fr st K) (D F x (hintL h) fr st K) b
      | _ => none
    | .const (.bool b) => match b with | true => D F x (hintL h) fr st K | false => D F y (hintR h) fr st K
    | _ => none
  | F, .block id (.loop (.seq (.region _ r1 d1) (.seq cd (.seq body (.region _ r2 d2))))), .rg T ret h, fr, α, st, K =>
    match d1 || d2, rgParts id r1.toList cd r2.toList with
    | false, some g => match rgFree g (itemKeys T.items) with
     | false => none
     | true =>
      let n0 := st.nx
      let rfr (i : Nat) : Mem B := (.s g.tc, .v (.one (.bool true))) :: (.s g.ti, .v (.one (.int .i64 (i : Int)))) :: (.s g.tp, .v (.one .und)) :: (st.m ++ fr)
      let f {β : Type} (i : Nat) (s : St B) (k : TplT B T → Option β) : Option β := match covered n0 false (itemKeys T.items) s.m with | true => pk F.a0 (s.m ++ rfr i) n0 st.E false T [] s.E s.nx k | false => none
      let go (m : Nat) : Option α :=
        pk F.a0 ((.s g.tc, .v (.one .und)) :: (.s g.ti, .v (.one .und)) :: (.s g.tp, .v (.one .und)) :: (st.m ++ fr)) n0 st.E false T [] st.E st.nx fun t0 =>
          (forC (α := Nat) (σ := TplT B T) (X := OutT B (TplT B F.res) ret []) (fun i _ t => D F body h (rfr i) (unSt T t)
            ⟨fun s => f i s fun t => some (.go t), fun j s => match Nat.beq j id with | true => f i s fun t => some (.out (.go t)) | false => none,
              fun r => inR ret [] r fun o => some (.out (.out o))⟩) (List.range m) t0).bind fun x =>
            Ctl.on x (fun t => K.go (aft T t ((.s g.tc, .v (.one .und)) :: (.s g.ti, .v (.one .und)) :: (.s g.tp, .v (.one .und)) :: st.m))) (fun o => onO ret [] o K.rt fun _ _ _ => none)
      match lkS F.a0 fr st.m (.s g.ti), lkS F.a0 fr st.m (.s g.tn) with
      | some (.v (.one (.int .i64 z))), some (.v (.one (.ilen m))) => match zeroI z with | true => go m | false => none
      | some (.v (.one (.int .i64 z))), some (.v (.one (.int .i64 n))) => match zeroI z with | true => (glim n).bind fun _ => go n.toNat | false => none
      | _, _ => none
    | _, _ => none
  | F, .block id (.loop c), h, fr, α, st, K =>
    match h with
    | .un k h' => Nat.rec (motive := fun _ => Hint → St B → Option α) (fun _ _ => none) (fun _ ih h s => D F c (hintL h) fr s ⟨ih (hintR h), fun i s => match Nat.beq i id with | true => K.go s | false => K.ex i s, K.rt⟩) k h' st
    | .lp T TX ret outs h =>
      let fr' := st.m ++ fr
      let f {β : Type} (T' : Tpl) (s : St B) (k : TplT B T' → Option β) : Option β := match covered st.nx false (itemKeys T'.items) s.m with | true => pk F.a0 (s.m ++ fr') st.nx st.E false T' [] s.E s.nx k | false => none
      pk F.a0 fr' st.nx st.E false T [] st.E st.nx fun t0 =>
        (iter (σ := TplT B T) (X := Ctl (TplT B TX) (OutT B (TplT B F.res) ret outs)) (fun t => D F c h fr' (unSt T t)
          ⟨fun s => f T s fun t => some (.go t),
            fun i s => match Nat.beq i id with | true => f TX s fun t => some (.out (.go t)) | false => inE ret outs i (fun T' k => f T' s k) fun o => some (.out (.out o)),
            fun r => inR ret outs r fun o => some (.out (.out o))⟩) t0).bind fun x =>
          Ctl.on x (fun t => K.go (aft TX t st.m)) (fun o => onO ret outs o K.rt fun i T' t => K.ex i (aft T' t st.m))
    | _ => none
  | F, .block id c, h, fr, _, st, K =>
    D F c (hintL h) fr st ⟨K.go, fun i s => match Nat.beq i id with | true => K.go s | false => K.ex i s, K.rt⟩
  | F, .exit id, _, _, _, st, K => K.ex id st
  | F, .ret, _, fr, _, st, K => Dret F fr st K
  | F, .rangeFunc g ps assign body, .rf T TR ret outs ha hb, fr, α, st, K =>
    match noRf assign && noRf body && noSl T.items && noSl TR.items && Nat.ble (st.nx + stepV) TR.nx with
    | false => none
    | true =>
      (itProg F.its st.nx g fun x => .ret x : RM B (ItR B)).go (lkS F.a0 fr st.m) [] fun x _ =>
        let m1 := x.ov.up ++ st.m
        let E1 := delsE (x.ov.add ++ st.E) x.ov.del
        let n0 := st.nx + stepV
        let a1 := m1 ++ (fr ++ F.a0)
        let F' : Fn B := ⟨F.tt, F.specs, a1, TR, n0, E1, [], F.its⟩
        let f {β : Type} (T' : Tpl) (s : St B) (k : TplT B T' → Option β) : Option β := match covered n0 true (itemKeys T'.items) s.m && noSl T'.items with | true => pk a1 s.m n0 E1 true T' [] s.E s.nx k | false => none
        match lenIs ps.toList x.it.el.length with
        | false => none
        | true => pk a1 [] n0 E1 true T [] E1 n0 fun t0 =>
          (forC (α := Tup B.T (vshC x.it.el)) (σ := TplT B T) (X := OutT B (TplT B TR) ret outs) (fun _ v t =>
            D F' assign ha [] ⟨elM ps.toList x.it.el (toHL _ v) [] ++ unM T t, T.ents, T.nx + T.items.length⟩
              ⟨fun s => D F' body hb [] s ⟨fun s => f T s fun t => some (.go t), fun i s => inE ret outs i (fun T' k => f T' s k) fun o => some (.out (.out o)), fun r => inR ret outs r fun o => some (.out (.out o))⟩,
                fun _ _ => none, fun _ => none⟩) x.xs t0).bind fun y =>
            Ctl.on y (fun t => K.go (aft T t m1)) (fun o => onO ret outs o (fun t' => Dret F fr (aft TR t' m1) K) fun i T' t => K.ex i (aft T' t m1))
  | F, _, _, _, _, _, _ => none
def Fn.of (its : List (It B)) (tt : List (TI B)) (specs : List (Spec B)) (S : Spec B) (t : TplT B S.args) : Fn B := ⟨tt, specs, unM S.args t, S.res, S.args.nx + S.args.items.length, S.args.ents, S.rts, its⟩
noncomputable def DfnI (its : List (It B)) (tt : List (TI B)) (specs : List (Spec B)) (S : Spec B) (c : Code) (h : Hint) (t : TplT B S.args) : Option (TplT B S.res) :=
  let F := Fn.of its tt specs S t
  D F c h [] ⟨[], S.args.ents, F.n0⟩
    ⟨fun st => match noBig S.rts && covered F.n0 true (itemKeys S.res.items) st.m with | true => pk F.a0 st.m F.n0 S.args.ents true S.res [] st.E st.nx some | false => none, fun _ _ => none, some⟩
noncomputable def Dfn (tt : List (TI B)) (specs : List (Spec B)) (S : Spec B) (c : Code) (h : Hint) (t : TplT B S.args) : Option (TplT B S.res) := DfnI [] tt specs S c h t
end
end Hd
set_option linter.unusedVariables false
namespace Hd
open Go Hk
def forX {α σ X : Type} (body : Nat → α → σ → Option (Ctl σ (Ctl σ X))) (xs : List α) (s : σ) : Option (Ctl σ X) :=
  forC (fun i _ s => (idx xs (i : Int)).bind fun x => body i x s) (List.range xs.length) s
def collectY {α S : Type} (g : S → Option (Option (α × Option S))) : Nat → S → Option (List α)
  | 0, _ => none
  | n + 1, t => (g t).bind fun
    | none => some []
    | some (x, r) => r.bind fun t' => (collectY g n t').map (x :: ·)
def codeOf (f : Func) : Code := match f.body with | some c => c | none => .skip
end Hd
