/- What a state over plain values tells of a world; the steps from one such state to another. -/
import Derived.Test.YtoamdmkakblnnaaDoorD1
set_option linter.unusedVariables false
set_option linter.unusedSimpArgs false
namespace Hd
open Go Hk
section
variable {B : Tab} {f f' : HP} {σ σ' : Rz B}
def takeI (k : IntKind) : List (Cel B) → Option (Int × List (Cel B))
  | .int k' n :: r => bif decide (k = k') then some (n, r) else none
  | .ilen m :: r => bif decide (k = .i64) then some ((m : Int), r) else none
  | _ => none
theorem takeD_eqI (d : Nat) (k : IntKind) (cs : List (Cel B)) : takeD B d (.int k) cs = takeI k cs := by
  cases cs with
  | nil => cases d <;> rfl
  | cons c cs => cases c <;> cases d <;> rfl
theorem takeI_spec {k : IntKind} {cs : List (Cel B)} {x : Int} {r : List (Cel B)} (h : takeI k cs = some (x, r)) :
    cs = .int k x :: r ∨ ∃ m : Nat, cs = .ilen m :: r ∧ k = .i64 ∧ x = m := by
  unfold takeI at h
  split at h
  · rename_i k' n r'
    cases hk : decide (k = k') with
    | false => rw [hk] at h; cases h
    | true =>
      rw [hk] at h
      have hk := of_decide_eq_true hk
      subst hk
      injection h with h
      injection h with h1 h2
      subst h1 h2
      exact .inl rfl
  · rename_i m r'
    cases hk : decide (k = .i64) with
    | false => rw [hk] at h; cases h
    | true =>
      rw [hk] at h
      injection h with h
      injection h with h1 h2
      subst h1 h2
      exact .inr ⟨m, rfl, of_decide_eq_true hk, rfl⟩
  · cases h
theorem takeD_int {d : Nat} {k : IntKind} {cs : List (Cel B)} {x : Int} {r : List (Cel B)} (h : takeD B d (.int k) cs = some (x, r)) :
    cs = .int k x :: r ∨ ∃ m : Nat, cs = .ilen m :: r ∧ k = .i64 ∧ x = m := takeI_spec ((takeD_eqI d k cs).symm.trans h)
theorem castD_eq {t u : Ty} {x : den B.T t} {y : den B.T u} (h : castD B t u x = some y) : ∃ e : t = u, y = e ▸ x := by
  unfold castD at h
  split at h
  · rename_i hb
    injection h with h
    exact ⟨Ty.eqb_eq hb, h.symm⟩
  · cases h
theorem castSl {e e' : Ty} {xs : List (den B.T e)} {ys : List (den B.T e')} (h : castD B (.sl e) (.sl e') xs = some ys) : ∃ q : e = e', ys = q ▸ xs := by
  obtain ⟨q, hy⟩ := castD_eq h
  injection q with q
  subst q
  exact ⟨rfl, hy⟩
theorem castNsl {e e' : Ty} {xs : Option (List (den B.T e))} {ys : Option (List (den B.T e'))} (h : castD B (.nsl e) (.nsl e') xs = some ys) : ∃ q : e = e', ys = q ▸ xs := by
  obtain ⟨q, hy⟩ := castD_eq h
  injection q with q
  subst q
  exact ⟨rfl, hy⟩
theorem castOpt {e e' : Ty} {xs : Option (den B.T e)} {ys : Option (den B.T e')} (h : castD B (.opt e) (.opt e') xs = some ys) : ∃ q : e = e', ys = q ▸ xs := by
  obtain ⟨q, hy⟩ := castD_eq h
  injection q with q
  subst q
  exact ⟨rfl, hy⟩
theorem castAp {e e' : Ty} {xs : Option (List (den B.T e))} {ys : Option (List (den B.T e'))} (h : castD B (.ap e) (.ap e') xs = some ys) : ∃ q : e = e', ys = q ▸ xs := by
  obtain ⟨q, hy⟩ := castD_eq h
  injection q with q
  subst q
  exact ⟨rfl, hy⟩
def TakeOk (B : Tab) (f : HP) (σ : Rz B) (t : Ty) (F : List (Cel B) → Option (den B.T t × List (Cel B))) : Prop :=
  ∀ cs x r vs, F cs = some (x, r) → CRels f σ cs vs → ∃ us ws, vs = us ++ ws ∧ (relB B t).p f us x ∧ CRels f σ r ws
theorem takeL_ok {F : (t : Ty) → List (Cel B) → Option (den B.T t × List (Cel B))} (hF : ∀ t, TakeOk B f σ t (F t)) :
    ∀ (l : List Ty) (cs : List (Cel B)) (h : HL B.T l) (r : List (Cel B)) (vs : List Value), takeL B F l cs = some (h, r) → CRels f σ cs vs → ∃ us ws, vs = us ++ ws ∧ (fTup B.R l).p f us (ofHL l h) ∧ CRels f σ r ws
  | [], cs, h, r, vs, e, hc => by
    simp only [takeL, Option.some.injEq, Prod.mk.injEq] at e
    obtain ⟨_, rfl⟩ := e
    exact ⟨[], vs, rfl, rfl, hc⟩
  | [t], cs, h, r, vs, e, hc => by
    simp only [takeL] at e
    cases h1 : F t cs with
    | none => simp [h1] at e
    | some p =>
      obtain ⟨x, r1⟩ := p
      simp only [h1, Option.some.injEq, Prod.mk.injEq] at e
      obtain ⟨rfl, rfl⟩ := e
      exact hF t cs x _ vs h1 hc
  | t :: u :: l, cs, h, r, vs, e, hc => by
    unfold takeL at e
    cases h1 : F t cs with
    | none => simp [h1] at e
    | some p =>
      obtain ⟨x, r1⟩ := p
      simp only [h1] at e
      cases h2 : takeL B F (u :: l) r1 with
      | none => simp [h2] at e
      | some q =>
        obtain ⟨y, r2⟩ := q
        simp only [h2, Option.some.injEq, Prod.mk.injEq] at e
        obtain ⟨rfl, rfl⟩ := e
        obtain ⟨us, ws, rfl, k1, k2⟩ := hF t cs x r1 vs h1 hc
        obtain ⟨us', ws', rfl, k3, k4⟩ := takeL_ok hF (u :: l) r1 y _ ws h2 k2
        exact ⟨us ++ us', ws', by simp, ⟨us, us', rfl, k1, k3⟩, k4⟩
theorem takeD_ok : ∀ (d : Nat) (t : Ty), TakeOk B f σ t (takeD B d t) := by
  intro d
  induction d using Nat.strongRecOn with
  | _ d ih =>
  intro t cs x r vs h hc
  cases t with
  | kv k v => cases cs with
    | nil => cases d <;> simp [takeD] at h
    | cons c cs => cases c <;> cases d <;> simp [takeD] at h
  | int k =>
    rcases takeD_int h with rfl | ⟨m, rfl, rfl, rfl⟩
    · cases vs with
      | nil => exact hc.elim
      | cons v vs => obtain ⟨h1, h2⟩ := hc; exact ⟨[v], vs, rfl, by rw [show v = _ from h1]; rfl, h2⟩
    · cases vs with
      | nil => exact hc.elim
      | cons v vs => obtain ⟨h1, h2⟩ := hc; exact ⟨[v], vs, rfl, by rw [show v = _ from h1.1]; rfl, h2⟩
  | bool =>
    cases cs with
    | nil => cases d <;> simp [takeD] at h
    | cons c cs =>
      cases vs with
      | nil => exact hc.elim
      | cons v vs =>
        obtain ⟨h1, h2⟩ := hc
        cases c <;> cases d <;> simp only [takeD, Option.some.injEq, Prod.mk.injEq] at h <;> try contradiction
        all_goals (obtain ⟨rfl, rfl⟩ := h; exact ⟨[v], vs, rfl, by rw [show v = _ from h1]; rfl, h2⟩)
  | str =>
    cases cs with
    | nil => cases d <;> simp [takeD] at h
    | cons c cs =>
      cases vs with
      | nil => exact hc.elim
      | cons v vs =>
        obtain ⟨h1, h2⟩ := hc
        cases c <;> cases d <;> simp only [takeD, Option.some.injEq, Prod.mk.injEq] at h <;> try contradiction
        all_goals (obtain ⟨rfl, rfl⟩ := h; exact ⟨[v], vs, rfl, by rw [show v = _ from h1]; rfl, h2⟩)
  | sl e =>
    cases cs with
    | nil => cases d <;> simp [takeD] at h
    | cons c cs =>
      cases vs with
      | nil => exact hc.elim
      | cons v vs =>
        obtain ⟨h1, h2⟩ := hc
        cases c <;> cases d <;> simp only [takeD] at h <;> try contradiction
        case sl.zero e' xs | sl.succ e' xs n =>
          split at h <;> try contradiction
          rename_i ys hy
          simp only [Option.some.injEq, Prod.mk.injEq] at h
          obtain ⟨rfl, rfl⟩ := h
          obtain ⟨rfl, rfl⟩ := castSl hy
          obtain ⟨A, n, c, rfl, hs⟩ := h1
          exact ⟨[_], vs, rfl, ⟨A, n, c, rfl, hs⟩, h2⟩
        case nils.zero | nils.succ =>
          simp only [Option.some.injEq, Prod.mk.injEq] at h
          obtain ⟨rfl, rfl⟩ := h
          exact ⟨[v], vs, rfl, ⟨none, 0, 0, by rw [show v = _ from h1], SlF.nil _ _⟩, h2⟩
        case nsl.zero e' x' | nsl.succ e' x' n =>
          split at h <;> try contradiction
          rename_i ys hy
          simp only [Option.some.injEq, Prod.mk.injEq] at h
          obtain ⟨rfl, rfl⟩ := h
          obtain ⟨rfl, rfl⟩ := castSl hy
          cases x' with
          | none => obtain ⟨c, e1, hm⟩ := h1; exact ⟨[v], vs, rfl, ⟨none, 0, c, e1, slF_nilc _ _ hm⟩, h2⟩
          | some xs => obtain ⟨a, n, c, e1, hs⟩ := h1; exact ⟨[v], vs, rfl, ⟨some a, n, c, e1, hs⟩, h2⟩
  | nsl e =>
    cases cs with
    | nil => cases d <;> simp [takeD] at h
    | cons c cs =>
      cases vs with
      | nil => exact hc.elim
      | cons v vs =>
        obtain ⟨h1, h2⟩ := hc
        cases c <;> cases d <;> simp only [takeD] at h <;> try contradiction
        case nsl.zero e' xs | nsl.succ e' xs n =>
          split at h <;> try contradiction
          rename_i ys hy
          simp only [Option.some.injEq, Prod.mk.injEq] at h
          obtain ⟨rfl, rfl⟩ := h
          obtain ⟨rfl, rfl⟩ := castNsl hy
          exact ⟨[v], vs, rfl, h1, h2⟩
        case nils.zero | nils.succ =>
          simp only [Option.some.injEq, Prod.mk.injEq] at h
          obtain ⟨rfl, rfl⟩ := h
          exact ⟨[v], vs, rfl, ⟨0, by rw [show v = _ from h1], Nat.zero_le _⟩, h2⟩
  | opt e =>
    cases cs with
    | nil => cases d <;> simp [takeD] at h
    | cons c cs =>
      cases vs with
      | nil => exact hc.elim
      | cons v vs =>
        obtain ⟨h1, h2⟩ := hc
        cases c <;> cases d <;> simp only [takeD] at h <;> try contradiction
        case opt.zero e' xs | opt.succ e' xs n =>
          split at h <;> try contradiction
          rename_i ys hy
          simp only [Option.some.injEq, Prod.mk.injEq] at h
          obtain ⟨rfl, rfl⟩ := h
          obtain ⟨rfl, rfl⟩ := castOpt hy
          exact ⟨[v], vs, rfl, h1, h2⟩
        case nilp.zero | nilp.succ =>
          simp only [Option.some.injEq, Prod.mk.injEq] at h
          obtain ⟨rfl, rfl⟩ := h
          exact ⟨[v], vs, rfl, by rw [show v = _ from h1]; rfl, h2⟩
        case fpt.zero e' x' | fpt.succ e' x' n =>
          split at h <;> try contradiction
          rename_i ys hy
          simp only [Option.some.injEq, Prod.mk.injEq] at h
          obtain ⟨rfl, rfl⟩ := h
          obtain ⟨rfl, rfl⟩ := castD_eq hy
          obtain ⟨b, ds, ty, fr, rfl, k1, k2⟩ := h1
          exact ⟨[_], vs, rfl, ⟨b, ds, ty, fr, rfl, k1, k2⟩, h2⟩
  | ap e =>
    cases cs with
    | nil => cases d <;> simp [takeD] at h
    | cons c cs =>
      cases vs with
      | nil => exact hc.elim
      | cons v vs =>
        obtain ⟨h1, h2⟩ := hc
        cases c <;> cases d <;> simp only [takeD] at h <;> try contradiction
        case ap.zero e' xs | ap.succ e' xs n =>
          split at h <;> try contradiction
          rename_i ys hy
          simp only [Option.some.injEq, Prod.mk.injEq] at h
          obtain ⟨rfl, rfl⟩ := h
          obtain ⟨rfl, rfl⟩ := castAp hy
          exact ⟨[v], vs, rfl, h1, h2⟩
        case nilp.zero | nilp.succ =>
          simp only [Option.some.injEq, Prod.mk.injEq] at h
          obtain ⟨rfl, rfl⟩ := h
          exact ⟨[v], vs, rfl, by rw [show v = _ from h1]; rfl, h2⟩
        case pf.zero e' xs off | pf.succ e' xs off n =>
          split at h <;> try contradiction
          split at h <;> try contradiction
          rename_i ys hy
          simp only [Option.some.injEq, Prod.mk.injEq] at h
          obtain ⟨rfl, rfl⟩ := h
          obtain ⟨rfl, rfl⟩ := castSl hy
          obtain ⟨b, o, rfl, _, k2⟩ := h1
          exact ⟨[_], vs, rfl, ⟨b, o, rfl, k2⟩, h2⟩
  | st i =>
    cases d with
    | zero => cases cs <;> simp [takeD] at h
    | succ d =>
      have h' : (match takeL B (takeD B d) (B.fs i) cs with
        | some (h, r) => some (B.mks i (ofHL _ h), r)
        | none => none) = some (x, r) := by cases cs <;> exact h
      split at h' <;> try contradiction
      rename_i hh rr hl
      simp only [Option.some.injEq, Prod.mk.injEq] at h'
      obtain ⟨rfl, rfl⟩ := h'
      obtain ⟨us, ws, rfl, k1, k2⟩ := takeL_ok (fun t => ih d (by omega) t) (B.fs i) cs hh _ vs hl hc
      refine ⟨us, ws, rfl, ?_, k2⟩
      have := (B.ok i f us (B.mks i (ofHL _ hh))).2 (by rw [B.tomk]; exact k1)
      exact this
theorem dataOf_ok {t : Ty} {cs : List (Cel B)} {x : den B.T t} {vs : List Value} (h : dataOf B t cs = some x) (hc : CRels f σ cs vs) : (relB B t).p f vs x := by
  unfold dataOf at h
  split at h <;> try contradiction
  rename_i y hy
  injection h with h; subst h
  obtain ⟨us, ws, rfl, k1, k2⟩ := takeD_ok 8 t cs _ _ vs hy hc
  cases ws with
  | nil => simpa using k1
  | cons _ _ => exact k2.elim
theorem okTs_iff {F : Ty → Bool} : ∀ {l : List Ty}, okT.okTs F l = true → ∀ t ∈ l, F t = true
  | [], _, t, h => by simp at h
  | u :: l, h, t, ht => by
    unfold okT.okTs at h
    cases hu : F u with
    | false => simp [hu] at h
    | true =>
      simp only [hu] at h
      rcases List.mem_cons.1 ht with rfl | ht
      · exact hu
      · exact okTs_iff h t ht
theorem cellsL_ok {F : (t : Ty) → den B.T t → List (Cel B)} : ∀ (l : List Ty), (∀ t ∈ l, ∀ x vs, (relB B t).p f vs x → CRels f σ (F t x) vs) →
    ∀ (p : Tup B.T l) (vs : List Value), (fTup B.R l).p f vs p → CRels f σ (cellsL B F l (toHL l p)) vs
  | [], _, _, vs, h => by rw [show vs = [] from h]; trivial
  | [t], hF, p, vs, h => by
    show CRels f σ (F t p ++ []) vs
    rw [List.append_nil]
    exact hF t (by simp) p vs h
  | t :: u :: l, hF, p, vs, h => by
    obtain ⟨c1, c2, rfl, h1, h2⟩ := h
    exact CRels.app (hF t (by simp) _ _ h1) (cellsL_ok (u :: l) (fun t ht => hF t (by simp [ht])) p.2 c2 h2)
theorem cellsD_ok : ∀ (d : Nat) (t : Ty), okT B d t = true → ∀ x vs, (relB B t).p f vs x → CRels f σ (cellsD B d t x) vs := by
  intro d
  induction d with
  | zero =>
    intro t ht x vs h
    cases t with
    | int k => rw [show vs = _ from h]; exact ⟨rfl, trivial⟩
    | bool => rw [show vs = _ from h]; exact ⟨rfl, trivial⟩
    | str => rw [show vs = _ from h]; exact ⟨rfl, trivial⟩
    | sl e => obtain ⟨A, n, c, rfl, hs⟩ := h; exact ⟨⟨A, n, c, rfl, hs⟩, trivial⟩
    | nsl e => cases x with
      | none => obtain ⟨c, rfl, hm⟩ := h; exact ⟨⟨c, rfl, hm⟩, trivial⟩
      | some xs => obtain ⟨a, n, c, rfl, hs⟩ := h; exact ⟨⟨a, n, c, rfl, hs⟩, trivial⟩
    | opt e => obtain ⟨v, rfl, hv⟩ := fOpt_one h; exact ⟨hv, trivial⟩
    | ap e => cases x with
      | none => rw [show vs = _ from h]; exact ⟨rfl, trivial⟩
      | some xs => obtain ⟨b, o, rfl, hs⟩ := h; exact ⟨⟨b, o, rfl, hs⟩, trivial⟩
    | kv k v => simp [okT] at ht
    | st i => simp [okT] at ht
  | succ d ih =>
    intro t ht x vs h
    cases t with
    | int k => rw [show vs = _ from h]; exact ⟨rfl, trivial⟩
    | bool => rw [show vs = _ from h]; exact ⟨rfl, trivial⟩
    | str => rw [show vs = _ from h]; exact ⟨rfl, trivial⟩
    | sl e => obtain ⟨A, n, c, rfl, hs⟩ := h; exact ⟨⟨A, n, c, rfl, hs⟩, trivial⟩
    | nsl e => cases x with
      | none => obtain ⟨c, rfl, hm⟩ := h; exact ⟨⟨c, rfl, hm⟩, trivial⟩
      | some xs => obtain ⟨a, n, c, rfl, hs⟩ := h; exact ⟨⟨a, n, c, rfl, hs⟩, trivial⟩
    | opt e => obtain ⟨v, rfl, hv⟩ := fOpt_one h; exact ⟨hv, trivial⟩
    | ap e => cases x with
      | none => rw [show vs = _ from h]; exact ⟨rfl, trivial⟩
      | some xs => obtain ⟨b, o, rfl, hs⟩ := h; exact ⟨⟨b, o, rfl, hs⟩, trivial⟩
    | kv k v => simp [okT] at ht
    | st i => exact cellsL_ok (B.fs i) (fun t' ht' x vs h => ih t' (okTs_iff ht t' ht') x vs h) _ vs ((B.ok i f vs x).1 h)
theorem cellsOf_ok {t : Ty} (ht : okT B 8 t = true) {x : den B.T t} {vs : List Value} (h : (relB B t).p f vs x) : CRels f σ (cellsOf t x) vs := cellsD_ok 8 t ht x vs h
theorem takeL_okT {F : (t : Ty) → List (Cel B) → Option (den B.T t × List (Cel B))} {G : Ty → Bool} (hF : ∀ t cs x r, F t cs = some (x, r) → G t = true) :
    ∀ (l : List Ty) (cs : List (Cel B)) h r, takeL B F l cs = some (h, r) → okT.okTs G l = true
  | [], _, _, _, _ => rfl
  | t :: l, cs, h, r, e => by
    unfold takeL at e
    cases h1 : F t cs with
    | none => simp [h1] at e
    | some p =>
      obtain ⟨x, r1⟩ := p
      simp only [h1] at e
      cases h2 : takeL B F l r1 with
      | none => simp [h2] at e
      | some q =>
        obtain ⟨y, r2⟩ := q
        unfold okT.okTs
        rw [hF t cs x r1 h1]
        exact takeL_okT hF l r1 y r2 h2
theorem takeD_okT : ∀ (d : Nat) (t : Ty) (cs : List (Cel B)) x r, takeD B d t cs = some (x, r) → okT B d t = true := by
  intro d
  induction d with
  | zero => intro t cs x r h; cases t <;> first | rfl | (cases cs <;> simp [takeD] at h)
  | succ d ih =>
    intro t cs x r h
    cases t with
    | st i =>
      have h' : (match takeL B (takeD B d) (B.fs i) cs with
        | some (h, r) => some (B.mks i (ofHL _ h), r)
        | none => none) = some (x, r) := by cases cs <;> exact h
      split at h' <;> try contradiction
      rename_i hh rr hl
      exact takeL_okT ih _ _ _ _ hl
    | kv k v => cases cs with
      | nil => simp [takeD] at h
      | cons c cs => cases c <;> simp [takeD] at h
    | _ => rfl
theorem dataOf_okT {t : Ty} {cs : List (Cel B)} {x : den B.T t} (h : dataOf B t cs = some x) : okT B 8 t = true := by
  unfold dataOf at h
  split at h <;> try contradiction
  rename_i y hy
  exact takeD_okT 8 t cs _ _ hy
end
end Hd
set_option linter.unusedVariables false
set_option linter.unusedSimpArgs false
namespace Hd
open Go Hk
section
variable {B : Tab} {f f' : HP} {σ σ' : Rz B} {M M' : Loc → Option (Con B)}
def ovl (m : Mem B) (M : Loc → Option (Con B)) : Loc → Option (Con B) := fun l => match look m l with | some c => some c | none => M l
theorem ovl_nil (M : Loc → Option (Con B)) : ovl [] M = M := rfl
theorem ovl_some {m : Mem B} {l : Loc} {c : Con B} (h : look m l = some c) : ovl m M l = some c := by simp [ovl, h]
theorem ovl_none {m : Mem B} {l : Loc} (h : look m l = none) : ovl m M l = M l := by simp [ovl, h]
theorem look_app (a b : Mem B) (l : Loc) : look (a ++ b) l = match look a l with | some c => some c | none => look b l := by
  induction a with
  | nil => rfl
  | cons x a ih =>
    obtain ⟨k, c⟩ := x
    simp only [List.cons_append, look]
    cases k.beq l
    · simpa using ih
    · rfl
theorem ovl_app (a b : Mem B) : ovl (a ++ b) M = ovl a (ovl b M) := by
  funext l
  simp only [ovl, look_app]
  cases look a l <;> rfl
theorem lkS_ovl (a0 fr m : Mem B) : lkS a0 fr m = ovl m (ovl fr (look a0)) := by
  funext l
  simp only [lkS, ovl]
  cases look m l <;> cases look fr l <;> rfl
theorem look_cons_self (l : Loc) (c : Con B) (r : Mem B) : look ((l, c) :: r) l = some c := by simp [look, Loc.beq_self]
theorem look_cons_ne {l l' : Loc} (h : l ≠ l') (c : Con B) (r : Mem B) : look ((l, c) :: r) l' = look r l' := by simp [look, Loc.beq_ne h]
theorem look_mem {m : Mem B} {l : Loc} {c : Con B} (h : look m l = some c) : (l, c) ∈ m := by
  induction m with
  | nil => simp [look] at h
  | cons x m ih =>
    obtain ⟨k, d⟩ := x
    simp only [look] at h
    cases hb : k.beq l with
    | true =>
      rw [hb] at h
      simp only [cond_true, Option.some.injEq] at h
      subst h
      rw [Loc.beq_iff.1 hb]
      simp
    | false => rw [hb] at h; simp only [cond_false] at h; exact List.mem_cons_of_mem _ (ih h)
theorem look_none_of {m : Mem B} {l : Loc} (h : ∀ c, (l, c) ∉ m) : look m l = none := by
  cases hl : look m l with
  | none => rfl
  | some c => exact absurd (look_mem hl) (h c)
def SRel (f : HP) (σ : Rz B) : Option (Con B) → Value → Prop
  | some (.v d), v => DRel f σ d v
  | _, _ => True
theorem SRel.mono (hl : HP.le f f') (hs : Rz.le σ σ') {c : Option (Con B)} {v : Value} (h : SRel f σ c v) : SRel f' σ' c v := by
  cases c with
  | none => trivial
  | some c => cases c <;> first | exact DRel.mono hl hs h | trivial
def VIs (f : HP) (t : Ty) (v : Value) (x : den B.T t) : Prop := ∃ us, (relB B t).p f us x ∧ v = cond (aggT t) (.agg us.toArray) (us.headD undef)
theorem VIs.mono (hl : HP.le f f') {t : Ty} {v : Value} {x : den B.T t} (h : VIs f t v x) : VIs f' t v x := by
  obtain ⟨us, h1, h2⟩ := h
  exact ⟨us, (relB B t).mono hl h1, h2⟩
def MRel (f : HP) (k v : Ty) : List MapEntry → List (den B.T k × den B.T v) → Prop
  | [], [] => True
  | e :: es, p :: m => VIs f k e.key p.1 ∧ VIs f v e.val p.2 ∧ MRel f k v es m
  | _, _ => False
theorem MRel.mono (hl : HP.le f f') {k v : Ty} : ∀ {es : List MapEntry} {m : List (den B.T k × den B.T v)}, MRel f k v es m → MRel f' k v es m
  | [], [], _ => trivial
  | _ :: _, _ :: _, ⟨h1, h2, h3⟩ => ⟨h1.mono hl, h2.mono hl, MRel.mono hl h3⟩
  | [], _ :: _, h => h.elim
  | _ :: _, [], h => h.elim
def RowHere (f : HP) (e : Ty) (hd : Hdr) (r : Option (Array Value)) (xs : List (den B.T e)) : Prop := ∃ r', r = some r' ∧ ArrOk f (relB B e) hd.1 hd.2.1 hd.2.2 r' xs
def PendOk (f : HP) (σ : Rz B) (k : Ty) (key : den B.T k) (hd : Hdr) (v : Value) : Option Nat → Prop
  | none => True
  | some j => σ j = some (.hdr hd.1 hd.2.1 hd.2.2) ∧ VIs f k v key
def noPend {α : Type} : Option (α × Option Nat) → Bool
  | some (_, some _) => false
  | _ => true
def RowM (f : HP) (σ : Rz B) (k e : Ty) : Option (den B.T k × Option Nat) → List MapEntry → List Hdr → List (Option (Array Value)) → List (den B.T k × List (den B.T e)) → Prop
  | h, [], [], [], [] => noPend h = true
  | none, en :: es, hd :: hs, r :: rs, p :: m => VIs f k en.key p.1 ∧ en.val = .slice hd.1 hd.2.1 hd.2.2 ∧ RowHere f e hd r p.2 ∧ RowM f σ k e none es hs rs m
  | some (key, pd), en :: es, hd :: hs, r :: rs, p :: m => VIs f k en.key p.1 ∧ en.val = .slice hd.1 hd.2.1 hd.2.2 ∧
      ((keqD B k key p.1 = true ∧ r = none ∧ PendOk f σ k key hd en.key pd ∧ RowM f σ k e none es hs rs m) ∨ (keqD B k key p.1 = false ∧ RowHere f e hd r p.2 ∧ RowM f σ k e (some (key, pd)) es hs rs m))
  | _, _, _, _, _ => False
theorem RowM.mono (hl : HP.le f f') (hσ : Rz.le σ σ') {k e : Ty} : ∀ {h : Option (den B.T k × Option Nat)} {es : List MapEntry} {hs : List Hdr} {rs : List (Option (Array Value))} {m : List (den B.T k × List (den B.T e))}, RowM f σ k e h es hs rs m → RowM f' σ' k e h es hs rs m
  | none, [], [], [], [], h => h
  | some _, [], [], [], [], h => h
  | none, _ :: _, _ :: _, _ :: _, _ :: _, ⟨h1, h2, ⟨r', h3, h4⟩, h5⟩ => ⟨h1.mono hl, h2, ⟨r', h3, h4.mono hl⟩, RowM.mono hl hσ h5⟩
  | some (key, pd), _ :: _, _ :: _, _ :: _, _ :: _, ⟨h1, h2, h3⟩ => ⟨h1.mono hl, h2, by
      rcases h3 with ⟨a1, a2, a3, a4⟩ | ⟨a1, ⟨r', a2, a3⟩, a4⟩
      · refine .inl ⟨a1, a2, ?_, RowM.mono hl hσ a4⟩
        cases pd with
        | none => trivial
        | some j => exact ⟨hσ _ _ a3.1, a3.2.mono hl⟩
      · exact .inr ⟨a1, ⟨r', a2, a3.mono hl⟩, RowM.mono hl hσ a4⟩⟩
def keyE (i : Nat) : EH → Loc
  | .arr _ => .a i
  | .grid _ => .a i
  | .mp _ _ => .a i
  | .blk _ _ => .b i
def holeP : Option Int → Nat → Prop
  | none => noHole
  | some j => fun k => k = j.toNat
def EntRel (f : HP) (σ : Rz B) (M : Loc → Option (Con B)) (i : Nat) : EH → HProp → Prop
  | .arr e, A => ∃ H n c cur xs s nn, σ i = some (.hdr H n c) ∧ A = Arr H c cur ∧ M (.a i) = some (.arr e xs s nn) ∧ σ s = some (.con e xs) ∧ ArrOk f (relB B e) H n c cur xs ∧
      (1 ≤ nn → H.isSome = true) ∧ (2 ≤ nn → xs ≠ [])
  | .grid e, A => ∃ H n c cur hs rs rows s h hole nn, σ i = some (.hdr H n c) ∧ A = GridH H c cur hs rs ∧ M (.a i) = some (.grid e rows s h hole nn) ∧ σ s = some (.con (.sl e) rows) ∧ σ h = some (.hdrs hs) ∧
      GridOk f (relB B e) H n c cur hs rs rows (holeP hole) ∧ (1 ≤ nn → H.isSome = true)
  | .mp k v, A => (rowT v = none ∧ ∃ r es clk m, σ i = some (.mob r) ∧ A = Blk r (.map es clk) ∧ M (.a i) = some (.mp k v m) ∧ MRel f k v es.toList m) ∨
      ∃ e r es clk hs rs, v = .sl e ∧ σ i = some (.mob r) ∧ A = MapH r (.map es clk) hs rs ∧
        ((∃ m, M (.a i) = some (.mp k (.sl e) m) ∧ RowM f σ k e none es.toList hs rs m) ∨ ∃ m key pd, M (.a i) = some (.mph k e m key pd) ∧ RowM f σ k e (some (key, pd)) es.toList hs rs m)
  | .blk ty n, A => ∃ b vals, σ i = some (.blk b) ∧ A = Blk b (.cells (List.toArray vals) ty (0, 0)) ∧ vals.length = n ∧ M (.b i) = some (.blk ty n) ∧
      ∀ j v, vals[j]? = some v → v.oneCell' = true ∧ ∃ c, M (.c i j) = some (.c c) ∧ CRel f σ c v
def Ents (f : HP) (σ : Rz B) (M : Loc → Option (Con B)) : List (Nat × EH) → List HProp → Prop
  | [], [] => True
  | (i, h) :: E, A :: L => EntRel f σ M i h A ∧ Ents f σ M E L
  | _, _ => False
theorem ArrOk.mono {α : Type} {E : FRel α} {A : Option Addr} {n c : Nat} {cur : Array Value} {xs : List α} (h : ArrOk f E A n c cur xs) (hl : HP.le f f') : ArrOk f' E A n c cur xs :=
  Hk.ArrOk.mono h hl
def untouched (up : Mem B) (i : Nat) : EH → Prop
  | .arr _ => look up (.a i) = none
  | .grid _ => look up (.a i) = none
  | .mp _ _ => look up (.a i) = none
  | .blk _ _ => look up (.b i) = none ∧ ∀ j, look up (.c i j) = none
theorem EntRel.mono {up : Mem B} (hl : HP.le f f') (hs : Rz.le σ σ') {i : Nat} {h : EH} {A : HProp} (hu : untouched up i h) (hr : EntRel f σ M i h A) : EntRel f' σ' (ovl up M) i h A := by
  cases h with
  | arr e =>
    obtain ⟨H, n, c, cur, xs, s, nn, h1, h2, h3, h4, h5, h6⟩ := hr
    exact ⟨H, n, c, cur, xs, s, nn, hs _ _ h1, h2, by rw [ovl_none hu]; exact h3, hs _ _ h4, ArrOk.mono h5 hl, h6⟩
  | grid e =>
    obtain ⟨H, n, c, cur, l, rs, rows, s, k, hole, nn, h1, h2, h3, h4, h5, h6, h7⟩ := hr
    exact ⟨H, n, c, cur, l, rs, rows, s, k, hole, nn, hs _ _ h1, h2, by rw [ovl_none hu]; exact h3, hs _ _ h4, hs _ _ h5, h6.mono hl, h7⟩
  | mp k v =>
    rcases hr with ⟨h0, r, es, clk, m, h1, h2, h3, h4⟩ | ⟨e, r, es, clk, hl', rl, h0, h1, h2, h3⟩
    · exact .inl ⟨h0, r, es, clk, m, hs _ _ h1, h2, by rw [ovl_none hu]; exact h3, h4.mono hl⟩
    · refine .inr ⟨e, r, es, clk, hl', rl, h0, hs _ _ h1, h2, ?_⟩
      rcases h3 with ⟨m, h3, h4⟩ | ⟨m, key, pd, h3, h4⟩
      · exact .inl ⟨m, by rw [ovl_none hu]; exact h3, h4.mono hl hs⟩
      · exact .inr ⟨m, key, pd, by rw [ovl_none hu]; exact h3, h4.mono hl hs⟩
  | blk ty n =>
    obtain ⟨b, vals, h1, h2, h3, h4, h5⟩ := hr
    refine ⟨b, vals, hs _ _ h1, h2, h3, by rw [ovl_none hu.1]; exact h4, fun j v hv => ?_⟩
    obtain ⟨k1, c, k2, k3⟩ := h5 j v hv
    exact ⟨k1, c, by rw [ovl_none (hu.2 j)]; exact k2, k3.mono hl hs⟩
theorem Ents.mono {up : Mem B} (hl : HP.le f f') (hs : Rz.le σ σ') : ∀ {E : List (Nat × EH)} {L : List HProp}, (∀ i h, (i, h) ∈ E → untouched up i h) → Ents f σ M E L → Ents f' σ' (ovl up M) E L
  | [], [], _, _ => trivial
  | (i, h) :: E, A :: L, hu, ⟨h1, h2⟩ => ⟨h1.mono hl hs (hu i h (by simp)), Ents.mono hl hs (fun i h hm => hu i h (by simp [hm])) h2⟩
  | [], _ :: _, _, h => h.elim
  | _ :: _, [], _, h => h.elim
theorem EntRel.isS {i : Nat} {h : EH} {A : HProp} (hr : EntRel f σ M i h A) : σ i ≠ none := by
  cases h with
  | arr e => obtain ⟨H, n, c, cur, xs, s, nn, h1, _⟩ := hr; rw [h1]; simp
  | grid e => obtain ⟨H, n, c, cur, l, rs, rows, s, k, hole, nn, h1, _⟩ := hr; rw [h1]; simp
  | mp k v =>
    rcases hr with ⟨h0, r, es, clk, m, h1, _⟩ | ⟨e, r, es, clk, hl', rl, h0, h1, _⟩
    · rw [h1]; simp
    · rw [h1]; simp
  | blk ty n => obtain ⟨b, vals, h1, _⟩ := hr; rw [h1]; simp
theorem Ents.isS : ∀ {E : List (Nat × EH)} {L : List HProp}, Ents f σ M E L → ∀ i h, (i, h) ∈ E → σ i ≠ none
  | [], [], _, i, h, hm => by simp at hm
  | (i0, h0) :: E, A :: L, ⟨h1, h2⟩, i, h, hm => by
    rcases List.mem_cons.1 hm with e | hm
    · injection e with e1 e2; subst e1; exact h1.isS
    · exact Ents.isS h2 i h hm
  | [], _ :: _, h, _, _, _ => h.elim
  | _ :: _, [], h, _, _, _ => h.elim
def Once (E : List (Nat × EH)) : Prop := (E.map (·.1)).Nodup
theorem delE_none {i : Nat} : ∀ {E : List (Nat × EH)}, (∀ h, (i, h) ∉ E) → delE E i = E
  | [], _ => rfl
  | (a, h) :: E, hn => by
    simp only [delE]
    have : Nat.beq a i = false := by
      cases hb : Nat.beq a i with
      | false => rfl
      | true => have := Nat.eq_of_beq_eq_true hb; subst this; exact absurd (by simp) (hn h)
    rw [this]
    simp only
    rw [delE_none fun h' hm => hn h' (by simp [hm])]
theorem mem_delE {i : Nat} {x : Nat × EH} : ∀ {E : List (Nat × EH)}, x ∈ delE E i ↔ x ∈ E ∧ x.1 ≠ i
  | [] => by simp [delE]
  | (a, h) :: E => by
    simp only [delE]
    cases hb : Nat.beq a i with
    | true =>
      have := Nat.eq_of_beq_eq_true hb; subst this
      simp only [mem_delE (E := E), List.mem_cons]
      constructor
      · rintro ⟨h1, h2⟩; exact ⟨.inr h1, h2⟩
      · rintro ⟨rfl | h1, h2⟩
        · exact absurd rfl h2
        · exact ⟨h1, h2⟩
    | false =>
      have hne : a ≠ i := fun e => by subst e; simp at hb
      simp only [List.mem_cons, mem_delE (E := E)]
      constructor
      · rintro (rfl | ⟨h1, h2⟩)
        · exact ⟨.inl rfl, hne⟩
        · exact ⟨.inr h1, h2⟩
      · rintro ⟨rfl | h1, h2⟩
        · exact .inl rfl
        · exact .inr ⟨h1, h2⟩
theorem mem_delsE {x : Nat × EH} : ∀ {l : List Nat} {E : List (Nat × EH)}, x ∈ delsE E l ↔ x ∈ E ∧ x.1 ∉ l
  | [], E => by simp [delsE]
  | i :: l, E => by
    simp only [delsE, mem_delsE (l := l), mem_delE, List.mem_cons, not_or]
    exact and_assoc
theorem Once.delE {i : Nat} {E : List (Nat × EH)} (h : Once E) : Once (Hd.delE E i) := by
  unfold Once at *
  induction E with
  | nil => exact h
  | cons x E ih =>
    obtain ⟨a, k⟩ := x
    simp only [List.map_cons, List.nodup_cons] at h
    simp only [Hd.delE]
    cases Nat.beq a i with
    | true => exact ih h.2
    | false =>
      simp only [List.map_cons, List.nodup_cons]
      refine ⟨fun hm => ?_, ih h.2⟩
      obtain ⟨y, hy, e⟩ := List.mem_map.1 hm
      exact h.1 (List.mem_map.2 ⟨y, (mem_delE.1 hy).1, e⟩)
theorem Once.delsE {l : List Nat} : ∀ {E : List (Nat × EH)}, Once E → Once (Hd.delsE E l) := by
  induction l with
  | nil => intro E h; exact h
  | cons i l ih => intro E h; exact ih h.delE
theorem Once.cons {i : Nat} {k : EH} {E : List (Nat × EH)} (h : Once E) (hn : ∀ k', (i, k') ∉ E) : Once ((i, k) :: E) := by
  unfold Once at *
  simp only [List.map_cons, List.nodup_cons]
  refine ⟨fun hm => ?_, h⟩
  obtain ⟨⟨a, y⟩, hy, e⟩ := List.mem_map.1 hm
  simp only at e
  subst e
  exact hn y hy
theorem erase_mid {α : Type} (A : α) (R : List α) : ∀ P : List α, (P ++ A :: R).eraseIdx P.length = P ++ R
  | [] => rfl
  | p :: P => by simp [erase_mid A R P]
theorem Ents.take {G w : World} {i : Nat} {h : EH} : ∀ {E : List (Nat × EH)} {L1 P L0 : List HProp}, Once E → (i, h) ∈ E → Ents f σ M E L1 → Wd G w f (P ++ (L1 ++ L0)) →
    ∃ A L2, EntRel f σ M i h A ∧ Ents f σ M (delE E i) L2 ∧ Wd G w f (A :: (P ++ (L2 ++ L0)))
  | [], _, _, _, _, hm, _, _ => by simp at hm
  | (a, k) :: E, [], _, _, _, _, he, _ => he.elim
  | (a, k) :: E, A :: L1, P, L0, ho, hm, ⟨h1, h2⟩, hw => by
    have ho' := ho
    unfold Once at ho
    simp only [List.map_cons, List.nodup_cons] at ho
    by_cases hai : a = i
    · subst hai
      have hk : k = h := by
        rcases List.mem_cons.1 hm with e | hm
        · injection e with _ e; exact e.symm
        · exact absurd (List.mem_map.2 ⟨(a, h), hm, rfl⟩) ho.1
      subst hk
      refine ⟨A, L1, h1, ?_, ?_⟩
      · have : delE ((a, k) :: E) a = E := by
          have hb : Nat.beq a a = true := by simp
          simp only [delE, hb]
          exact delE_none fun h' hm' => ho.1 (List.mem_map.2 ⟨(a, h'), hm', rfl⟩)
        rw [this]; exact h2
      · have hk : (P ++ (A :: L1 ++ L0))[P.length]? = some A := by simp
        have := hw.front P.length hk
        rw [List.cons_append, erase_mid] at this
        exact this
    · have hm' : (i, h) ∈ E := by
        rcases List.mem_cons.1 hm with e | hm
        · injection e with e _; exact absurd e.symm hai
        · exact hm
      obtain ⟨A', L2, k1, k2, k3⟩ := Ents.take (P := P ++ [A]) (L0 := L0) ho.2 hm' h2 (by simpa using hw)
      refine ⟨A', A :: L2, k1, ?_, by simpa using k3⟩
      have hb : Nat.beq a i = false := by
        cases hb : Nat.beq a i with
        | false => rfl
        | true => exact absurd (Nat.eq_of_beq_eq_true hb) hai
      simp only [delE, hb]
      exact ⟨h1, k2⟩
structure SimF (G : World) (L0 : List HProp) (f0 : HP) (σ0 : Rz B) (M : Loc → Option (Con B)) (E : List (Nat × EH)) (N : Nat → Prop) (f : HP) (σ : Rz B) (ρ : Env) (w : World) : Prop where
  gl : B.glob f
  le : HP.le f0 f
  sub : Rz.le σ0 σ
  fresh : ∀ i, ¬ N i → σ i = none
  slots : ∀ t, SRel f σ (M (.s t)) (ρ t)
  fzs : ∀ i e xs nn, M (.a i) = some (.fz e xs nn) → ∃ A n c, σ i = some (.hdr A n c) ∧ SlF f (relB B e) A n c xs ∧ (1 ≤ nn → A.isSome = true)
  fzbs : ∀ i e x, M (.b i) = some (.fzb e x) → ∃ b ds ty fr, σ i = some (.blk b) ∧ f b = some (.cells (List.toArray ds) ty fr) ∧ (relB B e).p f ds x
  clos : ∀ c j x, M (.k c j) = some (.c x) → ∃ vals v, σ c = some (.clo vals) ∧ vals[j]? = some v ∧ CRel f σ x v
  arrs : ∀ i e xs s nn, M (.a i) = some (.arr e xs s nn) → (i, EH.arr e) ∈ E
  grds : ∀ i e rows s h hole nn, M (.a i) = some (.grid e rows s h hole nn) → (i, EH.grid e) ∈ E
  mps : ∀ i k v m, M (.a i) = some (.mp k v m) → (i, EH.mp k v) ∈ E
  mphs : ∀ i k e m key pd, M (.a i) = some (.mph k e m key pd) → (i, EH.mp k (.sl e)) ∈ E
  blks : ∀ i ty n, M (.b i) = some (.blk ty n) → (i, EH.blk ty n) ∈ E
  ents : ∃ E1 L1, Once E1 ∧ (∀ x, x ∈ E1 ↔ x ∈ E) ∧ Ents f σ M E1 L1 ∧ Wd G w f (L1 ++ L0)
def UpOk (f : HP) (σ : Rz B) (E : List (Nat × EH)) : Loc → Con B → Prop
  | .a i, .arr e _ _ _ => (i, EH.arr e) ∈ E
  | .a i, .grid e _ _ _ _ _ => (i, EH.grid e) ∈ E
  | .a i, .mp k v _ => (i, EH.mp k v) ∈ E
  | .a i, .mph k e _ _ _ => (i, EH.mp k (.sl e)) ∈ E
  | .a i, .fz e xs nn => ∃ A n c, σ i = some (.hdr A n c) ∧ SlF f (relB B e) A n c xs ∧ (1 ≤ nn → A.isSome = true)
  | .a _, .gone => True
  | .b i, .blk ty n => (i, EH.blk ty n) ∈ E
  | .b i, .fzb e x => ∃ b ds ty fr, σ i = some (.blk b) ∧ f b = some (.cells (List.toArray ds) ty fr) ∧ (relB B e).p f ds x
  | .b _, .gone => True
  | .c _ _, .c _ => True
  | .k c j, .c x => ∃ vals v, σ c = some (.clo vals) ∧ vals[j]? = some v ∧ CRel f σ x v
  | _, _ => False
variable {G w w' : World} {L0 : List HProp} {f0 : HP} {σ0 : Rz B} {E E' : List (Nat × EH)} {N N' : Nat → Prop} {ρ : Env}
theorem SimF.updS (hs : SimF G L0 f0 σ0 M E N f σ ρ w) {up : Mem B} (hl : HP.le f f') (hσ : Rz.le σ σ') (hfr : ∀ i, ¬ N' i → σ' i = none)
    (hup : ∀ l c, look up l = some c → UpOk f' σ' E' l c) (hE : ∀ i h, (i, h) ∈ E → (i, h) ∈ E' ∨ look up (keyE i h) ≠ none)
    (hEnts : ∃ E1 L1, Once E1 ∧ (∀ x, x ∈ E1 ↔ x ∈ E') ∧ Ents f' σ' (ovl up M) E1 L1 ∧ Wd G w' f' (L1 ++ L0)) : SimF G L0 f0 σ0 (ovl up M) E' N' f' σ' ρ w' where
  gl := B.gmono _ _ hl hs.gl
  le := HP.le_trans hs.le hl
  sub := Rz.le_trans hs.sub hσ
  fresh := hfr
  slots t := by
    have : look up (.s t) = none := by
      cases h : look up (.s t) with
      | none => rfl
      | some c => have := hup _ _ h; cases c <;> exact this.elim
    rw [ovl_none this]; exact (hs.slots t).mono hl hσ
  fzs i e xs nn h := by
    cases hu : look up (.a i) with
    | none =>
      rw [ovl_none hu] at h
      obtain ⟨A, n, c, h1, h2, h3⟩ := hs.fzs i e xs nn h
      exact ⟨A, n, c, hσ _ _ h1, h2.mono hl, h3⟩
    | some c => rw [ovl_some hu] at h; injection h with h; subst h; exact hup _ _ hu
  fzbs i e x h := by
    cases hu : look up (.b i) with
    | none =>
      rw [ovl_none hu] at h
      obtain ⟨b, ds, ty, fr, h1, h2, h3⟩ := hs.fzbs i e x h
      exact ⟨b, ds, ty, fr, hσ _ _ h1, hl _ _ h2, (relB B e).mono hl h3⟩
    | some c => rw [ovl_some hu] at h; injection h with h; subst h; exact hup _ _ hu
  clos c j x h := by
    cases hu : look up (.k c j) with
    | none =>
      rw [ovl_none hu] at h
      obtain ⟨vals, v, h1, h2, h3⟩ := hs.clos c j x h
      exact ⟨vals, v, hσ _ _ h1, h2, h3.mono hl hσ⟩
    | some c => rw [ovl_some hu] at h; injection h with h; subst h; exact hup _ _ hu
  arrs i e xs s nn h := by
    cases hu : look up (.a i) with
    | none =>
      rw [ovl_none hu] at h
      rcases hE _ _ (hs.arrs i e xs s nn h) with h | h
      · exact h
      · exact absurd hu h
    | some c => rw [ovl_some hu] at h; injection h with h; subst h; exact hup _ _ hu
  grds i e rows s k hole nn h := by
    cases hu : look up (.a i) with
    | none =>
      rw [ovl_none hu] at h
      rcases hE _ _ (hs.grds i e rows s k hole nn h) with h | h
      · exact h
      · exact absurd hu h
    | some c => rw [ovl_some hu] at h; injection h with h; subst h; exact hup _ _ hu
  mps i k v m h := by
    cases hu : look up (.a i) with
    | none =>
      rw [ovl_none hu] at h
      rcases hE _ _ (hs.mps i k v m h) with h | h
      · exact h
      · exact absurd hu h
    | some c => rw [ovl_some hu] at h; injection h with h; subst h; exact hup _ _ hu
  mphs i k e m key pd h := by
    cases hu : look up (.a i) with
    | none =>
      rw [ovl_none hu] at h
      rcases hE _ _ (hs.mphs i k e m key pd h) with h | h
      · exact h
      · exact absurd hu h
    | some c => rw [ovl_some hu] at h; injection h with h; subst h; exact hup _ _ hu
  blks i ty n h := by
    cases hu : look up (.b i) with
    | none =>
      rw [ovl_none hu] at h
      rcases hE _ _ (hs.blks i ty n h) with h | h
      · exact h
      · exact absurd hu h
    | some c => rw [ovl_some hu] at h; injection h with h; subst h; exact hup _ _ hu
  ents := hEnts
theorem SimF.same (hs : SimF G L0 f0 σ0 M E N f σ ρ w) (hN : ∀ i, N i → N' i) : SimF G L0 f0 σ0 M E N' f σ ρ w :=
  { hs with fresh := fun i hi => hs.fresh i fun h => hi (hN i h) }
theorem SimF.put (hs : SimF G L0 f0 σ0 M E N f σ ρ w) {d : Nat} {x : DV B} {v : Value} (hv : DRel f σ x v) : SimF G L0 f0 σ0 (ovl [(.s d, .v x)] M) E N f σ (upd ρ d v) w :=
  { hs with
    slots := fun t => by
      by_cases ht : t = d
      · subst ht
        rw [ovl_some (look_cons_self _ _ _)]
        simp [SRel, Hk.upd, hv]
      · rw [ovl_none (look_cons_ne (by simpa using Ne.symm ht) _ _)]
        have : Nat.beq t d = false := by
          cases hb : Nat.beq t d with
          | false => rfl
          | true => exact absurd (Nat.eq_of_beq_eq_true hb) ht
        simp only [Hk.upd, this, cond_false]
        exact hs.slots t
    fzs := fun i e xs nn h => hs.fzs i e xs nn (by rw [ovl_none (look_cons_ne (by simp) _ _)] at h; exact h)
    fzbs := fun i e x h => hs.fzbs i e x (by rw [ovl_none (look_cons_ne (by simp) _ _)] at h; exact h)
    clos := fun i j x h => hs.clos i j x (by rw [ovl_none (look_cons_ne (by simp) _ _)] at h; exact h)
    arrs := fun i e xs s nn h => hs.arrs i e xs s nn (by rw [ovl_none (look_cons_ne (by simp) _ _)] at h; exact h)
    grds := fun i e rows s k hole nn h => hs.grds i e rows s k hole nn (by rw [ovl_none (look_cons_ne (by simp) _ _)] at h; exact h)
    mps := fun i k v m h => hs.mps i k v m (by rw [ovl_none (look_cons_ne (by simp) _ _)] at h; exact h)
    mphs := fun i k e m key pd h => hs.mphs i k e m key pd (by rw [ovl_none (look_cons_ne (by simp) _ _)] at h; exact h)
    blks := fun i ty n h => hs.blks i ty n (by rw [ovl_none (look_cons_ne (by simp) _ _)] at h; exact h)
    ents := by
      obtain ⟨E1, L1, k1, k2, h1, h2⟩ := hs.ents
      exact ⟨E1, L1, k1, k2, Ents.mono (HP.le_refl _) (Rz.le_refl _) (fun i h _ => by cases h <;> simp [untouched, look, Loc.beq]) h1, h2⟩ }
def setR (σ : Rz B) (i : Nat) (r : Real B) : Rz B := fun j => if j = i then some r else σ j
theorem setR_le {i : Nat} {r : Real B} (h : σ i = none) : Rz.le σ (setR σ i r) := fun j x hj => by
  unfold setR
  split
  · rename_i e; subst e; rw [h] at hj; cases hj
  · exact hj
theorem setR_self (σ : Rz B) (i : Nat) (r : Real B) : setR σ i r i = some r := by simp [setR]
theorem setR_ne {σ : Rz B} {i j : Nat} {r : Real B} (h : j ≠ i) : setR σ i r j = σ j := by simp [setR, h]
end
end Hd
set_option linter.unusedVariables false
set_option linter.unusedSimpArgs false
namespace Hd
open Go Hk
section
variable {B : Tab} {ρr α : Type} {M : Loc → Option (Con B)}
theorem opt_ran {β : Type} {x : Option β} {k : β → RM B ρr} {o : ρr} {rs : List Loc} (h : (RM.opt x k).Ran M o rs) : ∃ y, x = some y ∧ (k y).Ran M o rs := by
  cases x with
  | none => exact h.elim
  | some y => exact ⟨y, rfl, h⟩
theorem chk_ran {b : Bool} {k : RM B ρr} {o : ρr} {rs : List Loc} (h : (RM.chk b k).Ran M o rs) : b = true ∧ k.Ran M o rs := by
  cases b with
  | false => exact h.elim
  | true => exact ⟨rfl, h⟩
theorem bind_ran {β : Type} {x : Option β} {k : β → RM B ρr} {o : ρr} {rs : List Loc} (h : (RM.bind x k).Ran M o rs) : ∃ y, x = some y ∧ (k y).Ran M o rs := h
theorem read_ran {l : Loc} {k : Option (Con B) → RM B ρr} {o : ρr} {rs : List Loc} (h : (RM.read l k).Ran M o rs) : ∃ rs', (k (M l)).Ran M o rs' := by
  obtain ⟨rs', _, h⟩ := h
  exact ⟨rs', h⟩
theorem ret_ran {x o : ρr} {rs : List Loc} (h : (RM.ret (B := B) x).Ran M o rs) : o = x := h.1.symm
theorem rdo_ran {ov : Ov B} {l : Loc} {k : Option (Con B) → RM B ρr} {o : ρr} {rs : List Loc} (h : (rdo ov l k).Ran M o rs) : ∃ rs', (k (ovl ov.up M l)).Ran M o rs' := by
  unfold rdo at h
  cases hl : look ov.up l with
  | some c => rw [hl] at h; rw [ovl_some hl]; exact ⟨rs, h⟩
  | none => rw [hl] at h; rw [ovl_none hl]; exact read_ran h
end
section
variable {B : Tab} {ρr : Type} {M : Loc → Option (Con B)} {G w : World} {L0 : List HProp} {f0 f : HP} {σ0 σ : Rz B} {E : List (Nat × EH)} {N : Nat → Prop} {ρ : Env}
variable {o : ρr} {rs : List Loc}
theorem unN_rel {c : Cel B} {v : Value} (hc : CRel f σ c v) : CRel f σ (unN c) v := by
  cases c <;> try exact hc
  rename_i e x
  cases x with
  | none =>
    obtain ⟨c, e1, h⟩ := hc
    simp only [List.cons.injEq, and_true] at e1
    exact ⟨none, 0, c, e1, slF_nilc _ _ h⟩
  | some xs =>
    obtain ⟨a, n, c, e1, h⟩ := hc
    simp only [List.cons.injEq, and_true] at e1
    exact ⟨some a, n, c, e1, h⟩
theorem nslB {B : Tab} {σ : Rz B} {e : Ty} {f : HP} {A : Option Addr} {n c : Nat} {xs : List (den B.T e)} {b : Bool} (h : SlF f (relB B e) A n c xs) (hb : A.isNone = b) : CRel f σ (.nsl e (cond b none (some xs))) (.slice A n c) := by
  cases A with
  | none =>
    subst hb
    obtain ⟨rfl, rfl, h3⟩ := slF_none h
    exact ⟨c, rfl, h3⟩
  | some a =>
    subst hb
    exact ⟨a, n, c, rfl, h⟩
theorem slF_tight {α : Type} {E : FRel α} {f : HP} {A : Option Addr} {n c : Nat} {xs : List α} (h : SlF f E A n c xs) : SlF f E A xs.length xs.length xs := ⟨rfl, Nat.le_refl _, Nat.le_trans h.le h.max, h.get⟩
theorem resC_ran (hs : SimF G L0 f0 σ0 M E N f σ ρ w) {c : Cel B} {k : Cel B → RM B ρr} {v : Value} (hc : CRel f σ c v) (h : (resC c k).Ran M o rs) :
    ∃ c' rs', CRel f σ c' v ∧ (k c').Ran M o rs' := by
  cases c with
  | own i =>
    obtain ⟨rs', h⟩ := read_ran h
    cases hM : M (.a i) with
    | none => rw [hM] at h; exact ⟨_, _, hc, h⟩
    | some q =>
      rw [hM] at h
      cases q with
      | fz e xs nn =>
        obtain ⟨A, n, c, h1, h2, h3⟩ := hs.fzs i e xs nn hM
        obtain ⟨A', n', c', k1, rfl⟩ := hc
        rw [h1] at k1
        injection k1 with k1
        injection k1 with e1 e2 e3
        subst e1 e2 e3
        refine ⟨slC e xs nn, _, ?_, h⟩
        cases nn with
        | zero => exact ⟨A, n, c, rfl, h2⟩
        | succ m =>
          cases A with
          | none => have := h3 (by omega); cases this
          | some a => exact ⟨a, n, c, rfl, h2⟩
      | _ => exact ⟨_, _, hc, h⟩
  | ob i b =>
    obtain ⟨rs', h⟩ := read_ran h
    cases hM : M (.a i) with
    | none => rw [hM] at h; exact ⟨_, _, hc, h⟩
    | some q =>
      rw [hM] at h
      cases q with
      | fz e xs nn =>
        obtain ⟨A, n, c, h1, h2, h3⟩ := hs.fzs i e xs nn hM
        obtain ⟨A', n', c', k1, rfl, k2⟩ := hc
        rw [h1] at k1
        injection k1 with k1
        injection k1 with e1 e2 e3
        subst e1 e2 e3
        exact ⟨_, _, nslB h2 k2, h⟩
      | _ => exact ⟨_, _, hc, h⟩
  | pa i off =>
    obtain ⟨rs', h⟩ := read_ran h
    cases hM : M (.a i) with
    | none => rw [hM] at h; exact ⟨_, _, hc, h⟩
    | some q =>
      rw [hM] at h
      cases q with
      | fz e xs nn =>
        obtain ⟨A, n, c, h1, h2, h3⟩ := hs.fzs i e xs nn hM
        obtain ⟨b, o, n', c', k1, rfl, k2⟩ := hc
        rw [h1] at k1
        injection k1 with k1
        injection k1 with e1 e2 e3
        subst e1 e2 e3
        exact ⟨.pf e xs off, _, ⟨b, o, rfl, k2, slF_tight h2⟩, h⟩
      | _ => exact ⟨_, _, hc, h⟩
  | ptr i off =>
    obtain ⟨rs', h⟩ := read_ran h
    cases hM : M (.b i) with
    | none => rw [hM] at h; exact ⟨_, _, hc, h⟩
    | some q =>
      rw [hM] at h
      cases q with
      | fzb e x =>
        obtain ⟨b, ds, ty, fr, h1, h2, h3⟩ := hs.fzbs i e x hM
        obtain ⟨b', k1, rfl⟩ := hc
        rw [h1] at k1
        injection k1 with k1
        injection k1 with e1
        subst e1
        cases off with
        | zero => exact ⟨.fpt e x, _, ⟨b, ds, ty, fr, rfl, h2, h3⟩, h⟩
        | succ n =>
          refine ⟨.fel e x (n + 1), _, ⟨b, 0, ds, by rw [Nat.zero_add], fun j u hj => ?_, h3⟩, h⟩
          rw [Nat.zero_add]
          exact fblk h2 hj
      | _ => exact ⟨_, _, hc, h⟩
  | _ => exact ⟨_, _, hc, h⟩
theorem resL_ran (hs : SimF G L0 f0 σ0 M E N f σ ρ w) : ∀ {cs : List (Cel B)} {k : List (Cel B) → RM B ρr} {vs : List Value} {rs : List Loc}, CRels f σ cs vs → (resL cs k).Ran M o rs →
    ∃ cs' rs', CRels f σ cs' vs ∧ (k cs').Ran M o rs'
  | [], k, [], rs, _, h => ⟨[], rs, trivial, h⟩
  | c :: cs, k, v :: vs, rs, ⟨h1, h2⟩, h => by
    obtain ⟨c', rs', h3, h⟩ := resC_ran hs h1 h
    obtain ⟨cs', rs', h4, h⟩ := resL_ran hs h2 h
    exact ⟨c' :: cs', rs', ⟨h3, h4⟩, h⟩
  | [], _, _ :: _, _, hc, _ => hc.elim
  | _ :: _, _, [], _, hc, _ => hc.elim
theorem resT_ran (hs : SimF G L0 f0 σ0 M E N f σ ρ w) : ∀ {cs : List (Bool × List (Cel B))} {k : List (Bool × List (Cel B)) → RM B ρr} {vs : List Value} {rs : List Loc}, TRels f σ cs vs → (resT cs k).Ran M o rs →
    ∃ cs' rs', TRels f σ cs' vs ∧ (k cs').Ran M o rs'
  | [], k, [], rs, _, h => ⟨[], rs, trivial, h⟩
  | (g, c) :: cs, k, v :: vs, rs, ⟨⟨us, h1, e1, e2⟩, h2⟩, h => by
    obtain ⟨c', rs', h3, h⟩ := resL_ran hs h1 h
    obtain ⟨cs', rs', h4, h⟩ := resT_ran hs h2 h
    exact ⟨(g, c') :: cs', rs', ⟨⟨us, h3, e1, e2⟩, h4⟩, h⟩
  | [], _, _ :: _, _, hc, _ => hc.elim
  | _ :: _, _, [], _, hc, _ => hc.elim
theorem resD_ran (hs : SimF G L0 f0 σ0 M E N f σ ρ w) {d : DV B} {k : DV B → RM B ρr} {v : Value} (hd : DRel f σ d v) (h : (resD d k).Ran M o rs) :
    ∃ d' rs', DRel f σ d' v ∧ (k d').Ran M o rs' := by
  cases d with
  | one c => obtain ⟨c', rs', h1, h⟩ := resC_ran (k := fun c' => k (.one c')) hs hd h; exact ⟨.one c', rs', h1, h⟩
  | agg l =>
    obtain ⟨vs, rfl, hd⟩ := hd
    obtain ⟨c', rs', h1, h⟩ := resL_ran (k := fun c' => k (.agg c')) hs hd h; exact ⟨.agg c', rs', ⟨vs, rfl, h1⟩, h⟩
  | tup l =>
    obtain ⟨vs, rfl, hd⟩ := hd
    obtain ⟨c', rs', h1, h⟩ := resT_ran (k := fun c' => k (.tup c')) hs hd h; exact ⟨.tup c', rs', ⟨vs, rfl, h1⟩, h⟩
  | lst e xs => exact ⟨.lst e xs, rs, hd, h⟩
  | pas => exact ⟨.pas, rs, hd, h⟩
theorem constC_rel {v : Value} {c : Cel B} (h : constC v = some c) : CRel f σ c v := by
  unfold constC at h
  split at h <;> first | (injection h with h; subst h; exact rfl) | cases h
theorem constL_rel : ∀ {vs : List Value} {cs : List (Cel B)}, constL vs = some cs → CRels f σ cs vs
  | [], cs, h => by injection h with h; subst h; trivial
  | v :: vs, cs, h => by
    unfold constL at h
    cases h1 : constC (B := B) v with
    | none => simp [h1] at h
    | some c =>
      simp only [h1] at h
      cases h2 : constL (B := B) vs with
      | none => simp [h2] at h
      | some l => simp only [h2, Option.some.injEq] at h; subst h; exact ⟨constC_rel h1, constL_rel h2⟩
theorem opd_ran (hs : SimF G L0 f0 σ0 M E N f σ ρ w) {x : Operand} {k : DV B → RM B ρr} (h : (opd x k).Ran M o rs) : ∃ d rs', DRel f σ d (ev ρ x) ∧ (k d).Ran M o rs' := by
  unfold opd at h
  split at h
  · rename_i t
    obtain ⟨rs', h⟩ := read_ran h
    have hsl := hs.slots t
    cases hM : M (.s t) with
    | none => rw [hM] at h; exact h.elim
    | some q =>
      rw [hM] at h hsl
      cases q <;> try exact h.elim
      exact resD_ran hs hsl h
  · rename_i cs
    obtain ⟨l, h1, h⟩ := opt_ran h
    exact ⟨.agg l, _, ⟨cs.toList, by simp [ev], constL_rel h1⟩, h⟩
  · rename_i v _
    obtain ⟨c, h1, h⟩ := opt_ran h
    exact ⟨.one c, _, constC_rel h1, h⟩
  · exact ⟨.one (.fn0 _), _, rfl, h⟩
  · exact h.elim
theorem opdRaw_ran (hs : SimF G L0 f0 σ0 M E N f σ ρ w) {x : Operand} {k : DV B → RM B ρr} (h : (opdRaw x k).Ran M o rs) : ∃ d rs', DRel f σ d (ev ρ x) ∧ (k d).Ran M o rs' := by
  unfold opdRaw at h
  split at h
  · rename_i t
    obtain ⟨rs', h⟩ := read_ran h
    have hsl := hs.slots t
    cases hM : M (.s t) with
    | none => rw [hM] at h; exact h.elim
    | some q =>
      rw [hM] at h hsl
      cases q <;> try exact h.elim
      exact ⟨_, _, hsl, h⟩
  · exact opd_ran hs h
theorem unO_rel {c : Cel B} {v : Value} (h : CRel f σ c v) : CRel f σ (unO c) v := by
  cases c with
  | ob i b => obtain ⟨A, n, c, h1, h2, _⟩ := h; exact ⟨A, n, c, h1, h2⟩
  | _ => exact h
theorem opd1_ran (hs : SimF G L0 f0 σ0 M E N f σ ρ w) {x : Operand} {k : Cel B → RM B ρr} (h : (opd1 x k).Ran M o rs) : ∃ c rs', CRel f σ c (ev ρ x) ∧ (k c).Ran M o rs' := by
  unfold opd1 at h
  obtain ⟨d, rs', h1, h⟩ := opd_ran hs h
  cases d with
  | one c => exact ⟨unO c, rs', unO_rel h1, h⟩
  | _ => exact h.elim
def DRels (f : HP) (σ : Rz B) : List (DV B) → List Value → Prop
  | [], [] => True
  | d :: ds, v :: vs => DRel f σ d v ∧ DRels f σ ds vs
  | _, _ => False
theorem opds_ran (hs : SimF G L0 f0 σ0 M E N f σ ρ w) : ∀ {l : List Operand} {k : List (DV B) → RM B ρr} {rs : List Loc}, (opds l k).Ran M o rs →
    ∃ ds rs', DRels f σ ds (l.map (ev ρ)) ∧ (k ds).Ran M o rs'
  | [], k, rs, h => ⟨[], rs, trivial, h⟩
  | x :: l, k, rs, h => by
    obtain ⟨d, rs', h1, h⟩ := opd_ran hs h
    obtain ⟨ds, rs', h2, h⟩ := opds_ran hs h
    exact ⟨d :: ds, rs', ⟨h1, h2⟩, h⟩
theorem one_of_rel {c : Cel B} {v : Value} (hc : CRel f σ c v) (hu : isUnd c = false) : v.oneCell' = true ∧ v.cells = #[v] := by
  have key : (∃ k n, v = .int k n) ∨ (∃ b, v = .bool b) ∨ (∃ s, v = .string s) ∨ (∃ A n c, v = .slice A n c) ∨ (∃ a, v = .pointer a) ∨ v = .nilFunc ∨ (∃ g a b, v = .func g a b) ∨ ∃ a, v = .map a := by
    cases c with
    | int k n => exact .inl ⟨_, _, hc⟩
    | ilen m => exact .inl ⟨_, _, hc.1⟩
    | bool b => exact .inr (.inl ⟨_, hc⟩)
    | str s => exact .inr (.inr (.inl ⟨_, hc⟩))
    | sl e xs => obtain ⟨A, n, c, e1, _⟩ := hc; exact .inr (.inr (.inr (.inl ⟨_, _, _, e1⟩)))
    | nsl e x => cases x with
      | none => obtain ⟨c, e1, _⟩ := hc; simp only [List.cons.injEq, and_true] at e1; exact .inr (.inr (.inr (.inl ⟨_, _, _, e1⟩)))
      | some xs => obtain ⟨a, n, c, e1, _⟩ := hc; simp only [List.cons.injEq, and_true] at e1; exact .inr (.inr (.inr (.inl ⟨_, _, _, e1⟩)))
    | opt e x => cases x with
      | none => simp only [CRel, fOpt, List.cons.injEq, and_true] at hc; exact .inr (.inr (.inr (.inr (.inl ⟨_, hc⟩))))
      | some y => obtain ⟨b, ds, ty, fr, e1, _⟩ := hc; simp only [List.cons.injEq, and_true] at e1; exact .inr (.inr (.inr (.inr (.inl ⟨_, e1⟩))))
    | ap e x => cases x with
      | none => simp only [CRel, fAp, List.cons.injEq, and_true] at hc; exact .inr (.inr (.inr (.inr (.inl ⟨_, hc⟩))))
      | some xs => obtain ⟨b, o, e1, _⟩ := hc; simp only [List.cons.injEq, and_true] at e1; exact .inr (.inr (.inr (.inr (.inl ⟨_, e1⟩))))
    | pf e xs off => obtain ⟨b, o, e1, _⟩ := hc; exact .inr (.inr (.inr (.inr (.inl ⟨_, e1⟩))))
    | pa i off => obtain ⟨b, o, n, c, _, e1, _⟩ := hc; exact .inr (.inr (.inr (.inr (.inl ⟨_, e1⟩))))
    | nils => exact .inr (.inr (.inr (.inl ⟨_, _, _, hc⟩)))
    | nilp => exact .inr (.inr (.inr (.inr (.inl ⟨_, hc⟩))))
    | nilf => exact .inr (.inr (.inr (.inr (.inr (.inl hc)))))
    | ob i b => obtain ⟨A, n, c, _, e1, _⟩ := hc; exact .inr (.inr (.inr (.inl ⟨_, _, _, e1⟩)))
    | own i => obtain ⟨A, n, c, _, e1⟩ := hc; exact .inr (.inr (.inr (.inl ⟨_, _, _, e1⟩)))
    | ptr i off => obtain ⟨b, _, e1⟩ := hc; exact .inr (.inr (.inr (.inr (.inl ⟨_, e1⟩))))
    | fpt e x => obtain ⟨b, ds, ty, fr, e1, _⟩ := hc; exact .inr (.inr (.inr (.inr (.inl ⟨_, e1⟩))))
    | fel e x off => obtain ⟨b, o, ds, e1, _⟩ := hc; exact .inr (.inr (.inr (.inr (.inl ⟨_, e1⟩))))
    | oel a e i x off s => obtain ⟨b, o, n, c, xs, _, e1, _⟩ := hc; exact .inr (.inr (.inr (.inr (.inl ⟨_, e1⟩))))
    | gop g e i => obtain ⟨b, o, n, c, _, e1⟩ := hc; exact .inr (.inr (.inr (.inr (.inl ⟨_, e1⟩))))
    | grow g e i h => obtain ⟨_, l, hd, _, _, e1⟩ := hc; exact .inr (.inr (.inr (.inl ⟨_, _, _, e1⟩)))
    | gel g e i j x off s h => obtain ⟨_, l, b, o, m, q, rows, row, _, _, e1, _⟩ := hc; exact .inr (.inr (.inr (.inr (.inl ⟨_, e1⟩))))
    | vw a e l k => obtain ⟨A, n, c, _, e1⟩ := hc; exact .inr (.inr (.inr (.inl ⟨_, _, _, e1⟩)))
    | pw a e l k => obtain ⟨b, o, n, c, _, e1⟩ := hc; exact .inr (.inr (.inr (.inl ⟨_, _, _, e1⟩)))
    | fn0 fid => exact .inr (.inr (.inr (.inr (.inr (.inr (.inl ⟨_, _, _, hc⟩))))))
    | yl l => obtain ⟨_, _, e1⟩ := hc; exact .inr (.inr (.inr (.inr (.inr (.inr (.inl ⟨_, _, _, e1⟩))))))
    | nilm => exact .inr (.inr (.inr (.inr (.inr (.inr (.inr ⟨_, hc⟩))))))
    | mpr i => obtain ⟨r, _, e1⟩ := hc; exact .inr (.inr (.inr (.inr (.inr (.inr (.inr ⟨_, e1⟩))))))
    | slk c m => obtain ⟨b, vals, ty, fr, _, _, e1, _⟩ := hc; exact .inr (.inr (.inr (.inl ⟨_, _, _, e1⟩)))
    | fn fid cid m => obtain ⟨vals, _, _, e1⟩ := hc; exact .inr (.inr (.inr (.inr (.inr (.inr (.inl ⟨_, _, _, e1⟩))))))
    | und => simp [isUnd] at hu
  rcases key with ⟨_, _, rfl⟩ | ⟨_, rfl⟩ | ⟨_, rfl⟩ | ⟨_, _, _, rfl⟩ | ⟨_, rfl⟩ | rfl | ⟨_, _, _, rfl⟩ | ⟨_, rfl⟩ <;> exact ⟨rfl, rfl⟩
theorem noUnd_one : ∀ {cs : List (Cel B)} {vs : List Value}, CRels f σ cs vs → noUnd cs = true → ∀ v ∈ vs, v.oneCell' = true
  | [], [], _, _, v, hv => by simp at hv
  | c :: cs, u :: vs, ⟨h1, h2⟩, hu, v, hv => by
    unfold noUnd at hu
    cases hc : isUnd c with
    | true => simp [hc] at hu
    | false =>
      simp only [hc] at hu
      rcases List.mem_cons.1 hv with rfl | hv
      · exact (one_of_rel h1 hc).1
      · exact noUnd_one h2 hu v hv
  | [], _ :: _, h, _, _, _ => h.elim
  | _ :: _, [], h, _, _, _ => h.elim
theorem opdL_ran (hs : SimF G L0 f0 σ0 M E N f σ ρ w) {x : Operand} {k : List (Cel B) → RM B ρr} (h : (opdL x k).Ran M o rs) :
    ∃ cs rs', (noUnd cs = true → CRels f σ cs (ev ρ x).cells.toList) ∧ (k cs).Ran M o rs' := by
  obtain ⟨d, rs', h1, h⟩ := opd_ran hs h
  obtain ⟨cs, h2, h⟩ := opt_ran h
  refine ⟨cs, rs', fun hu => ?_, h⟩
  cases d with
  | one c =>
    injection h2 with h2; subst h2
    have hc : isUnd c = false := by
      unfold noUnd at hu
      cases hc : isUnd c with
      | true => simp [hc] at hu
      | false => rfl
    rw [(one_of_rel h1 hc).2]
    exact ⟨h1, trivial⟩
  | agg l =>
    injection h2 with h2; subst h2
    obtain ⟨vs, e, h⟩ := h1
    rw [e]
    simpa [Value.cells] using h
  | _ => cases h2
theorem readC_ran (hs : SimF G L0 f0 σ0 M E N f σ ρ w) {i : Nat} {vals : List Value} (hv : ∀ j v, vals[j]? = some v → ∃ c, M (.c i j) = some (.c c) ∧ CRel f σ c v) :
    ∀ {n a : Nat} {k : List (Cel B) → RM B ρr} {rs : List Loc}, a + n ≤ vals.length → (readC i a n k).Ran M o rs → ∃ cs rs', CRels f σ cs ((vals.drop a).take n) ∧ (k cs).Ran M o rs'
  | 0, a, k, rs, _, h => ⟨[], rs, by simp [CRels], h⟩
  | n + 1, a, k, rs, hn, h => by
    unfold readC at h
    obtain ⟨rs', h⟩ := read_ran h
    obtain ⟨v, hva⟩ : ∃ v, vals[a]? = some v := ⟨vals[a]'(by omega), List.getElem?_eq_getElem (by omega)⟩
    obtain ⟨c, h1, h2⟩ := hv a v hva
    rw [h1] at h
    obtain ⟨c', rs', h3, h⟩ := resC_ran hs h2 h
    obtain ⟨cs, rs', h4, h⟩ := readC_ran hs hv (by omega) h
    refine ⟨c' :: cs, rs', ?_, h⟩
    have hlt := (List.getElem?_eq_some_iff.1 hva).1
    rw [List.drop_eq_getElem_cons hlt, List.take_succ_cons]
    have : vals[a] = v := (List.getElem?_eq_some_iff.1 hva).2
    rw [this]
    exact ⟨h3, h4⟩
end
end Hd
set_option linter.unusedVariables false
set_option linter.unusedSimpArgs false
namespace Hd
open Go Hk
section
variable {B : Tab} {P : Program} {tt : List (TI B)}
theorem tfind_ok (htt : ttOk P tt = true) {i : Nat} {t : TI B} (h : tfind tt i = some t) : tiOk P t = true ∧ t.id = i := by
  induction tt with
  | nil => cases h
  | cons a r ih =>
    simp only [ttOk, Bool.and_eq_true] at htt
    simp only [tfind] at h
    cases hb : Nat.beq a.id i with
    | true => rw [hb] at h; injection h with h; subst h; exact ⟨htt.1, Nat.eq_of_beq_eq_true hb⟩
    | false => rw [hb] at h; exact ih htt.2 h
structure TFacts (P : Program) (t : TI B) : Prop where
  size : tySize P t.id = some t.size
  bytes : tyBytes P t.id = some t.bytes
  agg : tyAgg P t.id = some t.agg
  td : tdOk P t.id t.td = true
  zero : ∃ z, tyZero P t.id = some z ∧ celsAre t.zc z.cells.toList = true ∧ t.zc.length = t.size
  zag : ∀ z, tyZero P t.id = some z → zagg t.agg z = true
theorem tiOk_facts {t : TI B} (h : tiOk P t = true) : TFacts P t := by
  simp only [tiOk, Bool.and_eq_true, decide_eq_true_eq] at h
  obtain ⟨⟨⟨⟨h1, h2⟩, h3⟩, h4⟩, h5⟩ := h
  split at h5
  · rename_i z hz
    simp only [Bool.and_eq_true] at h5
    exact ⟨h1, h2, h3, h4, ⟨z, hz, h5.1.1, Nat.eq_of_beq_eq_true h5.1.2⟩, fun z' hz' => by rw [hz] at hz'; injection hz' with hz'; rw [← hz']; exact h5.2⟩
  · cases h5
variable {f : HP} {σ : Rz B}
theorem celIs_rel {c : Cel B} {v : Value} (h : celIs c v = true) : CRel f σ c v ∧ isUnd c = false := by
  unfold celIs at h
  split at h
  · simp only [Bool.and_eq_true, decide_eq_true_eq] at h; obtain ⟨rfl, rfl⟩ := h; exact ⟨rfl, rfl⟩
  · simp only [beq_iff_eq] at h; subst h; exact ⟨rfl, rfl⟩
  · simp only [decide_eq_true_eq] at h; subst h; exact ⟨rfl, rfl⟩
  · exact ⟨rfl, rfl⟩
  · exact ⟨rfl, rfl⟩
  · exact ⟨rfl, rfl⟩
  · exact ⟨rfl, rfl⟩
  · cases h
theorem celsAre_rel : ∀ {cs : List (Cel B)} {vs : List Value}, celsAre cs vs = true → CRels f σ cs vs ∧ noUnd cs = true
  | [], [], _ => ⟨trivial, rfl⟩
  | c :: cs, v :: vs, h => by
    simp only [celsAre, Bool.and_eq_true] at h
    obtain ⟨h1, h2⟩ := celIs_rel (f := f) (σ := σ) h.1
    obtain ⟨h3, h4⟩ := celsAre_rel h.2
    exact ⟨⟨h1, h3⟩, by simp [noUnd, h2, h4]⟩
  | [], _ :: _, h => by cases h
  | _ :: _, [], h => by cases h
structure ElFacts (P : Program) (t e : TypeId) (u : Ty) (te : TI B) : Prop where
  elem : tyElem P t = some e
  size : tySize P e = some (relB B u).n
  bytes : tyBytes P e = some te.bytes
  zero : ∃ z, tyZero P e = some z ∧ celsAre te.zc z.cells.toList = true ∧ z.cells.size = (relB B u).n
  pos : 0 < (relB B u).n
  tsize : te.size = (relB B u).n
theorem elTy_ok (htt : ttOk P tt = true) {t : Nat} {te : TI B} {u : Ty} (h : elTy tt t = some (te, u)) : ∃ e, ElFacts P t e u te := by
  unfold elTy at h
  split at h <;> try contradiction
  rename_i ti hti
  split at h <;> try contradiction
  rename_i e u' htd
  split at h <;> try contradiction
  rename_i te' hte
  split at h <;> try contradiction
  rename_i hb
  injection h with h
  injection h with h1 h2
  subst h1 h2
  simp only [Bool.and_eq_true, Nat.blt_eq] at hb
  obtain ⟨k1, rfl⟩ := tfind_ok htt hti
  obtain ⟨k2, rfl⟩ := tfind_ok htt hte
  have f1 := tiOk_facts k1
  have f2 := tiOk_facts k2
  have hd := f1.td
  rw [htd] at hd
  have hsz := Nat.eq_of_beq_eq_true hb.1
  obtain ⟨z, z1, z2, z3⟩ := f2.zero
  refine ⟨te'.id, by simpa [tdOk] using hd, by rw [f2.size, hsz], f2.bytes, ⟨z, z1, z2, ?_⟩, by omega, hsz⟩
  have := (celsAre_rel (f := fun _ => none) (σ := fun _ => none) z2).1.len
  simp only [Array.length_toList] at this
  omega
theorem ElFacts.ap {t e : TypeId} {u : Ty} {te : TI B} (h : ElFacts P t e u te) : ApTy P t e (relB B u).n te.bytes :=
  ⟨h.elem, h.size, h.bytes, let ⟨z, h1, _, h3⟩ := h.zero; ⟨z, h1, h3⟩, h.pos⟩
theorem isSl_ok (htt : ttOk P tt = true) {t : Nat} (h : isSl tt t = true) : ∃ e, tyElem P t = some e := by
  unfold isSl at h
  split at h <;> try contradiction
  rename_i ti hti
  obtain ⟨k1, rfl⟩ := tfind_ok htt hti
  have hd := (tiOk_facts k1).td
  split at h <;> try contradiction
  rename_i e u htd
  rw [htd] at hd
  exact ⟨e, by simpa [tdOk] using hd⟩
theorem isI_ok (htt : ttOk P tt = true) {t : Nat} (h : isI tt t = true) : ∃ k, P.underlying t = some (.int k) := by
  unfold isI at h
  split at h <;> try contradiction
  rename_i ti hti
  obtain ⟨k1, rfl⟩ := tfind_ok htt hti
  have hd := (tiOk_facts k1).td
  split at h <;> try contradiction
  rename_i k htd
  rw [htd] at hd
  simp only [tdOk] at hd
  split at hd <;> try contradiction
  rename_i k' he
  exact ⟨k', he⟩
theorem isPt_ok (htt : ttOk P tt = true) {t : Nat} (h : isPt tt t = true) : ∃ e, P.underlying t = some (.pointer e) := by
  unfold isPt at h
  split at h <;> try contradiction
  rename_i ti hti
  obtain ⟨k1, rfl⟩ := tfind_ok htt hti
  have hd := (tiOk_facts k1).td
  split at h <;> try contradiction
  rename_i htd
  rw [htd] at hd
  simp only [tdOk] at hd
  split at hd <;> try contradiction
  rename_i e he
  exact ⟨e, he⟩
theorem isStr_ok (htt : ttOk P tt = true) {t : Nat} (h : isStr tt t = true) : P.underlying t = some .string := by
  unfold isStr at h
  split at h <;> try contradiction
  rename_i ti hti
  obtain ⟨k1, rfl⟩ := tfind_ok htt hti
  have hd := (tiOk_facts k1).td
  split at h <;> try contradiction
  rename_i htd
  rw [htd] at hd
  simp only [tdOk] at hd
  split at hd <;> first | assumption | cases hd
theorem isBool_ok (htt : ttOk P tt = true) {t : Nat} (h : isBool tt t = true) : P.underlying t = some .bool := by
  unfold isBool at h
  split at h <;> try contradiction
  rename_i ti hti
  obtain ⟨k1, rfl⟩ := tfind_ok htt hti
  have hd := (tiOk_facts k1).td
  split at h <;> try contradiction
  rename_i htd
  rw [htd] at hd
  simp only [tdOk] at hd
  split at hd <;> first | assumption | cases hd
end
def Does (P : Program) (o : Oper) (ρ : Env) (w : World) (K : Option Value → World → Prop) : Prop :=
  (∃ v w', (execOp (ev ρ) o).run P w = .ok (.value v) w' ∧ K (some v) w') ∨ (∃ w', (execOp (ev ρ) o).run P w = .ok .skip w' ∧ K none w') ∨
    ∃ fn args w' R, (execOp (ev ρ) o).run P w = .ok (.enter fn args) w' ∧ Calls P fn args w' (Returns R) ∧ ∀ v w'', R v w'' → K (some v) w''
def Nx (N : Nat → Prop) (base : Nat) : Nat → Prop := fun j => N j ∨ (base ≤ j ∧ j < base + stepW)
section
variable {B : Tab} {P : Program} {tt : List (TI B)} {M : Loc → Option (Con B)} {G w : World} {L0 : List HProp} {f0 f : HP} {σ0 σ : Rz B} {E : List (Nat × EH)} {N : Nat → Prop} {ρ : Env}
variable {base : Nat} {dst : Option Tmp} {ty : TypeId} {pos : String} {after : Array Edge} {guard : Option (Nat × Bool)} {out : Out B} {rs : List Loc}
def VO (f : HP) (σ : Rz B) : Option (DV B) → Option Value → Prop
  | some d, some v => DRel f σ d v
  | none, none => True
  | _, _ => False
def Goal (G : World) (L0 : List HProp) (f0 : HP) (σ0 : Rz B) (M : Loc → Option (Con B)) (E : List (Nat × EH)) (N : Nat → Prop) (base : Nat) (f : HP) (σ : Rz B) (ρ : Env) (out : Out B) : Option Value → World → Prop :=
  fun v w' => ∃ f' σ', HP.le f f' ∧ Rz.le σ σ' ∧ SimF G L0 f0 σ0 (ovl out.up M) (delsE (out.add ++ E) out.del) (Nx N base) f' σ' ρ w' ∧ VO f' σ' out.v v
theorem goal_pure (hs : SimF G L0 f0 σ0 M E N f σ ρ w) {d : DV B} {v : Value} (hd : DRel f σ d v) : Goal G L0 f0 σ0 M E N base f σ ρ ⟨some d, [], [], []⟩ (some v) w :=
  ⟨f, σ, HP.le_refl _, Rz.le_refl _, hs.same fun i h => .inl h, hd⟩
theorem does_pure (hs : SimF G L0 f0 σ0 M E N f σ ρ w) {o : Oper} {d : DV B} {v : Value} (hr : (execOp (ev ρ) o).run P w = .ok (.value v) w) (hd : DRel f σ d v) :
    Does P o ρ w (Goal G L0 f0 σ0 M E N base f σ ρ ⟨some d, [], [], []⟩) := .inl ⟨v, w, hr, goal_pure hs hd⟩
theorem asI_rel {c : Cel B} {k : IntKind} {n : Int} {v : Value} (h : asI c = some (k, n)) (hc : CRel f σ c v) : v = .int k n := by
  cases c <;> simp only [asI, Option.some.injEq, Prod.mk.injEq] at h <;> try contradiction
  · obtain ⟨rfl, rfl⟩ := h; exact hc
  · obtain ⟨rfl, rfl⟩ := h; exact hc.1
theorem binI_does (hs : SimF G L0 f0 σ0 M E N f σ ρ w) {op : BinOp} {t u : TypeId} {x y : Operand} {k k' : IntKind} {a b : Int} (hx : ev ρ x = .int k a) (hy : ev ρ y = .int k' b) (h : (binI (B := B) op k k' a b).Ran M out rs) :
    Does P ⟨dst, .binOp op t x y u, ty, pos, after, guard⟩ ρ w (Goal G L0 f0 σ0 M E N base f σ ρ out) := by
  cases op
  case shl =>
    obtain ⟨q, hq, h⟩ := bind_ran h
    obtain rfl := ret_ran h
    unfold gshl at hq
    split at hq <;> try contradiction
    rename_i hb
    injection hq with hq; subst hq
    exact does_pure hs (run_shl (min b.toNat k.bits) b.toNat hx hy (by omega) rfl rfl) rfl
  case shr =>
    obtain ⟨q, hq, h⟩ := bind_ran h
    obtain rfl := ret_ran h
    unfold gshr at hq
    split at hq <;> try contradiction
    rename_i hb
    injection hq with hq; subst hq
    exact does_pure hs (run_shr (min b.toNat k.bits) b.toNat hx hy (by omega) rfl rfl) rfl
  all_goals
    obtain ⟨hk, h2⟩ := chk_ran h
    clear h
    have h := h2
    clear h2
    replace hk := of_decide_eq_true hk
    cases hk
  case quo =>
    obtain ⟨q, hq, h⟩ := bind_ran h
    obtain rfl := ret_ran h
    unfold gquoK at hq
    split at hq <;> try contradiction
    rename_i hb
    injection hq with hq; subst hq
    exact does_pure hs (run_quo hx hy hb) rfl
  case rem =>
    obtain ⟨q, hq, h⟩ := bind_ran h
    obtain rfl := ret_ran h
    unfold gremK at hq
    split at hq <;> try contradiction
    rename_i hb
    injection hq with hq; subst hq
    exact does_pure hs (run_rem hx hy hb) rfl
  all_goals
    first
    | exact h.elim
    | (obtain rfl := ret_ran h
       exact does_pure hs (run_pev (by simp only [pev, hx, hy, if_true, ibin, iand, ior, ixor])) (rfl : _ = _))
theorem nilOf_ran (hs : SimF G L0 f0 σ0 M E N f σ ρ w) {c : Cel B} {v : Value} {ρr : Type} {k : Bool → RM B ρr} {o : ρr} (hc : CRel f σ c v) (h : (nilOf c k).Ran M o rs) :
    ∃ b A n m rs', v = .slice A n m ∧ A.isNone = b ∧ (k b).Ran M o rs' := by
  cases c with
  | nils => exact ⟨true, none, 0, 0, rs, hc, rfl, h⟩
  | nsl e x =>
    cases x with
    | none =>
      obtain ⟨c, e1, _⟩ := hc
      simp only [List.cons.injEq, and_true] at e1
      exact ⟨true, none, 0, c, rs, e1, rfl, h⟩
    | some xs =>
      obtain ⟨a, n, c, e1, _⟩ := hc
      simp only [List.cons.injEq, and_true] at e1
      exact ⟨false, some a, n, c, rs, e1, rfl, h⟩
  | ob i b => obtain ⟨A, n, c, h1, h2, h3⟩ := hc; exact ⟨b, A, n, c, rs, h2, h3, h⟩
  | own i =>
    obtain ⟨rs', h⟩ := read_ran h
    cases hM : M (.a i) with
    | none => rw [hM] at h; exact h.elim
    | some q =>
      rw [hM] at h
      cases q <;> try exact h.elim
      case arr e xs s nn =>
        obtain ⟨hnn, h⟩ := chk_ran h
        obtain ⟨E1, L1, ho, hm, he, hw⟩ := hs.ents
        obtain ⟨A, L2, hr, _⟩ := Ents.take (P := []) ho ((hm _).2 (hs.arrs i e xs s nn hM)) he hw
        obtain ⟨H, n, c, cur, xs', s', nn', h1, h2, h3, h4, h5, h6, h7⟩ := hr
        rw [hM] at h3
        injection h3 with h3
        injection h3 with _ _ _ e4
        subst e4
        obtain ⟨H', n', c', k1, rfl⟩ := hc
        rw [h1] at k1
        injection k1 with k1
        injection k1 with a1 a2 a3
        subst a1 a2 a3
        have := h6 (Nat.le_of_ble_eq_true hnn)
        exact ⟨false, H, n, c, _, rfl, by cases H <;> simp at this ⊢, h⟩
      case grid e rows s k hole nn =>
        obtain ⟨hnn, h⟩ := chk_ran h
        obtain ⟨E1, L1, ho, hm, he, hw⟩ := hs.ents
        obtain ⟨A, L2, hr, _⟩ := Ents.take (P := []) ho ((hm _).2 (hs.grds i e rows s k hole nn hM)) he hw
        obtain ⟨H, n, c, cur, l, rl, rows', s', k', hole', nn', h1, h2, h3, h4, h5, h6', h6⟩ := hr
        rw [hM] at h3
        injection h3 with h3
        injection h3 with _ _ _ _ _ e4
        subst e4
        obtain ⟨H', n', c', k1, rfl⟩ := hc
        rw [h1] at k1
        injection k1 with k1
        injection k1 with a1 a2 a3
        subst a1 a2 a3
        have := h6 (Nat.le_of_ble_eq_true hnn)
        exact ⟨false, H, n, c, _, rfl, by cases H <;> simp at this ⊢, h⟩
  | _ => exact h.elim
theorem isNil_rel {c : Cel B} {v : Value} (h : isNil c = true) (hc : CRel f σ c v) : v = .slice none 0 0 := by
  cases c <;> simp only [isNil] at h <;> first | exact hc | cases h
theorem sl8_eq (s : ByteArray) : s.toList = sl8 s := Go.ByteArray.toList_eq s
theorem run_bin {op : BinOp} {t u : TypeId} {x y : Operand} {a b v : Value} (hx : ev ρ x = a) (hy : ev ρ y = b) (hg : (eqGuard op t x y a b).run P w = .ok () w) (h : (binOp op t a b).run P w = .ok v w) :
    (execOp (ev ρ) ⟨dst, .binOp op t x y u, ty, pos, after, guard⟩).run P w = .ok (.value v) w := by
  simp [execOp, hx, hy, hg, h, go_sem]
theorem celEq_ok {k : KT} {c d : Cel B} {v v' : Value} {b : Bool} (h : celEq k c d = some b) (hc : CRel f σ c v) (hd : CRel f σ d v') : KV k v ∧ KV k v' ∧ vEq v v' = b := by
  cases k with
  | int k =>
    simp only [celEq] at h
    split at h <;> try contradiction
    rename_i k1 a k2 b' e1 e2
    split at h <;> try contradiction
    rename_i hk
    simp only [Bool.and_eq_true, decide_eq_true_eq] at hk
    obtain ⟨rfl, rfl⟩ := hk
    injection h with h
    have h1 := asI_rel e1 hc
    have h2 := asI_rel e2 hd
    subst h1 h2
    exact ⟨⟨_, rfl⟩, ⟨_, rfl⟩, h⟩
  | bool =>
    cases c <;> cases d <;> simp only [celEq, Option.some.injEq] at h <;> try contradiction
    subst h
    have h1 : v = .bool _ := hc
    have h2 : v' = .bool _ := hd
    subst h1 h2
    exact ⟨⟨_, rfl⟩, ⟨_, rfl⟩, rfl⟩
  | str =>
    cases c <;> cases d <;> simp only [celEq, Option.some.injEq] at h <;> try contradiction
    subst h
    have h1 : v = .string _ := hc
    have h2 : v' = .string _ := hd
    subst h1 h2
    exact ⟨⟨_, rfl⟩, ⟨_, rfl⟩, rfl⟩
theorem celsEq_ok : ∀ {ks : List KT} {cs ds : List (Cel B)} {us us' : List Value} {b : Bool}, celsEq ks cs ds = some b → CRels f σ cs us → CRels f σ ds us' → KVs ks us ∧ KVs ks us' ∧ vsEq us us' = b
  | [], [], [], [], [], b, h, _, _ => by simp only [celsEq, Option.some.injEq] at h; subst h; exact ⟨trivial, trivial, rfl⟩
  | k :: ks, c :: cs, d :: ds, u :: us, u' :: us', b, h, ⟨h1, h2⟩, ⟨h3, h4⟩ => by
    simp only [celsEq] at h
    split at h <;> try contradiction
    rename_i p q e1 e2
    injection h with h
    obtain ⟨a1, a2, a3⟩ := celEq_ok e1 h1 h3
    obtain ⟨b1, b2, b3⟩ := celsEq_ok e2 h2 h4
    refine ⟨⟨a1, b1⟩, ⟨a2, b2⟩, ?_⟩
    show (vEq u u' && vsEq us us') = b
    rw [a3, b3, h]
  | [], _ :: _, _, _, _, _, h, _, _ => by cases h
  | [], [], _ :: _, _, _, _, h, _, _ => by cases h
  | _ :: _, [], _, _, _, _, h, _, _ => by cases h
  | _ :: _, _ :: _, [], _, _, _, h, _, _ => by cases h
  | _, _ :: _, _, [], _, _, _, h, _ => h.elim
  | _, _, _ :: _, _, [], _, _, _, h => h.elim
  | _, [], _, _ :: _, _, _, _, h, _ => h.elim
  | _, _, [], _, _ :: _, _, _, _, h => h.elim
theorem binS_does (htt : ttOk P tt = true) (hs : SimF G L0 f0 σ0 M E N f σ ρ w) {op : BinOp} {t u : TypeId} {x y : Operand} {xs ys : List (Cel B)} (hx : DRel f σ (.agg xs) (ev ρ x)) (hy : DRel f σ (.agg ys) (ev ρ y)) (h : (binS tt t op xs ys).Ran M out rs) :
    Does P ⟨dst, .binOp op t x y u, ty, pos, after, guard⟩ ρ w (Goal G L0 f0 σ0 M E N base f σ ρ out) := by
  unfold binS at h
  cases hti : tfind tt t with
  | none => rw [hti] at h; exact h.elim
  | some ti =>
    rw [hti] at h
    obtain ⟨k1, rfl⟩ := tfind_ok htt hti
    have htd := (tiOk_facts k1).td
    dsimp only at h
    split at h <;> try exact h.elim
    rename_i fs k q e1
    rw [e1] at htd
    simp only [tdOk, Bool.and_eq_true] at htd
    obtain ⟨b, e2, h2⟩ := opt_ran h
    obtain ⟨us, hv, hu⟩ := hx
    obtain ⟨us', hv', hu'⟩ := hy
    obtain ⟨a1, a2, a3⟩ := celsEq_ok e2 hu hu'
    have he : (Op.equal ti.id (.agg us.toArray) (.agg us'.toArray)).run P w = .ok b w := by rw [← a3]; exact run_eqS 9998 htd.2 a1 a2
    cases op <;> try exact h2.elim
    · obtain rfl := ret_ran h2
      refine does_pure hs (run_bin hv hv' (run_guardS htd.2) (v := .bool b) ?_) rfl
      simp [binOp, he, go_sem]
    · obtain rfl := ret_ran h2
      refine does_pure hs (run_bin hv hv' (run_guardS htd.2) (v := .bool (!b)) ?_) rfl
      simp [binOp, he, go_sem]
theorem strBin_does (hs : SimF G L0 f0 σ0 M E N f σ ρ w) {op : BinOp} {t u : TypeId} {x y : Operand} {a b : ByteArray} (hx : ev ρ x = .string a) (hy : ev ρ y = .string b) (h : (strBin (B := B) op a b).Ran M out rs) :
    Does P ⟨dst, .binOp op t x y u, ty, pos, after, guard⟩ ρ w (Goal G L0 f0 σ0 M E N base f σ ρ out) := by
  have hg : ∀ op, (eqGuard op t x y (.string a) (.string b)).run P w = .ok () w := fun op => by cases op <;> simp [eqGuard, go_sem]
  have hb : ∀ op v, (op = .eql ∨ op = .neq ∨ op = .lss ∨ op = .leq ∨ op = .gtr ∨ op = .geq ∨ op = .add) → (Op.stringOp op a b).run P w = .ok v w → (binOp op t (.string a) (.string b)).run P w = .ok v w := fun op v ho hv => by
    rcases ho with rfl | rfl | rfl | rfl | rfl | rfl | rfl <;> simpa [binOp] using hv
  cases op <;> try exact h.elim
  case add =>
    obtain ⟨q, hq, h⟩ := bind_ran h
    obtain rfl := ret_ran h
    unfold scat at hq
    split at hq <;> try contradiction
    rename_i hle
    injection hq with hq
    subst hq
    exact does_pure hs (run_bin hx hy (hg _) (hb _ _ (by simp) (run_string_add_sum w a b hle))) rfl
  all_goals
    obtain rfl := ret_ran h
    refine does_pure hs (run_bin hx hy (hg _) (hb _ _ (by simp) ?_)) (rfl : _ = _)
    simp [Op.stringOp, seq, slt, sl8_eq, go_sem]
theorem nilP_ok {c : Cel B} {v : Value} {b : Bool} (h : nilP c = some b) (hc : CRel f σ c v) : ∃ p, v = .pointer p ∧ p.isNone = b := by
  cases c <;> simp only [nilP] at h <;> first | cases h | skip
  case nilp => exact ⟨none, hc, rfl⟩
  case opt e x =>
    cases x with
    | none => cases hc; exact ⟨none, rfl, rfl⟩
    | some x => obtain ⟨b, ds, ty, fr, e1, _⟩ := hc; cases e1; exact ⟨some _, rfl, rfl⟩
  case ap e x =>
    cases x with
    | none => cases hc; exact ⟨none, rfl, rfl⟩
    | some x => obtain ⟨b, o, e1, _⟩ := hc; cases e1; exact ⟨some _, rfl, rfl⟩
  case ptr i off => obtain ⟨b, _, rfl⟩ := hc; exact ⟨some _, rfl, rfl⟩
  case fpt e x => obtain ⟨b, ds, ty, fr, rfl, _⟩ := hc; exact ⟨some _, rfl, rfl⟩
theorem run_ptCmp {t e u : TypeId} {x y : Operand} {A C : Option Addr} {op : BinOp} {b : Bool} (neg : Bool) (hop : cond neg .neq .eql = op) (ht : P.underlying t = some (.pointer e)) (hx : ev ρ x = .pointer A) (hy : ev ρ y = .pointer C) (hnil : A = none ∨ C = none) (hb : ((A.isNone && C.isNone) ^^ neg) = b) :
    (execOp (ev ρ) ⟨dst, .binOp op t x y u, ty, pos, after, guard⟩).run P w = .ok (.value (.bool b)) w := by
  subst hb
  subst hop
  have he : (Op.equal t (.pointer A) (.pointer C)).run P w = .ok (A.isNone && C.isNone) w := by
    have h1 : Op.equal t (.pointer A) (.pointer C) = Op.equalIn (9999 + 1) t (.pointer A) (.pointer C) := rfl
    rw [h1]
    generalize 9999 = d
    rcases hnil with rfl | rfl
    · cases C <;> simp [Op.equalIn, underlying, ht, go_sem]
    · cases A <;> simp [Op.equalIn, underlying, ht, go_sem]
  cases neg <;> simp [execOp, hx, hy, binOp, eqGuard, he, go_sem]
theorem binP_does (htt : ttOk P tt = true) (hs : SimF G L0 f0 σ0 M E N f σ ρ w) {op : BinOp} {t u : TypeId} {x y : Operand} {c : Cel B} (hx : (CRel f σ c (ev ρ x) ∧ ev ρ y = .pointer none) ∨ (CRel f σ c (ev ρ y) ∧ ev ρ x = .pointer none)) (h : (binP tt t op c).Ran M out rs) :
    Does P ⟨dst, .binOp op t x y u, ty, pos, after, guard⟩ ρ w (Goal G L0 f0 σ0 M E N base f σ ρ out) := by
  unfold binP at h
  obtain ⟨hb, h⟩ := chk_ran h
  obtain ⟨e, he⟩ := isPt_ok htt hb
  obtain ⟨b, hb, h⟩ := bind_ran h
  rcases hx with ⟨hx, hy⟩ | ⟨hx, hy⟩
  · obtain ⟨p, h1, h2⟩ := nilP_ok hb hx
    cases op <;> try exact h.elim
    · obtain rfl := ret_ran h
      exact does_pure hs (run_ptCmp false rfl he h1 hy (.inr rfl) rfl) (by simp [DRel, CRel, h2])
    · obtain rfl := ret_ran h
      exact does_pure hs (run_ptCmp true rfl he h1 hy (.inr rfl) rfl) (by simp [DRel, CRel, h2])
  · obtain ⟨p, h1, h2⟩ := nilP_ok hb hx
    cases op <;> try exact h.elim
    · obtain rfl := ret_ran h
      exact does_pure hs (run_ptCmp false rfl he hy h1 (.inl rfl) rfl) (by simp [DRel, CRel, h2])
    · obtain rfl := ret_ran h
      exact does_pure hs (run_ptCmp true rfl he hy h1 (.inl rfl) rfl) (by simp [DRel, CRel, h2])
theorem binC_does (htt : ttOk P tt = true) (hs : SimF G L0 f0 σ0 M E N f σ ρ w) {op : BinOp} {t u : TypeId} {x y : Operand} {cx cy : Cel B} (hx : CRel f σ cx (ev ρ x)) (hy : CRel f σ cy (ev ρ y)) (h : (binC tt t op cx cy).Ran M out rs) :
    Does P ⟨dst, .binOp op t x y u, ty, pos, after, guard⟩ ρ w (Goal G L0 f0 σ0 M E N base f σ ρ out) := by
  unfold binC at h
  split at h
  · rename_i k a k' b e1 e2
    exact binI_does hs (asI_rel e1 hx) (asI_rel e2 hy) h
  · split at h
    · rename_i a b
      obtain ⟨hb, h⟩ := chk_ran h
      have ht := isBool_ok htt hb
      cases op <;> try exact h.elim
      · obtain rfl := ret_ran h
        exact does_pure hs (run_boolEq ht hx hy) rfl
      · obtain rfl := ret_ran h
        exact does_pure hs (run_boolNe ht hx hy) rfl
    · exact strBin_does hs hx hy h
    · exact binP_does htt hs (.inl ⟨hx, hy⟩) h
    · exact binP_does htt hs (.inr ⟨hy, hx⟩) h
    · obtain ⟨hb, h⟩ := chk_ran h
      obtain ⟨e, he⟩ := isSl_ok htt hb
      cases e1 : isNil cy with
      | true =>
        rw [e1] at h
        have hy' := isNil_rel e1 hy
        cases op <;> try exact h.elim
        · obtain ⟨b, A, n, m, rs', h1, h2, h⟩ := nilOf_ran hs hx h
          obtain rfl := ret_ran h
          exact does_pure hs (run_slCmp false rfl he h1 hy' (.inr rfl) rfl) (by simp [DRel, CRel, h2])
        · obtain ⟨b, A, n, m, rs', h1, h2, h⟩ := nilOf_ran hs hx h
          obtain rfl := ret_ran h
          exact does_pure hs (run_slCmp true rfl he h1 hy' (.inr rfl) rfl) (by simp [DRel, CRel, h2])
      | false =>
        rw [e1] at h
        cases e2 : isNil cx with
        | true =>
          rw [e2] at h
          have hx' := isNil_rel e2 hx
          cases op <;> try exact h.elim
          · obtain ⟨b, A, n, m, rs', h1, h2, h⟩ := nilOf_ran hs hy h
            obtain rfl := ret_ran h
            exact does_pure hs (run_slCmp false rfl he hx' h1 (.inl rfl) rfl) (by simp [DRel, CRel, h2])
          · obtain ⟨b, A, n, m, rs', h1, h2, h⟩ := nilOf_ran hs hy h
            obtain rfl := ret_ran h
            exact does_pure hs (run_slCmp true rfl he hx' h1 (.inl rfl) rfl) (by simp [DRel, CRel, h2])
        | false => rw [e2] at h; exact h.elim
end
end Hd
