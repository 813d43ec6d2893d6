/- Functions that hand out what they have, one after the other: from their code. -/
import Derived.Test.YtoamdmkakblnnaaDoorD8
set_option linter.unusedVariables false
set_option linter.unusedSimpArgs false
namespace Hd
open Go Hk
def flat : Code → List Code
  | .seq a b => flat a ++ flat b
  | c => [c]
def EW [Rd] (P : Program) (n : Nat) : List Code → (List Nat → Env → World → Prop) → EPost → List Nat → Env → World → Prop
  | [], K, _, Ds, ρ, w => K Ds ρ w
  | c :: l, K, Q, Ds, ρ, w => EWp P n c (thenE (EW P n l K Q) Q) Ds ρ w
theorem ew_app [Rd] {P : Program} {n : Nat} {K : List Nat → Env → World → Prop} {Q : EPost} : ∀ {a b : List Code}, EW P n (a ++ b) K Q = EW P n a (EW P n b K Q) Q
  | [], b => rfl
  | c :: a, b => by
    funext Ds ρ w
    show EWp P n c (thenE (EW P n (a ++ b) K Q) Q) Ds ρ w = _
    rw [ew_app (a := a)]
    rfl
theorem ewp_flat [Rd] {P : Program} {n : Nat} : ∀ (c : Code) {K : List Nat → Env → World → Prop} {Q : EPost} {Ds : List Nat} {ρ : Env} {w : World}, EW P n (flat c) K Q Ds ρ w → EWp P n c (thenE K Q) Ds ρ w
  | .seq a b, K, Q, Ds, ρ, w, h => by
    have h : EW P n (flat a ++ flat b) K Q Ds ρ w := h
    rw [ew_app] at h
    refine ewp_seq ((ewp_flat a h).mono fun e Ds ρ w hq => ?_)
    cases e <;> first | exact ewp_flat b hq | exact hq
  | .skip, _, _, _, _, _, h => h
  | .exit _, _, _, _, _, _, h => h
  | .ret, _, _, _, _, _, h => h
  | .region .., _, _, _, _, _, h => h
  | .cond .., _, _, _, _, _, h => h
  | .block .., _, _, _, _, _, h => h
  | .loop .., _, _, _, _, _, h => h
  | .rangeFunc .., _, _, _, _, _, h => h
  | .scope .., _, _, _, _, _, h => h
  | .label .., _, _, _, _, _, h => h
  | .goto .., _, _, _, _, _, h => h
  | .refuse .., _, _, _, _, _, h => h
theorem ew_mono [Rd] {P : Program} {n : Nat} {K K' : List Nat → Env → World → Prop} {Q Q' : EPost} (hk : ∀ Ds ρ w, K Ds ρ w → K' Ds ρ w) (hq : ∀ e Ds ρ w, e ≠ .normal → Q e Ds ρ w → Q' e Ds ρ w) :
    ∀ {l : List Code} {Ds : List Nat} {ρ : Env} {w : World}, EW P n l K Q Ds ρ w → EW P n l K' Q' Ds ρ w
  | [], Ds, ρ, w, h => hk Ds ρ w h
  | c :: l, Ds, ρ, w, h => EWp.mono h fun e Ds ρ w h => by
    cases e <;> first | exact ew_mono hk hq (l := l) h | exact hq _ _ _ _ (by simp) h
section
variable {B : Tab} {P : Program} {n : Nat} {G : World} {L0 : List HProp} {f0 : HP} {σ0 : Rz B} {α : Type} {ρ : Env} {w : World}
variable {M M' : Loc → Option (Con B)} {f f' : HP} {σ σ' : Rz B} {E E0 : List (Nat × EH)} {N N' : Nat → Prop}
noncomputable def DL (F : Fn B) (fr : Mem B) {α : Type} : List Code → List Hint → St B → KK B (TplT B F.res) α → Option α
  | [], _, st, K => K.go st
  | c :: l, hs, st, K => D F c (hs.headD .n) fr st ⟨fun s => DL F fr l hs.tail s K, K.ex, K.rt⟩
def lowL (n : Nat) : List Code → Bool
  | [] => true
  | c :: l => match lowC n c with | true => lowL n l | false => false
theorem lowL_app {n : Nat} : ∀ {a b : List Code}, lowL n (a ++ b) = true → lowL n a = true ∧ lowL n b = true
  | [], b, h => ⟨rfl, h⟩
  | c :: a, b, h => by
    obtain ⟨h1, h2⟩ := andC (show (match lowC n c with | true => lowL n (a ++ b) | false => false) = true from h)
    obtain ⟨h3, h4⟩ := lowL_app h2
    refine ⟨?_, h4⟩
    show (match lowC n c with | true => lowL n a | false => false) = true
    rw [h1]
    exact h3
theorem dl_sound {F : Fn B} (hx : Ctx P F σ0) {fr : Mem B} {r : α} {K : KK B (TplT B F.res) α} : ∀ {l : List Code} {hs : List Hint} {st : St B} {Ds : List Nat} {ρ : Env} {w : World}, lowL n l = true → DL F fr l hs st K = some r →
    Tells F G (Mks Ds :: L0) f0 σ0 fr st ρ w → @EW ⟨none⟩ P n l (fun Ds ρ w => CPost P F G L0 f0 σ0 fr K r .normal Ds ρ w) (CPost P F G L0 f0 σ0 fr K r) Ds ρ w
  | [], hs, st, Ds, ρ, w, _, hD, ht => ⟨st, hD, ht⟩
  | c :: l, hs, st, Ds, ρ, w, hl, hD, ht => by
    obtain ⟨h1, h2⟩ := andC (show (match lowC n c with | true => lowL n l | false => false) = true from hl)
    refine @EWp.mono ⟨none⟩ _ _ _ _ _ _ _ _ (d_sound c ⟨none⟩ F G L0 f0 σ0 hx (.inl rfl) h1 _ _ _ _ _ _ _ _ _ hD ht) fun e Ds ρ w hq => ?_
    cases e with
    | normal => obtain ⟨s, g1, g2⟩ := hq; exact dl_sound hx h2 g1 g2
    | ret => exact hq
    | exit i => exact hq
    | goto l => exact hq.elim
    | panic c => exact hq.elim
    | outgrown => exact hq.elim
theorem seqRan_elR [Rd] {tt : List (TI B)} {specs : List (Spec B)} {calls : List (Nat × Nat)} {all : List Oper} {base : Nat} {Ds : List Nat} (htt : ttOk P tt = true) (hS : SpecsOk P specs) {Q : EPost} {rest : List Oper} :
    ∀ {l : List Oper} {i : Nat} {tr : List (TrE B)} {M : Loc → Option (Con B)} {E : List (Nat × EH)} {f : HP} {σ : Rz B} {ρ : Env} {w : World},
    SeqRan tt specs calls all base l i M tr → DstLow n l → SimF G L0 f0 σ0 M E (fun j => j < base + stepW * i) f σ ρ w →
    (∀ f σ ρ w, SimF G L0 f0 σ0 (memSeq tr M) (entSeq tr E) (fun j => j < base + stepW * (i + l.length)) f σ ρ w → EL P n all.toArray Q rest Ds ρ w) → EL P n all.toArray Q (l ++ rest) Ds ρ w
  | [], i, [], M, E, f, σ, ρ, w, _, _, hs, hQ => hQ f σ ρ w hs
  | o :: l, i, e :: tr, M, E, f, σ, ρ, w, ⟨h1, h2⟩, hd, hs, hQ => by
    refine OpDoes.el (fun d hdd => hd o (by simp) d hdd) ((opRan_does htt hS hs (fun j a b => by omega) h1).mono fun ρ' w' hp => ?_)
    obtain ⟨f', σ', hs'⟩ := hp
    refine seqRan_elR htt hS h2 (fun o ho => hd o (by simp [ho])) (hs'.same fun j hj => ?_) fun f σ ρ w hh => hQ f σ ρ w ?_
    · unfold Nx at hj
      have : stepW * (i + 1) = stepW * i + stepW := Nat.mul_succ _ _
      omega
    · rw [show i + (o :: l).length = i + 1 + l.length by simp; omega]; exact hh
  | [], _, _ :: _, _, _, _, _, _, _, h, _, _, _ => h.elim
  | _ :: _, _, [], _, _, _, _, _, _, h, _, _, _ => h.elim
def valC : Cel B → Value
  | .int k n => .int k n
  | .bool b => .bool b
  | .str s => .string s
  | _ => undef
def valV : DV B → Value
  | .one c => valC c
  | .agg cs => .agg (cs.map valC).toArray
  | _ => undef
def scalD : DV B → Bool
  | .one c => scalC [c]
  | .agg cs => scalC cs
  | _ => false
def enc : (l : List VSh) → HL B.T (vshC l) → List Value
  | [], _ => []
  | v :: l, x => valV (unV (fun e => e) v (HL.fst v.comps (vshC l) x)) :: enc l (HL.snd v.comps (vshC l) x)
def scalEl : (l : List VSh) → HL B.T (vshC l) → Bool
  | [], _ => true
  | v :: l, x => match scalD (unV (fun e => e) v (HL.fst v.comps (vshC l) x)) with | true => scalEl l (HL.snd v.comps (vshC l) x) | false => false
theorem valC_rel : ∀ {cs : List (Cel B)}, scalC cs = true → CRels f σ cs (cs.map valC) ∧ ∀ {f' : HP} {σ' : Rz B} {vs : List Value}, CRels f' σ' cs vs → vs = cs.map valC
  | [], _ => ⟨trivial, fun {_ _ vs} h => by cases vs; rfl; exact h.elim⟩
  | c :: cs, h => by
    cases c <;> simp only [scalC] at h <;> try (cases h; done)
    all_goals
      obtain ⟨h1, h2⟩ := valC_rel h
      refine ⟨⟨rfl, h1⟩, fun {f' σ' vs} hv => ?_⟩
      cases vs with
      | nil => exact hv.elim
      | cons v vs =>
        obtain ⟨g1, g2⟩ := hv
        have g1 : v = _ := g1
        rw [g1, h2 g2]
        rfl
theorem valV_rel {d : DV B} (h : scalD d = true) : DRel f σ d (valV d) ∧ ∀ {f' : HP} {σ' : Rz B} {v : Value}, DRel f' σ' d v → v = valV d := by
  cases d with
  | one c =>
    obtain ⟨h1, h2⟩ := valC_rel (f := f) (σ := σ) (show scalC [c] = true from h)
    exact ⟨h1.1, fun {f' σ' v} hv => by have h3 : v = valC c := (by simpa using h2 (vs := [v]) ⟨hv, trivial⟩); exact h3⟩
  | agg cs =>
    obtain ⟨h1, h2⟩ := valC_rel (f := f) (σ := σ) (show scalC cs = true from h)
    exact ⟨⟨_, rfl, h1⟩, fun {f' σ' v} hv => by obtain ⟨vs, rfl, hv⟩ := hv; rw [h2 hv]; rfl⟩
  | tup l => cases h
  | lst e xs => cases h
  | pas => cases h
theorem enc_vals : ∀ {l : List VSh} {x : HL B.T (vshC l)}, scalEl l x = true → DVals f σ l x (enc l x)
  | [], _, _ => trivial
  | v :: l, x, h => by
    obtain ⟨h1, h2⟩ := andC (show (match scalD (unV (fun e => e) v (HL.fst v.comps (vshC l) x)) with | true => scalEl l (HL.snd v.comps (vshC l) x) | false => false) = true from h)
    exact ⟨(valV_rel h1).1, enc_vals h2⟩
def elR {ρ : Type} (base : Nat) : (l : List VSh) → List (DV B) → (HL B.T (vshC l) → RM B ρ) → RM B ρ
  | [], [], k => k ()
  | v :: l, d :: ds, k => mV 0 base ⟨[], [], [], base, []⟩ v d fun p _ => elR base l ds fun q => k (HL.app v.comps (vshC l) p q)
  | _, _, _ => .fail
theorem elR_ran {ρr : Type} {o : ρr} {base : Nat} (hs : SimF G L0 f0 σ0 M E N f σ ρ w) : ∀ {l : List VSh} {ds : List (DV B)} {vs : List Value} {k : HL B.T (vshC l) → RM B ρr} {rs : List Loc}, DRels f σ ds vs → (elR base l ds k).Ran M o rs →
    ∃ x rs', (k x).Ran M o rs' ∧ (scalEl l x = true → vs = enc l x)
  | [], [], [], k, rs, _, h => ⟨(), rs, h, fun _ => rfl⟩
  | v :: l, d :: ds, u :: us, k, rs, ⟨h1, h2⟩, h => by
    have st : Stage G L0 f0 σ0 M E N base f σ ρ w ⟨[], [], [], base, []⟩ := ⟨simO_nil (hs.same fun i h => .inl h), fun e e' j h => (by cases h), Nat.le_refl _, fun i h => (by simp at h), fun e j h => (by cases h)⟩
    obtain ⟨p, ov', f', σ', rs', s1, x1, g1, g2⟩ := mV_stage (fun j a b => by omega) st h1 h
    obtain ⟨q, rs2, g3, g4⟩ := elR_ran hs h2 g1
    refine ⟨_, rs2, g3, fun hsc => ?_⟩
    obtain ⟨e1, e2⟩ := andC (show (match scalD (unV (fun e => e) v (HL.fst v.comps (vshC l) (HL.app v.comps (vshC l) p q))) with | true => scalEl l (HL.snd v.comps (vshC l) (HL.app v.comps (vshC l) p q)) | false => false) = true from hsc)
    rw [HL.fst_app] at e1
    rw [HL.snd_app] at e2
    show u :: us = valV (unV (fun e => e) v (HL.fst v.comps (vshC l) (HL.app v.comps (vshC l) p q))) :: enc l (HL.snd v.comps (vshC l) (HL.app v.comps (vshC l) p q))
    rw [HL.fst_app, HL.snd_app, g4 e2, (valV_rel (f := f) (σ := σ) e1).2 g2]
  | [], [], _ :: _, _, _, h, _ => h.elim
  | [], _ :: _, _, _, _, _, h => h.elim
  | _ :: _, [], _, _, _, _, h => h.elim
  | _ :: _, _ :: _, [], _, _, h, _ => h.elim
end
end Hd
set_option linter.unusedVariables false
set_option linter.unusedSimpArgs false
namespace Hd
open Go Hk
structure ItC where
  pre : List Code
  b0 : Nat
  lc : Code
  head : List Code
  b1 : Nat
  bc : Code
  mid : List Code
  ry : Nat
  ops : Array Oper
  l1 : List Oper
  y : Oper
  l2 : List Oper
  tail : List Code
  step : List Code
def itc (np nh nm j : Nat) (c : Code) : Option ItC :=
  match (flat c).drop np with
  | [.block b0 (.loop lc)] => match (flat lc).drop nh with
    | .block b1 bc :: step => match (flat bc).drop nm with
      | .region ry ops false :: tail => match ops.toList.drop j with
        | y :: l2 => some ⟨(flat c).take np, b0, lc, (flat lc).take nh, b1, bc, (flat bc).take nm, ry, ops, ops.toList.take j, y, l2, tail, step⟩
        | [] => none
      | _ => none
    | _ => none
  | _ => none
theorem itc_spec {np nh nm j : Nat} {c : Code} {C : ItC} (h : itc np nh nm j c = some C) :
    flat c = C.pre ++ [.block C.b0 (.loop C.lc)] ∧ flat C.lc = C.head ++ .block C.b1 C.bc :: C.step ∧ flat C.bc = C.mid ++ .region C.ry C.ops false :: C.tail ∧ C.ops.toList = C.l1 ++ C.y :: C.l2 := by
  unfold itc at h
  split at h <;> try contradiction
  rename_i b0 lc h1
  split at h <;> try contradiction
  rename_i b1 bc step h2
  split at h <;> try contradiction
  rename_i ry ops tail h3
  split at h <;> try contradiction
  rename_i y l2 h4
  injection h with h
  subst h
  exact ⟨by rw [← h1, List.take_append_drop], by rw [← h2, List.take_append_drop], by rw [← h3, List.take_append_drop], by rw [← h4, List.take_append_drop]⟩
section
variable {B : Tab} {P : Program}
def yProg {ρ : Type} (y : Oper) (base : Nat) (l : Nat) (el : List VSh) (k : HL B.T (vshC el) → RM B ρ) : RM B ρ :=
  match y.op with
  | .call c => match c.callee with
    | .value x => opd1 x fun
      | .yl l' => RM.chk (Nat.beq l' l) (opds c.args.toList fun ds => elR base el ds k)
      | _ => .fail
    | _ => .fail
  | _ => .fail
def shiftS : Mem B → Mem B
  | [] => []
  | (.s k, c) :: r => (.s (k + 1), c) :: shiftS r
  | x :: r => x :: shiftS r
def itA (i : Nat) (m : Mem B) : Mem B := (.s 0, .v (.one (.yl i))) :: shiftS m
structure ItH where
  hp : List Hint
  hh : List Hint
  hm : List Hint
  ht : List Hint
  hst : List Hint
  cs : List (Nat × Nat)
noncomputable def DYr (F : Fn B) (C : ItC) (H : ItH) (l : Nat) (el : List VSh) (fr : Mem B) (n0 : Nat) (E1 : List (Nat × EH)) (T : Tpl) (t : TplT B T) : Option (Option (Tup B.T (vshC el) × Option (TplT B T))) :=
  DL F fr C.head H.hh (unSt T t)
    ⟨fun s => DL F fr C.mid H.hm s
      ⟨fun s => Dops F.tt F.specs H.cs F.a0 fr C.ops.toList false s.nx C.l1 0 s.m s.E [] fun m E _ =>
          (yProg C.y s.nx l el fun x => .ret x : RM B (HL B.T (vshC el))).go (lkS F.a0 fr m) [] fun x _ =>
            match C.y.dst, C.y.guard with
            | some d, none => some (some (ofHL _ x,
              (Dops F.tt F.specs H.cs F.a0 fr C.ops.toList false s.nx C.l2 (C.l1.length + 1) ((.s d, .v (.one (.bool false))) :: m) E [] fun m E _ => DL F fr C.tail H.ht ⟨m, E, s.nx + stepW * C.ops.size⟩ ⟨fun _ => none, fun _ _ => none, fun _ => some ()⟩).bind fun _ =>
              Dops F.tt F.specs H.cs F.a0 fr C.ops.toList false s.nx C.l2 (C.l1.length + 1) ((.s d, .v (.one (.bool true))) :: m) E [] fun m E _ => DL F fr C.tail H.ht ⟨m, E, s.nx + stepW * C.ops.size⟩
                ⟨fun s => DL F fr C.step H.hst s ⟨fun s => match covered n0 false (itemKeys T.items) s.m with | true => pk F.a0 (s.m ++ fr) n0 E1 false T [] s.E s.nx some | false => none, fun _ _ => none, fun _ => none⟩, fun _ _ => none, fun _ => none⟩))
            | _, _ => none,
        fun _ _ => none, fun _ => none⟩,
      fun i _ => match Nat.beq i C.b0 with | true => some none | false => none, fun _ => none⟩
noncomputable def DYfn (k np nh nm j : Nat) (tt : List (TI B)) (specs : List (Spec B)) (it : It B) (T : Tpl) (H : ItH) (c : Code) (t : TplT B it.args) : Option (List (Tup B.T (vshC it.el))) :=
  match itc np nh nm j c with
  | none => none
  | some C =>
    let n0 := it.args.nx + it.args.items.length
    let F : Fn B := ⟨tt, specs, itA n0 (unM it.args t), ⟨[], [], n0 + 1⟩, n0 + 1, [], [], []⟩
    DL F [] C.pre H.hp ⟨[], [], F.n0⟩
      ⟨fun s => pk F.a0 (s.m ++ []) s.nx s.E false T [] s.E s.nx fun t0 => collectY (DYr F C H n0 it.el (s.m ++ []) s.nx s.E T) k t0, fun _ _ => none, fun _ => some []⟩
def itOkF (it : It B) (fn : Func) : Bool :=
  match fn.body with
  | some c => resB fn.results.toList [] && lowC fn.ntmps c && noEnts it.args.ents
  | none => false
variable {n : Nat} {G : World} {L0 : List HProp} {f0 : HP} {σ0 : Rz B} {ρ ρ' : Env} {w : World}
variable {M M' : Loc → Option (Con B)} {f f' : HP} {σ σ' : Rz B} {E E0 : List (Nat × EH)} {N N' : Nat → Prop}
theorem look_shift_s (k : Nat) : ∀ (m : Mem B), look (shiftS m) (.s (k + 1)) = look m (.s k)
  | [] => rfl
  | (l, c) :: r => by
    have ih := look_shift_s k r
    cases l with
    | s j =>
      show look ((.s (j + 1), c) :: shiftS r) (.s (k + 1)) = _
      unfold look
      have : (Loc.s (j + 1)).beq (.s (k + 1)) = (Loc.s j).beq (.s k) := by
        show Nat.beq (j + 1) (k + 1) = Nat.beq j k
        rfl
      rw [this]
      cases (Loc.s j).beq (.s k)
      · exact ih
      · rfl
    | _ => exact ih
theorem look_shift_o {l : Loc} (hl : ∀ k, l ≠ .s k) : ∀ (m : Mem B), look (shiftS m) l = look m l
  | [] => rfl
  | (a, c) :: r => by
    have ih := look_shift_o hl r
    cases a with
    | s j =>
      show look ((.s (j + 1), c) :: shiftS r) l = _
      rw [look_cons_ne (fun e => hl _ e.symm), look_cons_ne (fun e => hl _ e.symm)]
      exact ih
    | _ =>
      show look ((_, c) :: shiftS r) l = look ((_, c) :: r) l
      unfold look
      rw [ih]
theorem lowL_flat : ∀ {c : Code}, lowC n c = true → lowL n (flat c) = true
  | .seq a b, h => by
    obtain ⟨h1, h2⟩ := andC (show (match lowC n a with | true => lowC n b | false => false) = true from h)
    have key : ∀ {x y : List Code}, lowL n x = true → lowL n y = true → lowL n (x ++ y) = true := by
      intro x y hx hy
      induction x with
      | nil => exact hy
      | cons c x ih =>
        obtain ⟨g1, g2⟩ := andC (show (match lowC n c with | true => lowL n x | false => false) = true from hx)
        show (match lowC n c with | true => lowL n (x ++ y) | false => false) = true
        rw [g1]
        exact ih g2
    exact key (lowL_flat h1) (lowL_flat h2)
  | .skip, h => rfl
  | .exit _, h => rfl
  | .ret, h => rfl
  | .region .., h => by show (match lowC n _ with | true => true | false => false) = true; rw [h]
  | .cond .., h => by show (match lowC n _ with | true => true | false => false) = true; rw [h]
  | .block .., h => by show (match lowC n _ with | true => true | false => false) = true; rw [h]
  | .loop .., h => by show (match lowC n _ with | true => true | false => false) = true; rw [h]
  | .rangeFunc .., h => by show (match lowC n _ with | true => true | false => false) = true; rw [h]
  | .scope .., h => rfl
  | .label .., h => rfl
  | .goto .., h => rfl
  | .refuse .., h => rfl
theorem yProg_ran {y : Oper} {base l i0 : Nat} (hl : σ i0 = some (.clo [.func (.yield l) #[] #[]])) {el : List VSh} {x : HL B.T (vshC el)} {rs : List Loc} (hs : SimF G L0 f0 σ0 M E N f σ ρ w) (hsc : scalEl el x = true) (h : (yProg y base i0 el fun x => .ret x : RM B (HL B.T (vshC el))).Ran M x rs) :
    ∀ x', (Instr.yield l (enc el x).toArray).run P w = .ok x' w → (execOp (ev ρ) y).run P w = .ok x' w := by
  unfold yProg at h
  obtain ⟨dst, op, ty, pos, after, guard⟩ := y
  simp only at h
  split at h <;> try exact h.elim
  rename_i c
  obtain ⟨cal, args, ats⟩ := c
  simp only at h
  split at h <;> try exact h.elim
  rename_i xo
  obtain ⟨cc, rs1, hc, h1⟩ := opd1_ran hs h
  cases cc <;> try exact h1.elim
  rename_i l'
  obtain ⟨hq, h2⟩ := chk_ran h1
  have := Nat.eq_of_beq_eq_true hq
  subst this
  obtain ⟨ds, rs2, hd, h3⟩ := opds_ran hs h2
  obtain ⟨x0, rs3, h4, h5⟩ := elR_ran hs hd h3
  have := ret_ran h4
  subst this
  have hv := h5 hsc
  have hc : ev ρ xo = .func (.yield l) #[] #[] := by
    obtain ⟨l2, e1, e2⟩ := hc
    rw [hl] at e1
    injection e1 with e1
    injection e1 with e1
    injection e1 with e1 _
    injection e1 with e1
    injection e1 with e1
    rw [e2, e1]
  intro x' hx'
  have ha : args.map (ev ρ) = (enc el x).toArray := by
    rw [← hv]
    show args.map (ev ρ) = (args.toList.map (ev ρ)).toArray
    rw [← Array.toList_map]
  simp [execOp, resolve, hc, Deferred.ofValue, invoke, ha, hx', go_sem]
end
end Hd
set_option linter.unusedVariables false
set_option linter.unusedSimpArgs false
namespace Hd
open Go Hk
section
variable {B : Tab} {P : Program}
theorem collect_some {α S : Type} {g : S → Option (Option (α × Option S))} {n : Nat} {t : S} {l : List α} (h : collectY g (n + 1) t = some l) :
    (g t = some none ∧ l = []) ∨ ∃ x t' l', g t = some (some (x, some t')) ∧ collectY g n t' = some l' ∧ l = x :: l' := by
  obtain ⟨o, ho, h⟩ := bind_some (show (g t).bind _ = some l from h)
  cases o with
  | none => injection h with h; exact .inl ⟨ho, h.symm⟩
  | some p =>
    obtain ⟨x, r⟩ := p
    obtain ⟨t', ht', h⟩ := bind_some (show r.bind _ = some l from h)
    subst ht'
    obtain ⟨l', hl', h⟩ := Option.map_eq_some_iff.1 h
    exact .inr ⟨x, t', l', ho, hl', h.symm⟩
theorem drop_cons {α : Type} {xs l : List α} {i : Nat} {x : α} (h : xs.drop i = x :: l) : xs[i]? = some x ∧ l = xs.drop (i + 1) ∧ i < xs.length := by
  have hlt : i < xs.length := Nat.lt_of_not_le fun hge => by rw [List.drop_eq_nil_of_le hge] at h; cases h
  rw [List.drop_eq_getElem_cons hlt] at h
  injection h with h1 h2
  exact ⟨by rw [List.getElem?_eq_getElem hlt, h1], h2.symm, hlt⟩
theorem dstLow_app {n : Nat} {a b : List Oper} (h : DstLow n (a ++ b)) : DstLow n a ∧ DstLow n b := ⟨fun o ho => h o (by simp [ho]), fun o ho => h o (by simp [ho])⟩
theorem ewp_block_flat [Rd] {n : Nat} {b : Nat} {c : Code} {K : List Nat → Env → World → Prop} {Q : EPost} {Ds : List Nat} {ρ : Env} {w : World} (h : EW P n (flat c) K (blockE b (thenE K Q)) Ds ρ w) : EWp P n (.block b c) (thenE K Q) Ds ρ w :=
  ewp_block ((ewp_flat c h).mono fun e Ds ρ w h => by cases e <;> exact h)
theorem iter_good {np nh nm j : Nat} {tt : List (TI B)} {specs : List (Spec B)} {it : It B} {T : Tpl} {H : ItH} {fn : Func} (htt : ttOk P tt = true) (hmx : P.follows .mixedOrders = true) (hS : SpecsOk P specs) (hfn : P.funcs[it.fid]? = some fn) (hok : callOk P it.fid = true)
    (hk : itOkF it fn = true) (hsc : ∀ x : Tup B.T (vshC it.el), scalEl it.el (toHL _ x) = true) (hD : ∀ t, it.fn t = DYfn bigN np nh nm j tt specs it T H (codeOf fn) t) : GoodI P it := by
  refine ⟨?_, hok⟩
  intro G w L0 f σ t xs args ht hz hs
  refine ⟨xs.map (fun x => enc it.el (toHL _ x)), ?_, by simp, fun i x vs hx hv => ?_⟩
  case refine_2 =>
    rw [List.getElem?_map, hx] at hv
    simp only [Option.map_some, Option.some.injEq] at hv
    subst hv
    exact enc_vals (hsc x)
  intro l G' w1 f1 L J X hle hw hJ0 hY
  unfold itOkF at hk
  cases hbody : fn.body with
  | none => rw [hbody] at hk; cases hk
  | some c =>
  rw [hbody] at hk
  simp only [Bool.and_eq_true] at hk
  obtain ⟨⟨k1, k2⟩, k3⟩ := hk
  have hents := noEnts_nil k3
  have hc : codeOf fn = c := by simp only [codeOf, hbody]
  rw [hD t, hc] at ht
  unfold DYfn at ht
  cases hC : itc np nh nm j c with
  | none => rw [hC] at ht; cases ht
  | some C =>
  rw [hC] at ht
  simp only at ht
  obtain ⟨e1, e2, e3, e4⟩ := itc_spec hC
  obtain ⟨n0, hn0⟩ : ∃ n0, n0 = it.args.nx + it.args.items.length := ⟨_, rfl⟩
  obtain ⟨a0, ha0⟩ : ∃ a0, a0 = itA n0 (unM it.args t) := ⟨_, rfl⟩
  rw [← hn0, ← ha0] at ht
  refine ecalls ((#[Value.func (.yield l) #[] #[]] ++ args).size + (fn.ntmps - (#[Value.func (.yield l) #[] #[]] ++ args).size)) hfn hbody rfl ?_
  obtain ⟨n, hn⟩ : ∃ n, n = (#[Value.func (.yield l) #[] #[]] ++ args).size + (fn.ntmps - (#[Value.func (.yield l) #[] #[]] ++ args).size) := ⟨_, rfl⟩
  rw [← hn]
  have hlow : lowC n c = true := lowC_mono (by omega) k2
  have hl1 := lowL_flat hlow
  rw [e1] at hl1
  obtain ⟨lpre, hl1⟩ := lowL_app hl1
  have hlc : lowC n C.lc = true := (andC (show (match lowC n C.lc with | true => true | false => false) = true from hl1)).1
  have hl2 := lowL_flat hlc
  rw [e2] at hl2
  obtain ⟨lhead, hl2⟩ := lowL_app hl2
  obtain ⟨hbc, lstep⟩ := andC (show (match lowC n C.bc with | true => lowL n C.step | false => false) = true from hl2)
  have hl3 := lowL_flat hbc
  rw [e3] at hl3
  obtain ⟨lmid, hl3⟩ := lowL_app hl3
  obtain ⟨hops, ltail⟩ := andC (show (match lowOps n C.ops.toList with | true => lowL n C.tail | false => false) = true from hl3)
  have hdl := lowOps_spec hops
  rw [e4] at hdl
  obtain ⟨dl1, hdl⟩ := dstLow_app hdl
  have hyl : ∀ d, C.y.dst = some d → d < n := fun d hd => hdl C.y (by simp) d hd
  have dl2 : DstLow n C.l2 := fun o ho => hdl o (by simp [ho])
  have hosz : C.ops.size = C.l1.length + (C.l2.length + 1) := by
    rw [← Array.length_toList, e4]
    simp
  have hσ0 : σ n0 = none := hs.fresh n0 (by rw [hn0]; exact Nat.lt_irrefl _)
  obtain ⟨τ, hτ⟩ : ∃ τ : Rz B, τ = setR σ n0 (.clo [.func (.yield l) #[] #[]]) := ⟨_, rfl⟩
  have hστ : Rz.le σ τ := by rw [hτ]; exact setR_le hσ0
  have hτ0 : τ n0 = some (.clo [.func (.yield l) #[] #[]]) := by rw [hτ]; exact setR_self _ _ _
  have hs1 : SimF G' (Mks [] :: L) f1 τ (look a0) [] (fun i => i < n0 + 1) f1 τ (fun t => (#[Value.func (.yield l) #[] #[]] ++ args).getD t undef) w1 := by
    obtain ⟨E1, L1, q1, q2, q3, q4⟩ := hs.ents
    rw [hents] at q2
    have hE : E1 = [] := List.eq_nil_iff_forall_not_mem.2 fun x hx => by have := (q2 x).1 hx; simp at this
    subst hE
    cases L1 with
    | cons _ _ => exact q3.elim
    | nil =>
    have hmv := hs.moveE (E1 := []) (L1 := []) q1 (by rw [hents]; exact fun x => Iff.rfl) q3 G' w1 (Mks [] :: L) f1 hle (wd_mk0 hw)
    rw [hents] at hmv
    have hmv2 := hmv.updS (up := []) (w' := w1) (E' := []) (HP.le_refl _) hστ (N' := fun i => i < n0 + 1) (fun i hi => by
      have hi : ¬ i < n0 + 1 := hi
      rw [hτ, setR_ne (by omega)]
      exact hs.fresh i (by rw [← hn0]; omega)) (fun l c h => by cases h) (fun i h hi => by simp at hi) ⟨[], [], q1, fun x => Iff.rfl, trivial, wd_mk0 hw⟩
    rw [ovl_nil] at hmv2
    have h2 := SimF.reslotE (M' := look a0) (ρ' := fun t => (#[Value.func (.yield l) #[] #[]] ++ args).getD t undef) hmv2 (fun l' hl' => by
      rw [ha0]
      unfold itA
      rw [look_cons_ne (fun e => hl' _ e.symm), look_shift_o hl']) (fun s => by
      rw [ha0]
      unfold itA
      cases s with
      | zero =>
        rw [look_cons_self]
        refine ⟨l, hτ0, ?_⟩
        simp [Array.getD_eq_getD_getElem?, Array.getElem?_append]
      | succ k =>
        rw [look_cons_ne (by simp), look_shift_s]
        have := hmv2.slots k
        simpa [Array.getD_eq_getD_getElem?, Array.getElem?_append] using this)
    exact { h2 with le := HP.le_refl _, sub := Rz.le_refl _ }
  obtain ⟨ρ0, hρ0⟩ : ∃ ρ0 : Env, ρ0 = fun t => (#[Value.func (.yield l) #[] #[]] ++ args).getD t undef := ⟨_, rfl⟩
  rw [← hρ0] at hs1 ⊢
  have hfr0 := hs1.frame
  have hσn : ∀ i, n0 + 1 ≤ i → τ i = none := fun i hi => hs1.fresh i (by omega)
  have hx : Ctx P (⟨tt, specs, a0, ⟨[], [], n0 + 1⟩, n0 + 1, [], [], []⟩ : Fn B) τ := ⟨htt, hS, fun it h => by simp at h, hmx, hfr0, hσn⟩
  obtain ⟨F, hF⟩ : ∃ F : Fn B, F = ⟨tt, specs, a0, ⟨[], [], n0 + 1⟩, n0 + 1, [], [], []⟩ := ⟨_, rfl⟩
  have hFrts : F.rts = [] := by rw [hF]
  have hFn0 : F.n0 = n0 + 1 := by rw [hF]
  have hFtt : F.tt = tt := by rw [hF]
  have hFsp : F.specs = specs := by rw [hF]
  have done : ∀ {Ds : List Nat} {ρ : Env} {w : World} {fa fb : HP} {M : Loc → Option (Con B)} {E : List (Nat × EH)} {N : Nat → Prop} {σ' : Rz B} {Ln : List HProp}, HP.le f fa → SimF G' (Mks Ds :: Ln) fa τ M E N fb σ' ρ w → (J xs.length fa Ln ∨ X fa Ln) →
      RetPost P fn (fun _ w' => ∃ f1 f' L', HP.le f f1 ∧ HP.le f1 f' ∧ Wd G' w' f' L' ∧ (J (xs.map (fun x => enc it.el (toHL _ x))).length f1 L' ∨ X f1 L')) .normal Ds ρ w := by
    intro Ds ρ w fa fb M E N σ' Ln hfa hsim hJX
    obtain ⟨hh, hsim⟩ := simF_shut hsim
    refine ⟨hh, RtV ρ [], resIs k1 (by simp) (noBig_spec (l := []) rfl), fa, fb, Ln, hfa, hsim.le, ?_, by simpa using hJX⟩
    obtain ⟨E1, L1, _, _, _, q4⟩ := hsim.ents
    have : Wd G' (shut Ds w) fb ([] ++ (L1 ++ Ln)) := q4
    exact wd_dropR this
  obtain ⟨Q, hQ⟩ : ∃ Q : EPost, Q = RetPost P fn (fun _ w' => ∃ f1 f' L', HP.le f f1 ∧ HP.le f1 f' ∧ Wd G' w' f' L' ∧ (J (xs.map (fun x => enc it.el (toHL _ x))).length f1 L' ∨ X f1 L')) := ⟨_, rfl⟩
  rw [← hQ] at done ⊢
  have hQr : ∀ Ds ρ w, Q .normal Ds ρ w → Q .ret Ds ρ w := fun Ds ρ w h => by rw [hQ] at h ⊢; exact h
  refine @EWp.mono ⟨none⟩ P n (thenE (fun Ds ρ w => Q .normal Ds ρ w) Q) [] ρ0 w1 c Q ?_ fun e Ds ρ w h => by cases e <;> exact h
  refine @ewp_flat ⟨none⟩ P n c _ _ _ _ _ ?_
  rw [e1, @ew_app ⟨none⟩]
  rw [← hF] at hx
  have ht0 : Tells F G' (Mks [] :: L) f1 τ [] ⟨[], [], F.n0⟩ ρ0 w1 := by
    rw [hF]
    exact ⟨Nat.le_refl _, f1, τ, hs1⟩
  have ht : DL F [] C.pre H.hp ⟨[], [], F.n0⟩ ⟨fun s => pk F.a0 (s.m ++ []) s.nx s.E false T [] s.E s.nx fun t0 => collectY (DYr F C H n0 it.el (s.m ++ []) s.nx s.E T) bigN t0, fun _ _ => none, fun _ => some []⟩ = some xs := by
    subst hF
    exact ht
  refine @ew_mono ⟨none⟩ _ _ _ _ _ _ ?_ ?_ _ _ _ _ (dl_sound hx lpre ht ht0)
  rotate_left
  · intro e Ds ρ w hne hq
    cases e with
    | normal => exact absurd rfl hne
    | ret =>
      obtain ⟨x, g1, hh, _, g3⟩ := hq
      injection g1 with g1
      obtain ⟨fb, σb, g3⟩ := g3 hFrts
      exact hQr _ _ _ (done hle g3 (.inl (by rw [← g1]; exact hJ0)))
    | exit i => obtain ⟨_, g1, _⟩ := hq; cases g1
    | goto l => exact hq.elim
    | panic c => exact hq.elim
    | outgrown => exact hq.elim
  rintro Ds ρ w ⟨s0, g1, g2⟩
  have hn1 := g2.1
  have hf1 := frame_cut g2
  obtain ⟨t0, hcol, g3⟩ := pk_tells0 hx hn1 hf1 (tells_cut g2) g1
  obtain ⟨fr, hfr⟩ : ∃ fr : Mem B, fr = s0.m ++ [] := ⟨_, rfl⟩
  rw [← hfr] at hcol g3 hf1
  show @EWp ⟨none⟩ P n (.block C.b0 (.loop C.lc)) _ Ds ρ w
  refine @ewp_block ⟨none⟩ _ _ _ _ _ _ _ _ (@ewp_loop ⟨none⟩ _ _ _ _ _ _ _ (fun k Ds ρ w => ∃ i t fa Ln, i ≤ xs.length ∧ collectY (DYr F C H n0 it.el fr s0.nx s0.E T) k t = some (xs.drop i) ∧ HP.le f1 fa ∧ J i fa Ln ∧ Tells F G' (Mks Ds :: Ln) fa τ fr (unSt T t) ρ w) bigN
    ⟨0, t0, f1, L, Nat.zero_le _, by rw [List.drop_zero]; exact hcol, HP.le_refl _, hJ0, g3⟩ ?_)
  rintro k Ds ρ w ⟨i, t, fa, Ln, hi, hk, hfa, hJ, hT⟩
  cases k with
  | zero => cases hk
  | succ k =>
  refine @ewp_flat ⟨none⟩ P n C.lc _ _ _ _ _ ?_
  rw [e2, @ew_app ⟨none⟩]
  have hleft : ∀ {Ds : List Nat} {ρ : Env} {w : World}, Q .normal Ds ρ w → blockE C.b0 (thenE (@EW ⟨none⟩ P n [] (fun Ds ρ w => Q .normal Ds ρ w) Q) Q) (.exit C.b0) Ds ρ w := fun {Ds ρ w} h => by
    show (cond (Nat.beq C.b0 C.b0) _ _ : Prop)
    have : Nat.beq C.b0 C.b0 = true := by simp
    rw [this]
    exact h
  obtain ⟨o, ho⟩ : ∃ o, DYr F C H n0 it.el fr s0.nx s0.E T t = some o := by
    rcases collect_some hk with ⟨h, _⟩ | ⟨x, t', l', h, _⟩ <;> exact ⟨_, h⟩
  have hDY := ho
  unfold DYr at hDY
  refine @ew_mono ⟨none⟩ _ _ _ _ _ _ ?_ ?_ _ _ _ _ (dl_sound hx lhead hDY hT)
  rotate_left
  · intro e Ds ρ w hne hq
    cases e with
    | normal => exact absurd rfl hne
    | ret => obtain ⟨x, g1, _⟩ := hq; cases g1
    | exit i' =>
      obtain ⟨s, g1, g2⟩ := hq
      simp only at g1
      cases hb : Nat.beq i' C.b0 with
      | false => rw [hb] at g1; cases g1
      | true =>
        rw [hb] at g1
        injection g1 with g1
        have := Nat.eq_of_beq_eq_true hb
        subst this
        have hend : i = xs.length := by
          rcases collect_some hk with ⟨_, h⟩ | ⟨x, t', l', h, _⟩
          · have := List.drop_eq_nil_iff.1 h; omega
          · rw [ho, ← g1] at h; cases h
        subst hend
        obtain ⟨_, fb, σb, g2⟩ := g2
        exact hleft (done (HP.le_trans hle hfa) g2 (.inl hJ))
    | goto l => exact hq.elim
    | panic c => exact hq.elim
    | outgrown => exact hq.elim
  rintro Ds ρ w ⟨s, g1, g2⟩
  show @EWp ⟨none⟩ P n (.block C.b1 C.bc) _ Ds ρ w
  refine @ewp_block_flat P ⟨none⟩ _ _ _ _ _ _ _ _ ?_
  rw [e3, @ew_app ⟨none⟩]
  refine @ew_mono ⟨none⟩ _ _ _ _ _ _ ?_ ?_ _ _ _ _ (dl_sound hx lmid g1 g2)
  rotate_left
  · intro e Ds ρ w hne hq
    cases e with
    | normal => exact absurd rfl hne
    | ret => obtain ⟨x, g1, _⟩ := hq; cases g1
    | exit i => obtain ⟨_, g1, _⟩ := hq; cases g1
    | goto l => exact hq.elim
    | panic c => exact hq.elim
    | outgrown => exact hq.elim
  rintro Ds ρ w ⟨s, g1, g2⟩
  obtain ⟨tr, m1, rows1, d1, d2, d3, _⟩ := dops_ran g1
  obtain ⟨hnx, fb, σb, hsim⟩ := g2
  obtain ⟨x, rs, hran, d4⟩ := RM.go_ran d2
  rw [d3] at hran
  have hops2 : C.ops = (C.l1 ++ C.y :: C.l2).toArray := by rw [← e4]
  cases hdst : C.y.dst with
  | none => rw [hdst] at d4; cases d4
  | some d =>
  cases hgd : C.y.guard with
  | some q => exact absurd d4 (by rw [hdst, hgd] <;> simp)
  | none =>
  rw [hdst, hgd] at d4
  simp only [Option.some.injEq] at d4
  cases o with
  | none => cases d4
  | some p =>
  obtain ⟨x0, R0⟩ := p
  injection d4 with d4
  injection d4 with d5 d6
  subst d5
  have hx2 : ∃ t' l', R0 = some t' ∧ collectY (DYr F C H n0 it.el fr s0.nx s0.E T) k t' = some l' ∧ xs.drop i = ofHL _ x :: l' := by
    rcases collect_some hk with ⟨h, _⟩ | ⟨x', t', l', h, h2, h3⟩
    · rw [ho] at h; cases h
    · rw [ho] at h
      injection h with h
      injection h with h
      injection h with h4 h5
      subst h4
      exact ⟨t', l', h5, h2, h3⟩
  obtain ⟨t', l', hrest, hcol2, hdrop⟩ := hx2
  rw [hrest] at d6
  obtain ⟨hxi, hl', hilt⟩ := drop_cons hdrop
  obtain ⟨u, hrest1, hrest2⟩ := bind_some d6
  have hvs : (xs.map (fun x => enc it.el (toHL _ x)))[i]? = some (enc it.el x) := by
    rw [List.getElem?_map, hxi, Option.map_some, toHL_ofHL]
  have hsx : scalEl it.el x = true := by
    have := hsc (ofHL _ x)
    rwa [toHL_ofHL] at this
  show @EWp ⟨none⟩ P n (.region C.ry C.ops false) _ Ds ρ w
  rw [hops2]
  rw [e4] at d1
  refine @ewp_region ⟨none⟩ _ _ _ _ _ _ _ _ (@seqRan_elR B P n G' _ fa τ ⟨none⟩ _ _ _ _ _ _ hx.tt hx.specs _ (C.y :: C.l2) _ _ _ _ _ _ _ _ _ d1 dl1 (hsim.same fun j hj => by simpa using hj) fun fc σc ρ w hh => ?_)
  obtain ⟨Lb, hwb, hstb⟩ := hh.move
  have hYi := hY i _ w fa fc Ln (Lb ++ [Mks Ds]) hvs (HP.le_trans hle hfa) hJ hh.le (by simpa using hwb)
  refine el_yield (by unfold Region.wanted; rw [hgd]) hdst (by rw [Nat.blt_eq]; exact hyl d hdst) hYi (yProg_ran (hh.sub _ _ hτ0) hh hsx hran) ?_
  rintro e w' ⟨fd, Lm, v1, v2, v3⟩
  have hs' := hstb G' w' (Mks Ds :: Lm) fd v1 (by simpa using v2)
  have hlk : ∀ b : Bool, lkS F.a0 fr ((.s d, .v (.one (.bool b))) :: m1) = ovl [(.s d, .v (.one (.bool b)))] (memSeq tr (lkS F.a0 fr s.m)) := fun b => by
    rw [← d3]
    exact lkS_up F.a0 fr [(.s d, .v (.one (.bool b)))] m1
  have fin : ∀ b : Bool, SimF G' (Mks Ds :: Lm) fd τ (lkS F.a0 fr ((.s d, .v (.one (.bool b))) :: m1)) (entSeq tr s.E) (fun j => j < s.nx + stepW * (C.l1.length + 1)) fd σc (upd ρ d (.bool b)) w' := fun b => by
    rw [hlk b]
    have := (hs'.put (d := d) (x := .one (.bool b)) (v := .bool b) rfl).same (N' := fun j => j < s.nx + stepW * (C.l1.length + 1)) fun j hj => by
      have : stepW * (C.l1.length + 1) = stepW * C.l1.length + stepW := Nat.mul_succ _ _
      rw [Nat.zero_add] at hj
      omega
    exact { this with le := HP.le_refl _ }
  have hle2 : HP.le f1 fd := HP.le_trans hfa (HP.le_trans hh.le v1)
  have tl : ∀ {m2 : Mem B} {E2 : List (Nat × EH)} {f5 : HP} {σ5 : Rz B} {ρ5 : Env} {w5 : World}, SimF G' (Mks Ds :: Lm) fd τ (lkS F.a0 fr m2) E2 (fun j => j < s.nx + stepW * (C.l1.length + 1 + C.l2.length)) f5 σ5 ρ5 w5 →
      Tells F G' (Mks Ds :: Lm) fd τ fr ⟨m2, E2, s.nx + stepW * C.ops.size⟩ ρ5 w5 := by
    intro m2 E2 f5 σ5 ρ5 w5 h5
    refine ⟨by show F.n0 ≤ s.nx + stepW * C.ops.size; omega, f5, σ5, ?_⟩
    rw [hosz, show C.l1.length + (C.l2.length + 1) = C.l1.length + 1 + C.l2.length by omega]
    exact h5
  rcases v3 with ⟨rfl, hJ'⟩ | ⟨rfl, hX'⟩
  · refine ⟨_, rfl, ?_⟩
    obtain ⟨tr2, m2, rows2, q1, q2, q3, _⟩ := dops_ran hrest2
    rw [e4] at q1
    refine @seqRan_el B P _ _ _ _ _ n G' _ fd τ ⟨none⟩ _ hx.tt hx.specs _ _ _ _ _ _ _ _ _ _ q1 dl2 (fin true) fun f5 σ5 ρ5 w5 hh5 => ?_
    rw [← q3] at hh5
    refine @ew_mono ⟨none⟩ _ _ _ _ _ _ ?_ ?_ _ _ _ _ (dl_sound hx ltail q2 (tl hh5))
    · rintro Ds ρ w ⟨s3, u1, u2⟩
      refine @ew_mono ⟨none⟩ _ _ _ _ _ _ ?_ ?_ _ _ _ _ (dl_sound hx lstep u1 u2)
      · rintro Ds ρ w ⟨s4, u3, u4⟩
        obtain ⟨t'', u5, u6⟩ := pk_tells hx hn1 hf1 u4 u3
        injection u5 with u5
        subst u5
        exact ⟨k, Nat.lt_succ_self _, i + 1, t'', fd, Lm, hilt, by rw [← hl']; exact hcol2, hle2, hJ', u6⟩
      · intro e Ds ρ w hne hq
        cases e with
        | normal => exact absurd rfl hne
        | ret => obtain ⟨x, g1, _⟩ := hq; cases g1
        | exit i => obtain ⟨_, g1, _⟩ := hq; cases g1
        | goto l => exact hq.elim
        | panic c => exact hq.elim
        | outgrown => exact hq.elim
    · intro e Ds ρ w hne hq
      cases e with
      | normal => exact absurd rfl hne
      | ret => obtain ⟨x, g1, _⟩ := hq; cases g1
      | exit i => obtain ⟨_, g1, _⟩ := hq; cases g1
      | goto l => exact hq.elim
      | panic c => exact hq.elim
      | outgrown => exact hq.elim
  · refine ⟨_, rfl, ?_⟩
    obtain ⟨tr2, m2, rows2, q1, q2, q3, _⟩ := dops_ran hrest1
    rw [e4] at q1
    refine @seqRan_el B P _ _ _ _ _ n G' _ fd τ ⟨none⟩ _ hx.tt hx.specs _ _ _ _ _ _ _ _ _ _ q1 dl2 (fin false) fun f5 σ5 ρ5 w5 hh5 => ?_
    rw [← q3] at hh5
    refine @ew_mono ⟨none⟩ _ _ _ _ _ _ ?_ ?_ _ _ _ _ (dl_sound hx ltail q2 (tl hh5))
    · rintro Ds ρ w ⟨_, u1, _⟩
      cases u1
    · intro e Ds ρ w hne hq
      cases e with
      | normal => exact absurd rfl hne
      | ret =>
        obtain ⟨_, _, _, _, g3⟩ := hq
        obtain ⟨f6, σ6, g3⟩ := g3 hFrts
        exact hQr _ _ _ (done (HP.le_trans hle hle2) g3 (.inr hX'))
      | exit i => obtain ⟨_, g1, _⟩ := hq; cases g1
      | goto l => exact hq.elim
      | panic c => exact hq.elim
      | outgrown => exact hq.elim
end
end Hd
