/- What a call brings into the caller's state: plain facts. -/
import Derived.Test.YtoamdmkakblnnaaDoorD5
set_option linter.unusedVariables false
set_option linter.unusedSimpArgs false
namespace Hd
open Go Hk
section
variable {B : Tab} {rn : Nat → Nat} {E : List (Nat × EH)}
def Fit : Loc → Con B → Prop
  | .s _, .v _ => True
  | .c _ _, .c _ => True
  | .a _, .arr _ _ _ _ => True
  | .a _, .fz _ _ _ => True
  | .a _, .grid _ _ _ _ _ _ => True
  | .a _, .mp _ _ _ => True
  | .a _, .gone => True
  | .b _, .blk _ _ => True
  | .b _, .gone => True
  | .k _ _, .c _ => True
  | _, _ => False
theorem killM_fit : ∀ {n t : Nat} {k : Loc} {c : Con B}, (k, c) ∈ killM (B := B) t n → k ∈ killK t n ∧ Fit k c
  | 0, _, _, _, h => by simp [killM] at h
  | n + 1, t, k, c, h => by
    rcases List.mem_cons.1 (show (k, c) ∈ (Loc.s t, Con.v (.one .und)) :: killM (t + 1) n from h) with e | h
    · injection e with e1 e2; subst e1 e2; exact ⟨by simp [killK], trivial⟩
    · obtain ⟨h1, h2⟩ := killM_fit h; exact ⟨by simp [killK, h1], h2⟩
theorem at_mem {k : Loc} {L : List (Cel B)} {x : Loc × Con B} (h : x ∈ (match L with | [c] => [(k, Con.c c)] | _ => [])) : ∃ c, x = (k, .c c) := by
  cases L with
  | nil => simp at h
  | cons c l =>
    cases l with
    | nil => exact ⟨c, by simpa using h⟩
    | cons _ _ => simp at h
theorem unItem_fit {q : Nat} {i : Item} {p : HL B.T i.comps} {k : Loc} {c : Con B} (h : (k, c) ∈ unItem (fun e => e) q i p) : k ∈ itemKey i ∧ Fit k c := by
  cases i with
  | slot t v => have h := List.mem_singleton.1 h; injection h with h1 h2; subst h1 h2; exact ⟨by simp [itemKey], trivial⟩
  | cell i j s => obtain ⟨c', e⟩ := at_mem (k := .c i j) h; injection e with h1 h2; subst h1 h2; exact ⟨by simp [itemKey], trivial⟩
  | arr i e nn => have h := List.mem_singleton.1 h; injection h with h1 h2; subst h1 h2; exact ⟨by simp [itemKey], trivial⟩
  | grd i e nn k => have h := List.mem_singleton.1 h; injection h with h1 h2; subst h1 h2; exact ⟨by simp [itemKey], trivial⟩
  | mp i a b => have h := List.mem_singleton.1 h; injection h with h1 h2; subst h1 h2; exact ⟨by simp [itemKey], trivial⟩
  | frz i e nn => have h := List.mem_singleton.1 h; injection h with h1 h2; subst h1 h2; exact ⟨by simp [itemKey], trivial⟩
  | blk i ty n => have h := List.mem_singleton.1 h; injection h with h1 h2; subst h1 h2; exact ⟨by simp [itemKey], trivial⟩
  | clo i j s => obtain ⟨c', e⟩ := at_mem (k := .k i j) h; injection e with h1 h2; subst h1 h2; exact ⟨by simp [itemKey], trivial⟩
  | kr t n => exact killM_fit h
  | rm i => have h := List.mem_singleton.1 h; injection h with h1 h2; subst h1 h2; exact ⟨by simp [itemKey], trivial⟩
  | rmb i => have h := List.mem_singleton.1 h; injection h with h1 h2; subst h1 h2; exact ⟨by simp [itemKey], trivial⟩
theorem unItems_fit : ∀ {l : List Item} {q : Nat} {p : HL B.T (itemsC l)} {k : Loc} {c : Con B}, (k, c) ∈ unItems (fun e => e) q l p → k ∈ itemKeys l ∧ Fit k c
  | [], _, _, _, _, h => by simp [unItems] at h
  | i :: l, q, p, k, c, h => by
    rcases List.mem_append.1 (show (k, c) ∈ unItem _ q i _ ++ unItems _ (q + 1) l _ from h) with h | h
    · obtain ⟨h1, h2⟩ := unItem_fit h; exact ⟨List.mem_append.2 (.inl h1), h2⟩
    · obtain ⟨h1, h2⟩ := unItems_fit h; exact ⟨List.mem_append.2 (.inr h1), h2⟩
theorem oneC_cell {s : Sh} {p : HL B.T s.comps} (h : oneC s = true) : ∃ c, unSh rn s p = [c] := by
  cases s with
  | d t =>
    cases t with
    | st i => cases h
    | kv a b => cases h
    | _ => exact ⟨_, rfl⟩
  | und => exact ⟨_, rfl⟩
  | _ => exact ⟨_, rfl⟩
theorem look_app_ne {a b : Mem B} {l : Loc} (h : look a l ≠ none ∨ look b l ≠ none) : look (a ++ b) l ≠ none := by
  rw [look_app]
  cases ha : look a l with
  | some c => simp
  | none =>
    rcases h with h | h
    · exact absurd ha h
    · exact h
theorem self_ne {k : Loc} {x : Con B} {a : Loc} (h : a ∈ [k]) : look [(k, x)] a ≠ none := by
  rw [List.mem_singleton.1 h, look_cons_self]; simp
theorem at_one {k : Loc} {L : List (Cel B)} {c : Cel B} (h : L = [c]) : (match L with | [c] => [(k, Con.c c)] | _ => []) = [(k, .c c)] := by subst h; rfl
theorem unItems_key : ∀ {l : List Item} {q : Nat} {p : HL B.T (itemsC l)}, itemsOne l = true → ∀ a, a ∈ itemKeys l → look (unItems (fun e => e) q l p) a ≠ none
  | [], _, _, _, a, h => by simp [itemKeys] at h
  | i :: l, q, p, ho, a, h => by
    have key : itemsOne l = true ∧ (a ∈ itemKey i → look (unItem (fun e => e) q i (HL.fst i.comps (itemsC l) p)) a ≠ none) := by
      cases i with
      | cell i j s =>
        simp only [itemsOne, Bool.and_eq_true] at ho
        obtain ⟨c, hc⟩ := oneC_cell (B := B) (rn := fun e => e) (p := HL.fst (Item.cell i j s).comps (itemsC l) p) ho.1
        refine ⟨ho.2, fun h => ?_⟩
        have : unItem (fun e => e) q (.cell i j s) (HL.fst (Item.cell i j s).comps (itemsC l) p) = [(Loc.c i j, Con.c c)] := at_one hc
        rw [this]
        exact self_ne h
      | clo i j s =>
        simp only [itemsOne, Bool.and_eq_true] at ho
        obtain ⟨c, hc⟩ := oneC_cell (B := B) (rn := fun e => e) (p := HL.fst (Item.clo i j s).comps (itemsC l) p) ho.1
        refine ⟨ho.2, fun h => ?_⟩
        have : unItem (fun e => e) q (.clo i j s) (HL.fst (Item.clo i j s).comps (itemsC l) p) = [(Loc.k i j, Con.c c)] := at_one hc
        rw [this]
        exact self_ne h
      | kr t n => exact ⟨ho, fun h => killK_look h⟩
      | slot t v => exact ⟨ho, fun h => self_ne h⟩
      | arr i e nn => exact ⟨ho, fun h => self_ne h⟩
      | frz i e nn => exact ⟨ho, fun h => self_ne h⟩
      | grd i e nn k => exact ⟨ho, fun h => self_ne h⟩
      | mp i a b => exact ⟨ho, fun h => self_ne h⟩
      | blk i t n => exact ⟨ho, fun h => self_ne h⟩
      | rm i => exact ⟨ho, fun h => self_ne h⟩
      | rmb i => exact ⟨ho, fun h => self_ne h⟩
    rcases List.mem_append.1 (show a ∈ itemKey i ++ itemKeys l from h) with h | h
    · exact look_app_ne (.inl (key.2 h))
    · exact look_app_ne (.inr (unItems_key key.1 a h))
theorem mem_newEnts {n : Nat} : ∀ {l : List (Nat × EH)} {x : Nat × EH}, x ∈ newEnts rn n l ↔ ∃ i h, (i, h) ∈ l ∧ n ≤ i ∧ x = (rn i, h)
  | [], x => by simp [newEnts]
  | (i, h) :: l, x => by
    unfold newEnts
    cases hb : Nat.blt i n with
    | true =>
      rw [Nat.blt_eq] at hb
      simp only
      rw [mem_newEnts (l := l)]
      constructor
      · rintro ⟨j, k, h1, h2⟩; exact ⟨j, k, by simp [h1], h2⟩
      · rintro ⟨j, k, h1, h2, h3⟩
        rcases List.mem_cons.1 h1 with e | h1
        · injection e with e _; subst e; omega
        · exact ⟨j, k, h1, h2, h3⟩
    | false =>
      have hge : n ≤ i := by
        rcases Nat.lt_or_ge i n with h' | h'
        · rw [← Nat.blt_eq, hb] at h'; cases h'
        · exact h'
      simp only [List.mem_cons]
      rw [mem_newEnts (l := l)]
      constructor
      · rintro (e | ⟨j, k, h1, h2⟩)
        · exact ⟨i, h, .inl rfl, hge, e⟩
        · exact ⟨j, k, .inr h1, h2⟩
      · rintro ⟨j, k, h1 | h1, h2, h3⟩
        · injection h1 with e1 e2; subst e1 e2; exact .inl h3
        · exact .inr ⟨j, k, h1, h2, h3⟩
theorem mem_goneEnts : ∀ {l : List (Nat × EH)} {j : Nat}, j ∈ goneEnts rn E l ↔ ∃ i h, (i, h) ∈ l ∧ hasId E i = false ∧ j = rn i
  | [], j => by simp [goneEnts]
  | (i, h) :: l, j => by
    unfold goneEnts
    cases hb : hasId E i with
    | true =>
      simp only
      rw [mem_goneEnts (l := l)]
      constructor
      · rintro ⟨a, k, h1, h2⟩; exact ⟨a, k, by simp [h1], h2⟩
      · rintro ⟨a, k, h1, h2, h3⟩
        rcases List.mem_cons.1 h1 with e | h1
        · injection e with e _; subst e; rw [hb] at h2; cases h2
        · exact ⟨a, k, h1, h2, h3⟩
    | false =>
      simp only [List.mem_cons]
      rw [mem_goneEnts (l := l)]
      constructor
      · rintro (e | ⟨a, k, h1, h2⟩)
        · exact ⟨i, h, .inl rfl, hb, e⟩
        · exact ⟨a, k, .inr h1, h2⟩
      · rintro ⟨a, k, h1 | h1, h2, h3⟩
        · injection h1 with e1 e2; subst e1 e2; exact .inl h3
        · exact .inr ⟨a, k, h1, h2, h3⟩
theorem goneM_mem : ∀ {l : List (Nat × EH)} {k : Loc} {c : Con B}, (k, c) ∈ goneM rn E l → c = .gone ∧ ∃ i h, (i, h) ∈ l ∧ hasId E i = false ∧ k = keyE (rn i) h
  | [], k, c, h => by simp [goneM] at h
  | (i, h) :: l, k, c, hm => by
    unfold goneM at hm
    cases hb : hasId E i with
    | true =>
      rw [hb] at hm
      obtain ⟨h1, a, b, h2, h3⟩ := goneM_mem hm
      exact ⟨h1, a, b, by simp [h2], h3⟩
    | false =>
      rw [hb] at hm
      rcases List.mem_cons.1 hm with e | hm
      · cases h with
        | arr e' => injection e with e1 e2; exact ⟨e2, i, .arr e', by simp, hb, e1⟩
        | grid e' => injection e with e1 e2; exact ⟨e2, i, .grid e', by simp, hb, e1⟩
        | mp k v => injection e with e1 e2; exact ⟨e2, i, .mp k v, by simp, hb, e1⟩
        | blk t n => injection e with e1 e2; exact ⟨e2, i, .blk t n, by simp, hb, e1⟩
      · obtain ⟨h1, a, b, h2, h3⟩ := goneM_mem hm
        exact ⟨h1, a, b, by simp [h2], h3⟩
theorem goneM_look : ∀ {l : List (Nat × EH)} {i : Nat} {h : EH}, (i, h) ∈ l → hasId E i = false → look (goneM (B := B) rn E l) (keyE (rn i) h) ≠ none
  | [], i, h, hm, _ => by simp at hm
  | (a, k) :: l, i, h, hm, hb => by
    unfold goneM
    rcases List.mem_cons.1 hm with e | hm
    · injection e with e1 e2
      subst e1 e2
      rw [hb]
      cases h <;> (simp only [keyE]; rw [look_cons_self]; simp)
    · have ih := goneM_look hm hb
      cases ha : hasId E a with
      | true => exact ih
      | false => exact look_app_ne (a := [_]) (.inr ih)
theorem Ents.app {f : HP} {σ : Rz B} {M : Loc → Option (Con B)} : ∀ {E1 E2 : List (Nat × EH)} {L1 L2 : List HProp}, Ents f σ M E1 L1 → Ents f σ M E2 L2 → Ents f σ M (E1 ++ E2) (L1 ++ L2)
  | [], _, [], _, _, h => h
  | _ :: _, _, _ :: _, _, ⟨h1, h2⟩, h => ⟨h1, Ents.app h2 h⟩
  | [], _, _ :: _, _, h, _ => h.elim
  | _ :: _, _, [], _, h, _ => h.elim
def KLow (n : Nat) : Loc → Prop
  | .s _ => True
  | .c i _ => i < n
  | .a i => i < n
  | .b i => i < n
  | .k i _ => i < n
theorem keysLow_spec {n : Nat} : ∀ {ks : List Loc}, keysLow n ks = true → ∀ k, k ∈ ks → KLow n k
  | [], _, k, h => by simp at h
  | a :: r, h, k, hk => by
    have key : KLow n a ∧ keysLow n r = true := by
      cases a <;> simp only [keysLow, Bool.and_eq_true, Nat.blt_eq] at h <;> first | exact ⟨trivial, h⟩ | exact h
    rcases List.mem_cons.1 hk with rfl | hk
    · exact key.1
    · exact keysLow_spec key.2 k hk
end
end Hd
set_option linter.unusedVariables false
set_option linter.unusedSimpArgs false
namespace Hd
open Go Hk
section
variable {B : Tab} {P : Program} {M : Loc → Option (Con B)} {G w : World} {L0 : List HProp} {f0 f f' : HP} {σ0 σ σ' : Rz B} {E E0 : List (Nat × EH)} {N : Nat → Prop} {ρ : Env}
variable {base lim : Nat} {rs : List Loc}
def RtV (ρ : Env) : List Nat → Value
  | [t] => ρ t
  | ts => .tuple (ts.map ρ).toArray
def Spec.Holds (S : Spec B) (P : Program) : Prop :=
  ∀ (G w : World) (L0 : List HProp) (f : HP) (σ : Rz B) (t : TplT B S.args) (r : TplT B S.res) (args : Array Value), S.fn t = some r → args.size = slotsN S.args.items →
    SimF G L0 f σ (look (unM S.args t)) S.args.ents (fun i => i < S.args.nx + S.args.items.length) f σ (fun t => args.getD t undef) w →
    Calls P S.fid args w (Returns fun v w' => ∃ f' σ' ρ', v = RtV ρ' S.rts ∧
      SimF G L0 f σ (ovl (unM S.res r) (sOff true (look (unM S.args t)))) S.res.ents (fun i => i < S.res.nx + S.res.items.length) f' σ' ρ' w')
theorem lenIs_spec {α : Type} : ∀ {l : List α} {n : Nat}, lenIs l n = true → l.length = n
  | [], 0, _ => rfl
  | _ :: l, n + 1, h => by simp [lenIs_spec (l := l) h]
  | [], _ + 1, h => by cases h
  | _ :: _, 0, h => by cases h
theorem frame0 : FrameB (B := B) 0 [] (fun _ => none) :=
  ⟨fun _ _ h => (by cases h), fun _ _ _ h => (by cases h), fun _ _ _ _ h => (by cases h), fun _ _ _ h => (by cases h), fun _ _ _ _ _ h => (by cases h), fun _ _ _ _ _ _ _ h => (by cases h), fun _ _ _ _ h => (by cases h), fun _ _ _ _ _ _ h => (by cases h), fun _ _ _ h => (by cases h), fun _ _ h => (by simp at h)⟩
theorem ovl_off (m : Mem B) : ovl m (sOff true (fun _ => none)) = look m := by
  funext l
  unfold ovl
  cases look m l with
  | some c => rfl
  | none => cases l <;> rfl
theorem memN_iff {i : Nat} : ∀ {l : List Nat}, memN l i = true ↔ i ∈ l
  | [] => by simp [memN]
  | a :: r => by
    unfold memN
    cases hb : Nat.beq a i with
    | true => simp [Nat.eq_of_beq_eq_true hb]
    | false =>
      have : i ≠ a := fun e => by subst e; simp at hb
      simp only [List.mem_cons]
      rw [memN_iff (l := r)]
      exact ⟨.inr, fun h => h.elim (fun e => absurd e this) id⟩
theorem allIn_spec {mu : List (Nat × Nat)} : ∀ {n : Nat}, allIn mu n = true → ∀ i, i < n → ∃ j, assoc mu i = some j
  | 0, _, i, h => by omega
  | n + 1, h, i, hi => by
    unfold allIn at h
    cases ha : assoc mu n with
    | none => rw [ha] at h; cases h
    | some j =>
      rw [ha] at h
      by_cases e : i = n
      · subst e; exact ⟨j, ha⟩
      · exact allIn_spec h i (by omega)
theorem entsLive_spec {mu : List (Nat × Nat)} {del : List Nat} : ∀ {l : List (Nat × EH)}, entsLive mu del l = true → ∀ i h, (i, h) ∈ l → ∃ j, assoc mu i = some j ∧ j ∉ del
  | [], _, i, h, hm => by simp at hm
  | (a, k) :: l, he, i, h, hm => by
    unfold entsLive at he
    have key : (∃ j, assoc mu a = some j ∧ j ∉ del) ∧ entsLive mu del l = true := by
      cases ha : assoc mu a with
      | none => rw [ha] at he; cases he
      | some j =>
        rw [ha] at he
        simp only at he
        cases hd : memN del j with
        | true => rw [hd] at he; cases he
        | false => rw [hd] at he; exact ⟨⟨j, rfl, fun h => by rw [memN_iff.2 h] at hd; cases hd⟩, he⟩
    rcases List.mem_cons.1 hm with e | hm
    · injection e with e1 e2; subst e1 e2; exact key.1
    · exact entsLive_spec key.2 i h hm
theorem rol0 {mu : List (Nat × Nat)} {e i : Nat} : Rol 0 mu e i ↔ assoc mu e = some i :=
  ⟨fun h => h.elim (fun h => by omega) (·.2), fun h => .inr ⟨Nat.zero_le _, h⟩⟩
theorem cellsKept_spec {its : List Item} {ks : List Loc} {i : Nat} : ∀ {n : Nat}, cellsKept its ks i n = true → ∀ j, j < n → Loc.c i j ∈ ks ∨ cellScal its i j = true
  | 0, _, j, hj => by omega
  | n + 1, h, j, hj => by
    unfold cellsKept at h
    cases hm : (memL ks (.c i n) || cellScal its i n) with
    | false => rw [hm] at h; cases h
    | true =>
      rw [hm] at h
      by_cases hjn : j = n
      · subst hjn
        rcases Bool.or_eq_true_iff.1 hm with h1 | h1
        · exact .inl (memL_iff.1 h1)
        · exact .inr h1
      · exact cellsKept_spec h j (by omega)
def scalCel : Cel B → Prop
  | .int _ _ => True
  | .bool _ => True
  | .str _ => True
  | .own _ => True
  | .ptr _ _ => True
  | _ => False
theorem scal_same {c : Cel B} {f f' : HP} {σ σ' : Rz B} {v v' : Value} (h : scalCel c) (hle : Rz.le σ' σ) (h1 : CRel f σ c v) (h2 : CRel f' σ' c v') : v = v' := by
  cases c <;> first | exact h.elim | skip
  case own i =>
    obtain ⟨A, n, k, a1, rfl⟩ := h1
    obtain ⟨A', n', k', b1, rfl⟩ := h2
    rw [hle _ _ b1] at a1
    injection a1 with a1
    injection a1 with e1 e2 e3
    subst e1 e2 e3
    rfl
  case ptr i o =>
    obtain ⟨b, a1, rfl⟩ := h1
    obtain ⟨b', b1, rfl⟩ := h2
    rw [hle _ _ b1] at a1
    injection a1 with a1
    injection a1 with e1
    subst e1
    rfl
  all_goals exact (show v = _ from h1).trans (show v' = _ from h2).symm
theorem scalSh_one {rn : Nat → Nat} {s : Sh} {p : HL B.T s.comps} (h : scalSh s = true) : ∃ c, unSh rn s p = [c] ∧ scalCel c := by
  cases s with
  | d t => cases t <;> first | (cases h; done) | exact ⟨_, rfl, trivial⟩
  | kb b => exact ⟨_, rfl, trivial⟩
  | ki k n => exact ⟨_, rfl, trivial⟩
  | ks s => exact ⟨_, rfl, trivial⟩
  | own i e => exact ⟨_, rfl, trivial⟩
  | ptr i o => exact ⟨_, rfl, trivial⟩
  | _ => cases h
theorem cellScal_look {i j : Nat} : ∀ {l : List Item} {q : Nat} {p : HL B.T (itemsC l)} {c : Con B}, cellScal l i j = true → look (unItems (fun e => e) q l p) (.c i j) = some c → ∃ x, c = .c x ∧ scalCel x
  | [], _, _, _, _, h => by cases h
  | a :: l, q, p, c, hs, h => by
    rw [show unItems (fun e => e) q (a :: l) p = unItem (fun e => e) q a (HL.fst a.comps (itemsC l) p) ++ unItems (fun e => e) (q + 1) l (HL.snd a.comps (itemsC l) p) from rfl, look_app] at h
    cases hl : look (unItem (fun e => e) q a (HL.fst a.comps (itemsC l) p)) (.c i j) with
    | none =>
      rw [hl] at h
      refine cellScal_look (l := l) ?_ h
      cases a <;> try exact hs
      unfold cellScal at hs
      split at hs
      · simp only [Bool.and_eq_true] at hs; exact hs.2
      · exact hs
    | some c' =>
      rw [hl] at h
      injection h with h
      subst h
      have hm := unItem_fit (look_mem hl)
      cases a with
      | cell i' j' s =>
        have e1 : i' = i ∧ j' = j := by
          have := hm.1
          simp only [itemKey, List.mem_singleton] at this
          injection this with a b
          exact ⟨a.symm, b.symm⟩
        obtain ⟨rfl, rfl⟩ := e1
        unfold cellScal at hs
        have hbb : (Nat.beq i' i' && Nat.beq j' j') = true := by simp
        rw [hbb] at hs
        simp only [Bool.and_eq_true] at hs
        obtain ⟨x, hx, hx2⟩ := scalSh_one (B := B) (rn := fun e => e) (p := HL.fst (Item.cell i' j' s).comps (itemsC l) p) hs.1
        have hu : unItem (fun e => e) q (.cell i' j' s) (HL.fst (Item.cell i' j' s).comps (itemsC l) p) = [(Loc.c i' j', Con.c x)] := at_one hx
        rw [hu, look_cons_self] at hl
        injection hl with hl
        exact ⟨x, hl.symm, hx2⟩
      | slot t v => have := hm.1; simp [itemKey] at this
      | arr i e nn => have := hm.1; simp [itemKey] at this
      | frz i e nn => have := hm.1; simp [itemKey] at this
      | grd i e nn k => have := hm.1; simp [itemKey] at this
      | mp i a b => have := hm.1; simp [itemKey] at this
      | blk i t n => have := hm.1; simp [itemKey] at this
      | clo i j s => have := hm.1; simp [itemKey] at this
      | kr t n =>
        have := hm.1
        exfalso
        have key : ∀ {n t : Nat}, Loc.c i j ∈ killK t n → False := by
          intro n
          induction n with
          | zero => intro t h; simp [killK] at h
          | succ n ih => intro t h; simp only [killK, List.mem_cons] at h; rcases h with h | h; exact absurd h (by simp); exact ih h
        exact key this
      | rm i => have := hm.1; simp [itemKey] at this
      | rmb i => have := hm.1; simp [itemKey] at this
def Whole (its : List Item) (ks : List Loc) (i : Nat) : EH → Prop
  | .arr _ => True
  | .grid _ => True
  | .mp _ _ => True
  | .blk _ n => ∀ j, j < n → Loc.c i j ∈ ks ∨ cellScal its i j = true
theorem keepsOk_spec {its : List Item} {a : Nat} {ks : List Loc} : ∀ {l : List (Nat × EH)}, keepsOk its a E ks l = true → ∀ i h, (i, h) ∈ l → a ≤ i ∨ (i, h) ∈ E ∧ Whole its ks i h
  | [], _, i, h, hm => by simp at hm
  | (b, k) :: l, he, i, h, hm => by
    unfold keepsOk at he
    have key : (a ≤ b ∨ (b, k) ∈ E ∧ Whole its ks b k) ∧ keepsOk its a E ks l = true := by
      cases k with
      | arr e =>
        cases hq : (Nat.ble a b || (entIs E b (.arr e) && true)) with
        | false => simp only at he; rw [hq] at he; cases he
        | true =>
          simp only at he; rw [hq] at he
          refine ⟨?_, he⟩
          rcases Bool.or_eq_true_iff.1 hq with h1 | h1
          · exact .inl (Nat.le_of_ble_eq_true h1)
          · simp only [Bool.and_eq_true] at h1; exact .inr ⟨entIs_mem h1.1, trivial⟩
      | grid e =>
        cases hq : (Nat.ble a b || (entIs E b (.grid e) && true)) with
        | false => simp only at he; rw [hq] at he; cases he
        | true =>
          simp only at he; rw [hq] at he
          refine ⟨?_, he⟩
          rcases Bool.or_eq_true_iff.1 hq with h1 | h1
          · exact .inl (Nat.le_of_ble_eq_true h1)
          · simp only [Bool.and_eq_true] at h1; exact .inr ⟨entIs_mem h1.1, trivial⟩
      | mp kt vt =>
        cases hq : (Nat.ble a b || (entIs E b (.mp kt vt) && true)) with
        | false => simp only at he; rw [hq] at he; cases he
        | true =>
          simp only at he; rw [hq] at he
          refine ⟨?_, he⟩
          rcases Bool.or_eq_true_iff.1 hq with h1 | h1
          · exact .inl (Nat.le_of_ble_eq_true h1)
          · simp only [Bool.and_eq_true] at h1; exact .inr ⟨entIs_mem h1.1, trivial⟩
      | blk t n =>
        cases hq : (Nat.ble a b || (entIs E b (.blk t n) && cellsKept its ks b n)) with
        | false => simp only at he; rw [hq] at he; cases he
        | true =>
          simp only at he; rw [hq] at he
          refine ⟨?_, he⟩
          rcases Bool.or_eq_true_iff.1 hq with h1 | h1
          · exact .inl (Nat.le_of_ble_eq_true h1)
          · simp only [Bool.and_eq_true] at h1; exact .inr ⟨entIs_mem h1.1, cellsKept_spec h1.2⟩
    rcases List.mem_cons.1 hm with e | hm
    · injection e with e1 e2; subst e1 e2; exact key.1
    · exact keepsOk_spec key.2 i h hm
theorem handed {T : Tpl} {p : HL B.T (itemsC T.items)} {ov : Ov B} {sv : Env} (hs : Stage G L0 f0 σ0 M E N base f σ ρ w ov) (hi : ItemsOk 0 sv w M ov f σ T.items p)
    (hT : tplOk [] T = true) (hL : ∀ e j, assoc ov.mu e = some j → e < T.nx) (hv : entsLive ov.mu ov.del T.ents = true) :
    (∀ i h, (i, h) ∈ T.ents → ∃ j, assoc ov.mu i = some j ∧ (j, h) ∈ delsE (ov.add ++ E) ov.del) ∧
    ∃ σ' Er Lr, Rz.le (ren 0 σ ov.mu) σ' ∧
      SimF G (Lr ++ L0) f σ' (look (unItems (fun e => e) T.nx T.items p)) T.ents (fun i => i < T.nx + T.items.length) f σ' sv w ∧
      Ents f σ (ovl ov.up M) Er Lr ∧ Once Er ∧ (∀ x, x ∈ Er ↔ x ∈ delsE (ov.add ++ E) ov.del ∧ ∀ i h, (i, h) ∈ T.ents → assoc ov.mu i ≠ some x.1) := by
  have cE : ∀ i h, (i, h) ∈ T.ents → ∃ j, assoc ov.mu i = some j ∧ (j, h) ∈ delsE (ov.add ++ E) ov.del := by
    intro i h hm
    obtain ⟨j, hj, hd⟩ := entsLive_spec hv i h hm
    refine ⟨j, hj, ?_⟩
    have hT' := hT
    unfold tplOk at hT'
    simp only [Bool.and_eq_true] at hT'
    have tO := idsOnce_once hT'.1.1
    have tI := itemsTold_spec hT'.1.2
    obtain ⟨u1, u2⟩ := unItems_up (q := T.nx) hi
    rcases entsTold_spec hT'.2 i h hm with h0 | h0
    · simp at h0
    · have hk : keyE i h ∈ itemKeys T.items := by cases h with | arr e => exact h0 | grid e => exact h0 | mp k v => exact h0 | blk t n => exact h0.1
      cases hq : look (unItems (fun e => e) T.nx T.items p) (keyE i h) with
      | none => exact absurd hq (u2 _ hk)
      | some c =>
        have hu := u1 _ _ hq
        have nid : hasId T.ents i = true := hasId_iff.2 ⟨_, hm⟩
        cases h with
        | arr e =>
          cases c <;> try exact hu.elim
          case arr e' xs s nn =>
            obtain ⟨⟨nn2, g1⟩, _, i', s', nn', g3, _, _, g6⟩ := hu
            have := rol0.1 g3
            rw [hj] at this
            injection this with this
            subst this
            have := tO.eq (show (i, EH.arr e') ∈ T.ents from tI _ g1) hm
            injection this with this
            subst this
            rcases g6 with g6 | g6
            · exact hs.sim.arrs _ _ _ _ _ g6
            · exact absurd g6 hd
          case fz e' xs nn =>
            obtain ⟨⟨e2, nn2, g1⟩, _⟩ := hu
            have : hasId T.ents i = false := tI _ g1
            rw [nid] at this; cases this
          case grid e' rows s k hole nn =>
            obtain ⟨⟨nn2, g1⟩, _⟩ := hu
            have := tO.eq (show (i, EH.grid e') ∈ T.ents from tI _ g1) hm
            cases this
          case mp k' v' m' =>
            have := tO.eq (show (i, EH.mp k' v') ∈ T.ents from tI (Item.mp i k' v') hu.1) hm
            cases this
          case gone =>
            have : hasId T.ents i = false := tI (Item.rm i) hu
            rw [nid] at this; cases this
        | grid e =>
          cases c <;> try exact hu.elim
          case grid e' rows s k hole nn =>
            obtain ⟨⟨nn2, g1⟩, _, rfl, i', s', h', nn', g3, _, _, _, g6⟩ := hu
            have := rol0.1 g3
            rw [hj] at this
            injection this with this
            subst this
            have := tO.eq (show (i, EH.grid e') ∈ T.ents from tI _ g1) hm
            injection this with this
            subst this
            rcases g6 with g6 | g6
            · exact hs.sim.grds _ _ _ _ _ _ _ g6
            · exact absurd g6 hd
          case arr e' xs s nn =>
            obtain ⟨⟨nn2, g1⟩, _⟩ := hu
            have := tO.eq (show (i, EH.arr e') ∈ T.ents from tI _ g1) hm
            cases this
          case fz e' xs nn =>
            obtain ⟨⟨e2, nn2, g1⟩, _⟩ := hu
            have : hasId T.ents i = false := tI _ g1
            rw [nid] at this; cases this
          case mp k' v' m' =>
            have := tO.eq (show (i, EH.mp k' v') ∈ T.ents from tI (Item.mp i k' v') hu.1) hm
            cases this
          case gone =>
            have : hasId T.ents i = false := tI (Item.rm i) hu
            rw [nid] at this; cases this
        | mp kt vt =>
          cases c <;> try exact hu.elim
          case mp k' v' m' =>
            obtain ⟨g1, i', g3, _, g6⟩ := hu
            have := rol0.1 g3
            rw [hj] at this
            injection this with this
            subst this
            have := tO.eq (show (i, EH.mp k' v') ∈ T.ents from tI (Item.mp i k' v') g1) hm
            injection this with e1 e2
            subst e1 e2
            rcases g6 with g6 | g6
            · exact hs.sim.mps _ _ _ _ g6
            · exact absurd g6 hd
          case grid e' rows s k hole nn =>
            obtain ⟨⟨nn2, g1⟩, _⟩ := hu
            have := tO.eq (show (i, EH.grid e') ∈ T.ents from tI _ g1) hm
            cases this
          case arr e' xs s nn =>
            obtain ⟨⟨nn2, g1⟩, _⟩ := hu
            have := tO.eq (show (i, EH.arr e') ∈ T.ents from tI _ g1) hm
            cases this
          case fz e' xs nn =>
            obtain ⟨⟨e2, nn2, g1⟩, _⟩ := hu
            have : hasId T.ents i = false := tI _ g1
            rw [nid] at this; cases this
          case gone =>
            have : hasId T.ents i = false := tI (Item.rm i) hu
            rw [nid] at this; cases this
        | blk t n =>
          cases c <;> try exact hu.elim
          case blk t' n' =>
            obtain ⟨g1, i', g3, _, g6⟩ := hu
            have := rol0.1 g3
            rw [hj] at this
            injection this with this
            subst this
            have := tO.eq (show (i, EH.blk t' n') ∈ T.ents from tI _ g1) hm
            injection this with e1 e2
            subst e1 e2
            rcases g6 with g6 | g6
            · exact hs.sim.blks _ _ _ g6
            · exact absurd g6 hd
          case gone =>
            have : hasId T.ents i = false := tI (Item.rmb i) hu
            rw [nid] at this; cases this
  refine ⟨cE, ?_⟩
  have fr : ∀ l, fresh 0 true l = true := fun l => by cases l <;> simp [fresh]
  obtain ⟨σ', Er, Lr, g1, g2, g3, g4, g5, g6⟩ := repack (ret := true) (Mf := fun _ => none) (E0 := []) (n0 := 0) (sv := sv) hs frame0 hi (fun l hl => by rw [fr l] at hl; cases hl) (fun l _ => .inl (fr l))
    (fun i h hm => by obtain ⟨j, a, b⟩ := cE i h hm; exact ⟨j, rol0.2 a, b⟩) hL (Nat.zero_le _) (fun i h hm => by simp at hm) hT (fun e j _ => .inl (Nat.zero_le _)) (fun h => by cases h)
  rw [ovl_off] at g3
  exact ⟨σ', Er, Lr, g2, g3, g4, g5, fun x => by rw [g6]; simp only [rol0, ne_eq]⟩
end
end Hd
set_option linter.unusedVariables false
set_option linter.unusedSimpArgs false
namespace Hd
open Go Hk
section
variable {B : Tab} {P : Program} {M : Loc → Option (Con B)} {G w : World} {L0 : List HProp} {f0 f f' : HP} {σ0 σ σ' : Rz B} {E E0 : List (Nat × EH)} {N : Nat → Prop} {ρ : Env}
variable {base lim : Nat} {rs : List Loc}
def rnOf (mu : List (Nat × Nat)) (a nx : Nat) : Nat → Nat := fun e => match Nat.blt e a with | true => (assoc mu e).getD 0 | false => nx + (e - a)
theorem rnOf_lt {mu : List (Nat × Nat)} {a nx e j : Nat} (h : e < a) (hj : assoc mu e = some j) : rnOf mu a nx e = j := by
  unfold rnOf
  rw [show Nat.blt e a = true from by rw [Nat.blt_eq]; exact h, hj]; rfl
theorem rnOf_ge {mu : List (Nat × Nat)} {a nx e : Nat} (h : a ≤ e) : rnOf mu a nx e = nx + (e - a) := by
  unfold rnOf
  have : Nat.blt e a = false := by
    cases hb : Nat.blt e a with
    | false => rfl
    | true => rw [Nat.blt_eq] at hb; omega
  rw [this]
theorem once_app : ∀ {E1 E2 : List (Nat × EH)}, Once E1 → Once E2 → (∀ i h h', (i, h) ∈ E1 → (i, h') ∉ E2) → Once (E1 ++ E2)
  | [], _, _, h, _ => h
  | (i, h) :: E1, E2, h1, h2, hn => by
    have h1' := h1
    unfold Once at h1'
    simp only [List.map_cons, List.nodup_cons] at h1'
    refine Once.cons (once_app h1'.2 h2 fun i h h' hm => hn i h h' (by simp [hm])) fun k hk => ?_
    rcases List.mem_append.1 hk with hk | hk
    · exact h1'.1 (List.mem_map.2 ⟨_, hk, rfl⟩)
    · exact hn i h k (by simp) hk
theorem once_map {g : Nat → Nat} : ∀ {E : List (Nat × EH)}, Once E → (∀ i h i' h', (i, h) ∈ E → (i', h') ∈ E → g i = g i' → i = i') → Once (E.map fun y => (g y.1, y.2))
  | [], h, _ => h
  | (i, h) :: E, h1, hi => by
    have h1' := h1
    unfold Once at h1'
    simp only [List.map_cons, List.nodup_cons] at h1'
    refine Once.cons (once_map h1'.2 fun i h i' h' a b => hi i h i' h' (by simp [a]) (by simp [b])) fun k hk => ?_
    obtain ⟨⟨i', h'⟩, m1, m2⟩ := List.mem_map.1 hk
    injection m2 with m2 _
    have := hi i' h' i h (by simp [m1]) (by simp) m2
    subst this
    exact h1'.1 (List.mem_map.2 ⟨_, m1, rfl⟩)
def isMpC : Con B → Bool
  | .mp _ _ _ => true
  | _ => false
theorem Ents.map {σ'' : Rz B} {M M' : Loc → Option (Con B)} {g : Nat → Nat} : ∀ {E : List (Nat × EH)} {L : List HProp}, (∀ i h A, (i, h) ∈ E → EntRel f σ M i h A → EntRel f' σ'' M' (g i) h A) → Ents f σ M E L → Ents f' σ'' M' (E.map fun y => (g y.1, y.2)) L
  | [], [], _, _ => trivial
  | (i, h) :: E, A :: L, hg, ⟨h1, h2⟩ => ⟨hg i h A (by simp) h1, Ents.map (fun i h A hm => hg i h A (by simp [hm])) h2⟩
  | [], _ :: _, _, h => h.elim
  | _ :: _, [], _, h => h.elim
def KHeld (a : Nat) (E : List (Nat × EH)) : Loc → Prop
  | .c i _ => a ≤ i ∨ ∃ h, (i, h) ∈ E
  | .a i => a ≤ i ∨ ∃ h, (i, h) ∈ E
  | .b i => a ≤ i ∨ ∃ h, (i, h) ∈ E
  | _ => True
theorem keysHeld_spec {a : Nat} : ∀ {ks : List Loc}, keysHeld a E ks = true → ∀ k, k ∈ ks → KHeld a E k
  | [], _, k, h => by simp at h
  | x :: r, h, k, hk => by
    have one : ∀ i, (Nat.ble a i || hasId E i) = true → a ≤ i ∨ ∃ h, (i, h) ∈ E := fun i h => (Bool.or_eq_true_iff.1 h).imp Nat.le_of_ble_eq_true hasId_iff.1
    have key : KHeld a E x ∧ keysHeld a E r = true := by
      cases x with
      | s t => exact ⟨trivial, h⟩
      | k i j => exact ⟨trivial, h⟩
      | c i j => simp only [keysHeld, Bool.and_eq_true] at h; exact ⟨one i h.1, h.2⟩
      | a i => simp only [keysHeld, Bool.and_eq_true] at h; exact ⟨one i h.1, h.2⟩
      | b i => simp only [keysHeld, Bool.and_eq_true] at h; exact ⟨one i h.1, h.2⟩
    rcases List.mem_cons.1 hk with rfl | hk
    · exact key.1
    · exact keysHeld_spec key.2 k hk
theorem returned {S : Spec B} {p : HL B.T (itemsC S.args.items)} {ov : Ov B} {r : TplT B S.res} {f1 : HP} {σ1 σc : Rz B} {w' : World} {ρ' sv : Env} {Er : List (Nat × EH)} {Lr : List HProp}
    (s1 : Stage G L0 f0 σ0 M E N base f1 σ1 ρ w ov) (hb : ∀ j, base ≤ j → j < base + stepV → ¬ N j) (hi : ItemsOk 0 sv w M ov f1 σ1 S.args.items p)
    (hok : S.ok = true) (hL : ∀ e j, assoc ov.mu e = some j → e < S.args.nx) (hA : ∀ i, i < S.args.nx → ∃ j, assoc ov.mu i = some j)
    (cE : ∀ i h, (i, h) ∈ S.args.ents → ∃ j, assoc ov.mu i = some j ∧ (j, h) ∈ delsE (ov.add ++ E) ov.del)
    (g2 : Rz.le (ren 0 σ1 ov.mu) σc) (g4 : Ents f1 σ1 (ovl ov.up M) Er Lr) (g5 : Once Er) (g6 : ∀ x, x ∈ Er ↔ x ∈ delsE (ov.add ++ E) ov.del ∧ ∀ i h, (i, h) ∈ S.args.ents → assoc ov.mu i ≠ some x.1)
    (hlim : ov.nx + (S.res.nx - S.args.nx) + S.res.items.length ≤ base + stepV)
    (g7 : SimF G (Lr ++ L0) f1 σc (ovl (unM S.res r) (sOff true (look (unM S.args (ofHL _ p))))) S.res.ents (fun i => i < S.res.nx + S.res.items.length) f' σ' ρ' w')
    {rn : Nat → Nat} (hrn : rn = rnOf ov.mu S.args.nx ov.nx) :
    ∃ σ'', Rz.le σ1 σ'' ∧ (∀ e r, σ' e = some r → σ'' (rn e) = some r) ∧
      SimF G L0 f0 σ0 (ovl (goneM rn S.res.ents S.args.ents ++ (noSlots (renM rn (unM S.res r)) ++ ov.up)) M)
        (delsE (newEnts rn S.args.nx S.res.ents ++ ov.add ++ E) (goneEnts rn S.res.ents S.args.ents ++ ov.del)) (Nx N base) f' σ'' ρ w' := by
  unfold Spec.ok at hok
  simp only [Bool.and_eq_true] at hok
  obtain ⟨⟨⟨⟨⟨t1, t2⟩, t3⟩, t4⟩, t5⟩, t6⟩ := hok
  have tH := keysHeld_spec t6
  have t5 := Nat.le_of_ble_eq_true t5
  have tK := keepsOk_spec t4
  have tL := keysLow_spec t2
  unfold tplOk at t1
  simp only [Bool.and_eq_true] at t1
  have tO := idsOnce_once t1.1.1
  obtain ⟨u1, u2⟩ := unItems_up (q := S.args.nx) hi
  have hUa : unM S.args (ofHL _ p) = unItems (fun e => e) S.args.nx S.args.items p := by unfold unM; rw [toHL_ofHL]
  rw [← hUa] at u1 u2
  have fitR : ∀ k c, (k, c) ∈ unM S.res r → k ∈ itemKeys S.res.items ∧ Fit k c := fun k c h => unItems_fit h
  have keyR : ∀ a, a ∈ itemKeys S.res.items → look (unM S.res r) a ≠ none := fun a h => unItems_key t3 a h
  have scal : ∀ i j x, look (unM S.args (ofHL _ p)) (.c i j) = some (.c x) → cellScal S.args.items i j = true → scalCel x := fun i j x h1 h2 => by
    rw [hUa] at h1
    obtain ⟨y, h3, h4⟩ := cellScal_look h2 h1
    injection h3 with h3
    subst h3
    exact h4
  generalize hUr : unM S.res r = Ur at *
  generalize hUa' : unM S.args (ofHL _ p) = Ua at *
  have ge := s1.ge
  have hVW : stepV ≤ stepW := by decide
  have free : ∀ j, ov.nx ≤ j → j < base + stepV → σ1 j = none := fun j h1 h2 => s1.sim.fresh j fun h => h.elim (fun h => hb j (by omega) h2 h) (fun h => by omega)
  have rlt : ∀ e, e < S.args.nx → ∃ j, assoc ov.mu e = some j ∧ rn e = j ∧ σ1 j ≠ none := fun e he => by
    obtain ⟨j, hj⟩ := hA e he
    exact ⟨j, hj, by rw [hrn]; exact rnOf_lt he hj, s1.rng e j hj⟩
  have rge : ∀ e, S.args.nx ≤ e → rn e = ov.nx + (e - S.args.nx) := fun e he => by rw [hrn]; exact rnOf_ge he
  have rgen : ∀ e, S.args.nx ≤ e → e < S.res.nx + S.res.items.length → σ1 (rn e) = none := fun e h1 h2 => by rw [rge e h1]; exact free _ (by omega) (by omega)
  have inj : ∀ e e', e < S.res.nx + S.res.items.length → e' < S.res.nx + S.res.items.length → rn e = rn e' → e = e' := fun e e' h1 h2 h => by
    rcases Nat.lt_or_ge e S.args.nx with h3 | h3 <;> rcases Nat.lt_or_ge e' S.args.nx with h4 | h4
    · obtain ⟨j, a1, a2, _⟩ := rlt e h3
      obtain ⟨j', b1, b2, _⟩ := rlt e' h4
      rw [a2, b2] at h
      subst h
      exact s1.inj _ _ _ a1 b1
    · obtain ⟨j, a1, a2, a3⟩ := rlt e h3
      exact absurd (rgen e' h4 h2) (by rw [← h, a2]; exact a3)
    · obtain ⟨j, a1, a2, a3⟩ := rlt e' h4
      exact absurd (rgen e h3 h1) (by rw [h, a2]; exact a3)
    · rw [rge e h3, rge e' h4] at h; omega
  have low' : ∀ e, σ' e ≠ none → e < S.res.nx + S.res.items.length := fun e he => by
    rcases Nat.lt_or_ge e (S.res.nx + S.res.items.length) with h | h
    · exact h
    · exact absurd (g7.fresh e (by omega)) he
  have sold : ∀ e j, assoc ov.mu e = some j → σ' e = σ1 j := fun e j hj => by
    cases hs : σ1 j with
    | none => exact absurd hs (s1.rng e j hj)
    | some x =>
      have : ren 0 σ1 ov.mu e = some x := by unfold ren; rw [if_neg (by omega), hj]; exact hs
      exact g7.sub _ _ (g2 _ _ this)
  have hσd : ∃ σ'' : Rz B, ∀ i, σ'' i = if ov.nx ≤ i ∧ i < ov.nx + (S.res.nx + S.res.items.length - S.args.nx) then σ' (S.args.nx + (i - ov.nx)) else σ1 i := ⟨_, fun _ => rfl⟩
  obtain ⟨σ'', hσ⟩ := hσd
  have le1 : Rz.le σ1 σ'' := fun i x hx => by
    rw [hσ, if_neg]
    · exact hx
    · rintro ⟨h1, h2⟩
      rw [free i h1 (by omega)] at hx; cases hx
  have hr : ∀ e x, σ' e = some x → σ'' (rn e) = some x := fun e x hx => by
    have hK := low' e (by rw [hx]; simp)
    rcases Nat.lt_or_ge e S.args.nx with h3 | h3
    · obtain ⟨j, a1, a2, a3⟩ := rlt e h3
      rw [sold e j a1] at hx
      rw [a2]; exact le1 _ _ hx
    · rw [rge e h3, hσ, if_pos ⟨by omega, by omega⟩, show S.args.nx + (ov.nx + (e - S.args.nx) - ov.nx) = e by omega]
      exact hx
  refine ⟨σ'', le1, hr, ?_⟩
  have tgt : ∀ i h, (i, h) ∈ S.args.ents → i < S.args.nx ∧ assoc ov.mu i = some (rn i) ∧ (rn i, h) ∈ delsE (ov.add ++ E) ov.del ∧ σ1 (rn i) ≠ none := fun i h hm => by
    obtain ⟨j, a1, a2⟩ := cE i h hm
    have h1 := hL i j a1
    obtain ⟨j', b1, b2, b3⟩ := rlt i h1
    rw [a1] at b1
    injection b1 with b1
    subst b1
    rw [b2]
    exact ⟨h1, a1, a2, b3⟩
  have keepE : ∀ i h, (i, h) ∈ S.res.ents → i < S.args.nx → (i, h) ∈ S.args.ents := fun i h hm hi => (tK i h hm).elim (fun h => by omega) (·.1)
  have lowE : ∀ i h, (i, h) ∈ S.res.ents → i < S.res.nx + S.res.items.length := fun i h hm => low' i (ents_some g7 hm)
  have mem' : ∀ x, x ∈ delsE (newEnts rn S.args.nx S.res.ents ++ ov.add ++ E) (goneEnts rn S.res.ents S.args.ents ++ ov.del) ↔ (∃ i h, (i, h) ∈ S.res.ents ∧ x = (rn i, h)) ∨ x ∈ Er := by
    intro x
    rw [mem_delsE]
    simp only [List.append_assoc, List.mem_append, mem_newEnts, mem_goneEnts, not_or]
    constructor
    · rintro ⟨⟨i, h, h1, h2, rfl⟩ | hx, hg, hd⟩
      · exact .inl ⟨i, h, h1, rfl⟩
      · have hxE : x ∈ delsE (ov.add ++ E) ov.del := mem_delsE.2 ⟨List.mem_append.2 hx, hd⟩
        by_cases ht : ∃ i h, (i, h) ∈ S.args.ents ∧ assoc ov.mu i = some x.1
        · obtain ⟨i, h, h1, h2⟩ := ht
          obtain ⟨a0, a1, a2, a3⟩ := tgt i h h1
          rw [h2] at a1
          injection a1 with a1
          obtain ⟨x1, x2⟩ := x
          simp only at a1 h2 hg
          subst a1
          have := only_one s1.sim hxE a2
          subst this
          cases hid : hasId S.res.ents i with
          | false => exact absurd ⟨i, _, h1, hid, rfl⟩ hg
          | true =>
            obtain ⟨h', h3⟩ := hasId_iff.1 hid
            have := tO.eq (keepE i h' h3 a0) h1
            subst this
            exact .inl ⟨i, _, h3, rfl⟩
        · exact .inr ((g6 x).2 ⟨hxE, fun i h h1 h2 => ht ⟨i, h, h1, h2⟩⟩)
    · rintro (⟨i, h, h1, rfl⟩ | hx)
      · rcases Nat.lt_or_ge i S.args.nx with h3 | h3
        · obtain ⟨a0, a1, a2, a3⟩ := tgt i h (keepE i h h1 h3)
          have := mem_delsE.1 a2
          refine ⟨.inr (List.mem_append.1 this.1), ?_, this.2⟩
          rintro ⟨i', h', m1, m2, m3⟩
          have := inj i i' (by omega) (by have := (tgt i' h' m1).1; omega) m3
          subst this
          rw [hasId_iff.2 ⟨h, h1⟩] at m2; cases m2
        · have hn := rgen i h3 (lowE i h h1)
          refine ⟨.inl ⟨i, h, h1, h3, rfl⟩, ?_, fun hd => s1.dlt _ hd hn⟩
          rintro ⟨i', h', m1, m2, m3⟩
          have := (tgt i' h' m1).2.2.2
          rw [← show rn i = rn i' from m3] at this
          exact this hn
      · obtain ⟨k1, k2⟩ := (g6 x).1 hx
        have := mem_delsE.1 k1
        refine ⟨.inr (List.mem_append.1 this.1), ?_, this.2⟩
        rintro ⟨i', h', m1, m2, m3⟩
        exact k2 i' h' m1 (by rw [m3]; exact (tgt i' h' m1).2.1)
  rw [← List.append_assoc (goneM rn S.res.ents S.args.ents), ovl_app]
  have lk1 : ∀ l c, look (goneM rn S.res.ents S.args.ents ++ noSlots (renM rn Ur)) l = some c → (c = .gone ∧ ∃ i h, (i, h) ∈ S.args.ents ∧ hasId S.res.ents i = false ∧ l = keyE (rn i) h) ∨ ((∀ t, l ≠ .s t) ∧ ∃ l0 c0, look Ur l0 = some c0 ∧ l0.ren rn = l ∧ c0.ren rn = c) := fun l c h => by
    rw [look_app] at h
    cases hg : look (goneM (B := B) rn S.res.ents S.args.ents) l with
    | some c' =>
      rw [hg] at h
      injection h with h
      subst h
      obtain ⟨h1, i, k, h2, h3, h4⟩ := goneM_mem (look_mem hg)
      exact .inl ⟨h1, i, k, h2, h3, h4⟩
    | none =>
      rw [hg] at h
      simp only at h
      rw [look_noSlots] at h
      right
      cases l with
      | s t => cases h
      | _ => exact ⟨fun t => by simp, look_ren_some h⟩
  have lk2 : ∀ i, hasId S.res.ents i = true → i < S.res.nx + S.res.items.length → ∀ l, (l = .a i ∨ l = .b i ∨ ∃ j, l = .c i j) → look (goneM rn S.res.ents S.args.ents ++ noSlots (renM rn Ur)) (l.ren rn) = (look Ur l).map (Con.ren rn) := fun i hid hK l hl => by
    have hgn : look (goneM (B := B) rn S.res.ents S.args.ents) (l.ren rn) = none := look_none_of fun c hm => by
      obtain ⟨h1, i', k, h2, h3, h4⟩ := goneM_mem hm
      have hi' := (tgt i' k h2).1
      have hn : rn i = rn i' → False := fun e => by
        have := inj i i' hK (by omega) e
        subst this
        rw [hid] at h3; cases h3
      rcases hl with rfl | rfl | ⟨j, rfl⟩ <;> cases k <;> simp only [keyE, Loc.ren] at h4 <;> first | (injection h4 with h4; exact hn h4) | cases h4
    have hin : ∀ k c, (k, c) ∈ Ur → k.ren rn = l.ren rn → k = l := fun k c hm he => by
      have hk := tL k (fitR k c hm).1
      rcases hl with rfl | rfl | ⟨j, rfl⟩ <;> cases k <;> simp only [Loc.ren] at he <;> first | (injection he; done) | skip
      · injection he with he; rw [inj _ i (by have : _ < S.res.nx := hk; omega) hK he]
      · injection he with he; rw [inj _ i (by have : _ < S.res.nx := hk; omega) hK he]
      · injection he with he e2; rw [inj _ i (by have : _ < S.res.nx := hk; omega) hK he, e2]
    rw [look_app, hgn]
    simp only
    rw [look_noSlots, ← look_ren hin]
    rcases hl with rfl | rfl | ⟨j, rfl⟩ <;> rfl
  have entR : ∀ i h A, (i, h) ∈ S.res.ents → EntRel f' σ' (ovl Ur (sOff true (look Ua))) i h A → EntRel f' σ'' (ovl (goneM rn S.res.ents S.args.ents ++ noSlots (renM rn Ur)) (ovl ov.up M)) (rn i) h A := by
    intro i h A hm hR
    have hid : hasId S.res.ents i = true := hasId_iff.2 ⟨h, hm⟩
    have hK := lowE i h hm
    cases h with
    | arr e =>
      obtain ⟨H, n, c, cur, xs, s, nn, h1, h2, h3, h4, h5, h6, h7⟩ := hR
      have hl := lk2 i hid hK (.a i) (.inl rfl)
      cases hq : look Ur (.a i) with
      | some q =>
        rw [ovl_some hq] at h3
        injection h3 with h3
        subst h3
        rw [hq] at hl
        exact ⟨H, n, c, cur, xs, rn s, nn, hr _ _ h1, h2, ovl_some hl, hr _ _ h4, h5, h6, h7⟩
      | none =>
        rw [ovl_none hq, sOff_a] at h3
        rw [hq] at hl
        obtain ⟨_, _, i', s', nn', b1, b2, b3, b4⟩ := u1 _ _ h3
        have b1 := rol0.1 b1
        obtain ⟨_, a1, a2, a3⟩ := tgt i _ (keepE i _ hm (hL _ _ b1))
        have hs := sold i i' b1
        rw [b1] at a1
        injection a1 with a1
        rw [a1] at b4 hs
        rcases b4 with b4 | b4
        · obtain ⟨E2, L2, A2, n2, c2, cur2, z1, z2, z3, z4, z5, z6, z7, z8, z9⟩ := take_arr s1.sim b4
          rw [h1, z4] at hs
          injection hs with hs
          injection hs with e1 e2 e3
          subst e1
          exact ⟨_, n, c, cur, xs, s', nn', hr _ _ h1, h2, (ovl_none hl).trans b4, le1 _ _ z5, h5, z7, z8⟩
        · exact absurd b4 (mem_delsE.1 a2).2
    | grid e =>
      obtain ⟨H, n, c, cur, hdl, rl, rows, s, kh, hole, nn, h1, h2, h3, h4, h5', h5, h6⟩ := hR
      have hl := lk2 i hid hK (.a i) (.inl rfl)
      cases hq : look Ur (.a i) with
      | some q =>
        rw [ovl_some hq] at h3
        injection h3 with h3
        subst h3
        rw [hq] at hl
        exact ⟨H, n, c, cur, hdl, rl, rows, rn s, rn kh, hole, nn, hr _ _ h1, h2, ovl_some hl, hr _ _ h4, hr _ _ h5', h5, h6⟩
      | none =>
        rw [ovl_none hq, sOff_a] at h3
        rw [hq] at hl
        obtain ⟨_, _, rfl, i', s', h', nn', b1, b1', b2, b3, b4⟩ := u1 _ _ h3
        have b1 := rol0.1 b1
        have b1' := rol0.1 b1'
        obtain ⟨_, a1, a2, a3⟩ := tgt i _ (keepE i _ hm (hL _ _ b1))
        have hs := sold i i' b1
        have hs2 := sold kh h' b1'
        rw [b1] at a1
        injection a1 with a1
        rw [a1] at b4 hs
        rcases b4 with b4 | b4
        · obtain ⟨E2, L2, A2, n2, c2, cur2, hdl2, rl2, z1, z2, z3, z4, z5, z5', z6, z7, z9⟩ := take_grid s1.sim b4
          rw [h1, z4] at hs
          injection hs with hs
          injection hs with e1 e2 e3
          subst e1
          rw [h5', z5'] at hs2
          injection hs2 with hs2
          injection hs2 with hs2
          subst hs2
          exact ⟨_, n, c, cur, _, rl, rows, s', h', none, nn', hr _ _ h1, h2, (ovl_none hl).trans b4, le1 _ _ z5, le1 _ _ z5', h5, z7⟩
        · exact absurd b4 (mem_delsE.1 a2).2
    | mp kt vt =>
      have hl := lk2 i hid hK (.a i) (.inl rfl)
      have told : ∀ c, ovl Ur (sOff true (look Ua)) (.a i) = some c → (∃ k' v' m', c = .mp k' v' m' ∧ ovl (goneM rn S.res.ents S.args.ents ++ noSlots (renM rn Ur)) (ovl ov.up M) (.a (rn i)) = some (.mp k' v' m')) ∨ ¬ isMph c ∧ isMpC c = false := by
        intro c hc
        cases hq : look Ur (.a i) with
        | some q =>
          rw [ovl_some hq] at hc
          injection hc with hc
          subst hc
          rw [hq] at hl
          have hf := (fitR (.a i) q (look_mem hq)).2
          cases q <;> first | exact hf.elim | exact .inr ⟨fun h => h.elim, rfl⟩ | skip
          exact .inl ⟨_, _, _, rfl, ovl_some hl⟩
        | none =>
          rw [ovl_none hq, sOff_a] at hc
          rw [hq] at hl
          have hu := u1 _ _ hc
          cases c <;> first | exact hu.elim | exact .inr ⟨fun h => h.elim, rfl⟩ | skip
          obtain ⟨_, i', b1, b3, b4⟩ := hu
          have b1 := rol0.1 b1
          obtain ⟨_, a1, a2, a3⟩ := tgt i _ (keepE i _ hm (hL _ _ b1))
          rw [b1] at a1
          injection a1 with a1
          rw [a1] at b4
          rcases b4 with b4 | b4
          · exact .inl ⟨_, _, _, rfl, (ovl_none hl).trans b4⟩
          · exact absurd b4 (mem_delsE.1 a2).2
      have closed : ∀ {k' v' : Ty} {m' : List (den B.T k' × den B.T v')}, ovl Ur (sOff true (look Ua)) (.a i) = some (.mp k' v' m') → ovl (goneM rn S.res.ents S.args.ents ++ noSlots (renM rn Ur)) (ovl ov.up M) (.a (rn i)) = some (.mp k' v' m') := fun h => by
        rcases told _ h with ⟨k', v', m', h1, h2⟩ | ⟨_, h2⟩
        · rw [h1]; exact h2
        · cases h2
      rcases hR with ⟨g0, r, es, clk, m, h1, h2, h3, h4⟩ | ⟨e, r, es, clk, hl', rl, g0, h1, h2, h3⟩
      · exact .inl ⟨g0, r, es, clk, m, hr _ _ h1, h2, closed h3, h4⟩
      · rcases h3 with ⟨m, h3, h4⟩ | ⟨m, key, pd, h3, h4⟩
        · exact .inr ⟨e, r, es, clk, hl', rl, g0, hr _ _ h1, h2, .inl ⟨m, closed h3, rowm_same (fun _ _ h => by cases h) h4⟩⟩
        · rcases told _ h3 with ⟨_, _, _, h5, _⟩ | ⟨h5, _⟩
          · cases h5
          · exact absurd trivial h5
    | blk t n =>
      obtain ⟨b, vals, h1, h2, h3, h4, h5⟩ := hR
      refine ⟨b, vals, hr _ _ h1, h2, h3, ?_, fun j v hv => ?_⟩
      · have hl := lk2 i hid hK (.b i) (.inr (.inl rfl))
        cases hq : look Ur (.b i) with
        | some q =>
          rw [ovl_some hq] at h4
          injection h4 with h4
          subst h4
          rw [hq] at hl
          exact ovl_some hl
        | none =>
          rw [ovl_none hq, sOff_b] at h4
          rw [hq] at hl
          obtain ⟨_, i', b1, b3, b4⟩ := u1 _ _ h4
          have b1 := rol0.1 b1
          obtain ⟨_, a1, a2, a3⟩ := tgt i _ (keepE i _ hm (hL _ _ b1))
          rw [b1] at a1
          injection a1 with a1
          rw [a1] at b4
          rcases b4 with b4 | b4
          · exact (ovl_none hl).trans b4
          · exact absurd b4 (mem_delsE.1 a2).2
      · obtain ⟨k1, c, k2, k3⟩ := h5 j v hv
        have hl := lk2 i hid hK (.c i j) (.inr (.inr ⟨j, rfl⟩))
        refine ⟨k1, ?_⟩
        cases hq : look Ur (.c i j) with
        | some q =>
          rw [ovl_some hq] at k2
          injection k2 with k2
          subst k2
          rw [hq] at hl
          exact ⟨_, ovl_some hl, k3.ren hr⟩
        | none =>
          have hj : j < n := by rw [← h3]; exact (List.getElem?_eq_some_iff.1 hv).1
          rw [ovl_none hq, sOff_c] at k2
          obtain ⟨_, _, i', b', vals', t', v', b1, _⟩ := u1 _ _ k2
          have b1 := rol0.1 b1
          have hlt := hL _ _ b1
          rcases tK i _ hm with hge | ⟨hE0, hw⟩
          · omega
          · rcases hw j hj with hw | hw
            · exact absurd hq (keyR _ hw)
            ·
              rw [hq] at hl
              obtain ⟨x, hx, i2, b2, vals2, t2', v2, c1, c2, c3, c4, c5⟩ := u1 _ _ k2
              injection hx with hx
              subst hx
              have hsc := scal i j _ k2 hw
              obtain rfl : v = v2 := scal_same hsc (Rz.le_trans g2 g7.sub) k3 c5
              obtain ⟨_, a1, a2, _⟩ := tgt i _ hE0
              have c1 := rol0.1 c1
              rw [a1] at c1
              injection c1 with c1
              subst c1
              obtain ⟨E1, L1, d1, d2, d3, d4⟩ := s1.sim.ents
              obtain ⟨A0, L2, hr0, _, hw0⟩ := Ents.take (P := []) d1 ((d2 _).2 a2) d3 d4
              obtain ⟨b3, vals3, e1, rfl, e3, e4, e5⟩ := hr0
              rw [c2] at e1
              injection e1 with e1
              injection e1 with e1
              subst e1
              have hb3 := wd_blk 0 hw0 rfl
              rw [c3] at hb3
              injection hb3 with hb3
              injection hb3 with hb3
              have hv3 : vals3 = vals2 := by
                have := congrArg Array.toList hb3
                simpa using this.symm
              rw [← hv3] at c4
              obtain ⟨_, c0, f1', f2'⟩ := e5 j _ c4
              exact ⟨c0, (ovl_none hl).trans f1', f2'.mono g7.le le1⟩
  have excl : ∀ i h, (i, h) ∈ Er → ∀ i' h', (i', h') ∈ S.args.ents → rn i' ≠ i := fun i h hm i' h' hm' e => ((g6 _).1 hm).2 i' h' hm' (by rw [(tgt i' h' hm').2.1, e])
  have sEr : ∀ i h, (i, h) ∈ Er → σ1 i ≠ none := fun i h hm => Ents.isS g4 i h hm
  have notup : ∀ i h, (i, h) ∈ Er → ∀ l, (l = .a i ∨ l = .b i ∨ ∃ j, l = .c i j) → look (goneM rn S.res.ents S.args.ents ++ noSlots (renM rn Ur)) l = none := fun i h hm l hl => by
    cases hq : look (goneM rn S.res.ents S.args.ents ++ noSlots (renM rn Ur)) l with
    | none => rfl
    | some c =>
      exfalso
      rcases lk1 l c hq with ⟨_, i', h', m1, m2, m3⟩ | ⟨_, l0, c0, m1, m2, m3⟩
      · have := excl i h hm i' h' m1
        rcases hl with rfl | rfl | ⟨j, rfl⟩ <;> cases h' <;> simp only [keyE] at m3 <;> first | (injection m3 with m3; exact this m3.symm) | cases m3
      · have a1 := (fitR l0 c0 (look_mem m1)).1
        have a2 := tL _ a1
        have a3 := tH _ a1
        have fin : ∀ i0, i0 < S.res.nx → (S.args.nx ≤ i0 ∨ ∃ h, (i0, h) ∈ S.args.ents) → rn i0 = i → False := fun i0 b1 b2 b3 => by
          rcases b2 with b2 | ⟨h0, b2⟩
          · exact sEr i h hm (by rw [← b3]; exact rgen i0 b2 (by omega))
          · exact excl i h hm i0 h0 b2 b3
        rcases hl with rfl | rfl | ⟨j, rfl⟩ <;> cases l0 <;> simp only [Loc.ren] at m2 <;> first | (injection m2 with m2; exact fin _ a2 a3 m2) | (injection m2 with m2 _; exact fin _ a2 a3 m2) | cases m2
  obtain ⟨E1r, L1r, k1, k2, k3, k4⟩ := g7.ents
  refine s1.sim.updS g7.le le1 (fun i hi => ?_) (fun l c h => ?_) (fun i h hm => ?_) ⟨E1r.map (fun y => (rn y.1, y.2)) ++ Er, L1r ++ Lr, once_app (once_map k1 fun i h i' h' a b e => inj i i' (lowE i h ((k2 _).1 a)) (lowE i' h' ((k2 _).1 b)) e) g5 (fun i h h' hm hm' => ?_), fun x => ?_,
    Ents.app (Ents.map (fun i h A hm => entR i h A ((k2 _).1 hm)) k3) (Ents.mono g7.le le1 (fun i h hm => ?_) g4), by rw [List.append_assoc]; exact k4⟩
  · rw [hσ, if_neg]
    · exact s1.sim.fresh i fun h => hi (h.elim .inl fun h => .inr ⟨h.1, by omega⟩)
    · rintro ⟨h1, h2⟩
      exact hi (.inr ⟨by omega, by omega⟩)
  · rcases lk1 l c h with ⟨rfl, i, k, _, _, rfl⟩ | ⟨hn, l0, c0, m1, rfl, rfl⟩
    · cases k <;> exact trivial
    · have hf := (fitR l0 c0 (look_mem m1)).2
      have m2 : ovl Ur (sOff true (look Ua)) l0 = some c0 := ovl_some m1
      cases l0 <;> cases c0 <;> first | exact hf.elim | exact absurd rfl (hn _) | exact trivial | skip
      · exact (mem' _).2 (.inl ⟨_, _, g7.arrs _ _ _ _ _ m2, rfl⟩)
      · obtain ⟨A, n, c, x1, x2⟩ := g7.fzs _ _ _ _ m2; exact ⟨A, n, c, hr _ _ x1, x2⟩
      · exact (mem' _).2 (.inl ⟨_, _, g7.grds _ _ _ _ _ _ _ m2, rfl⟩)
      · exact (mem' _).2 (.inl ⟨_, _, g7.mps _ _ _ _ m2, rfl⟩)
      · exact (mem' _).2 (.inl ⟨_, _, g7.blks _ _ _ m2, rfl⟩)
      · obtain ⟨vals, v, x1, x2, x3⟩ := g7.clos _ _ _ m2; exact ⟨vals, v, hr _ _ x1, x2, x3.ren hr⟩
  · by_cases hg : i ∈ goneEnts rn S.res.ents S.args.ents
    · right
      obtain ⟨i', h', m1, m2, rfl⟩ := mem_goneEnts.1 hg
      have := only_one s1.sim hm (tgt i' h' m1).2.2.1
      subst this
      exact look_app_ne (.inl (goneM_look m1 m2))
    · left
      have := mem_delsE.1 hm
      refine mem_delsE.2 ⟨?_, fun hx => (List.mem_append.1 hx).elim hg this.2⟩
      rw [List.append_assoc]
      exact List.mem_append.2 (.inr this.1)
  · obtain ⟨⟨i0, h0⟩, m1, m2⟩ := List.mem_map.1 hm
    injection m2 with m2 m3
    have m1 := (k2 _).1 m1
    rcases Nat.lt_or_ge i0 S.args.nx with h3 | h3
    · exact excl i h' hm' i0 h0 (keepE i0 h0 m1 h3) m2
    · exact sEr i h' hm' (by rw [← m2]; exact rgen i0 h3 (lowE i0 h0 m1))
  · rw [mem', List.mem_append, List.mem_map]
    constructor
    · rintro (⟨⟨i, h⟩, m1, rfl⟩ | h)
      · exact .inl ⟨i, h, (k2 _).1 m1, rfl⟩
      · exact .inr h
    · rintro (⟨i, h, m1, rfl⟩ | h)
      · exact .inl ⟨(i, h), (k2 _).2 m1, rfl⟩
      · exact .inr h
  · cases h with
    | arr e => exact notup i _ hm _ (.inl rfl)
    | grid e => exact notup i _ hm _ (.inl rfl)
    | mp _ _ => exact notup i _ hm _ (.inl rfl)
    | blk t n => exact ⟨notup i _ hm _ (.inr (.inl rfl)), fun j => notup i _ hm _ (.inr (.inr ⟨j, rfl⟩))⟩
end
end Hd
set_option linter.unusedVariables false
set_option linter.unusedSimpArgs false
namespace Hd
open Go Hk
section
variable {B : Tab} {P : Program} {M : Loc → Option (Con B)} {G w : World} {L0 : List HProp} {f0 f f' : HP} {σ0 σ σ' : Rz B} {E E0 : List (Nat × EH)} {N : Nat → Prop} {ρ : Env}
variable {base lim : Nat} {rs : List Loc}
theorem resV_ok {m : Mem B} {ρ' : Env} (h : ∀ t d, look m (.s t) = some (.v d) → DRel f σ d (ρ' t)) : ∀ {ts : List Nat} {l : List (Bool × List (Cel B))}, resV m ts = some l → TRels f σ l (ts.map ρ') ∧ l.length = ts.length ∧ ∀ x, x ∈ l → x.1 = false → ∃ c, x.2 = [c]
  | [], l, hl => by injection hl with hl; subst hl; exact ⟨trivial, rfl, fun x hx => by simp at hx⟩
  | t :: ts, l, hl => by
    unfold resV at hl
    split at hl <;> try contradiction
    · rename_i c hc
      split at hl <;> try contradiction
      rename_i l' hl'
      injection hl with hl
      subst hl
      obtain ⟨h1, h2, h3⟩ := resV_ok h hl'
      exact ⟨⟨⟨[ρ' t], ⟨h t _ hc, trivial⟩, rfl, fun _ => rfl⟩, h1⟩, by simp [h2], fun x hx => (List.mem_cons.1 hx).elim (fun e _ => by subst e; exact ⟨c, rfl⟩) (h3 x)⟩
    · rename_i cs hc
      split at hl <;> try contradiction
      rename_i l' hl'
      injection hl with hl
      subst hl
      obtain ⟨h1, h2, h3⟩ := resV_ok h hl'
      obtain ⟨us, e, h4⟩ := h t _ hc
      exact ⟨⟨⟨us, h4, e, fun q => by cases q⟩, h1⟩, by simp [h2], fun x hx => (List.mem_cons.1 hx).elim (fun e q => by subst e; cases q) (h3 x)⟩
theorem res_rel {ρ' : Env} : ∀ {ts : List Nat} {l : List (Bool × List (Cel B))}, TRels f σ l (ts.map ρ') → l.length = ts.length → (∀ x, x ∈ l → x.1 = false → ∃ c, x.2 = [c]) →
    DRel f σ (match l with | [(false, [c])] => .one c | [(true, cs)] => .agg cs | l => .tup l) (RtV ρ' ts)
  | [], [], _, _, _ => ⟨[], rfl, trivial⟩
  | [t], [(false, cs)], ⟨⟨us, h1, h2, h3⟩, _⟩, _, ho => by
    obtain ⟨c, hc⟩ := ho (false, cs) (by simp) rfl
    simp only at hc
    subst hc
    have hu := h3 rfl
    match us, hu with
    | [u], _ =>
      show CRel f σ c (ρ' t)
      rw [show ρ' t = u from h2]
      exact h1.1
  | [t], [(true, cs)], ⟨⟨us, h1, h2, h3⟩, _⟩, _, _ => ⟨us, h2, h1⟩
  | t :: u :: ts, x :: y :: l, h, _, _ => by
    have : (match x :: y :: l with | [(false, [c])] => DV.one c | [(true, cs)] => .agg cs | l => .tup l) = .tup (x :: y :: l) := by
      obtain ⟨g, cs⟩ := x
      cases g
      · rcases cs with _ | ⟨c, _ | ⟨c2, r⟩⟩ <;> rfl
      · rfl
    rw [this]
    exact ⟨(t :: u :: ts).map ρ', rfl, h⟩
theorem scalC_rel {f g : HP} {σ τ : Rz B} : ∀ {cs : List (Cel B)} {vs : List Value}, scalC cs = true → CRels f σ cs vs → CRels g τ cs vs
  | [], [], _, _ => trivial
  | c :: cs, v :: vs, h, ⟨h1, h2⟩ => by
    cases c <;> simp only [scalC] at h <;> first | exact ⟨h1, scalC_rel h h2⟩ | cases h
  | [], _ :: _, _, h => h.elim
  | _ :: _, [], _, h => h.elim
theorem scalT_rel {f g : HP} {σ τ : Rz B} : ∀ {l : List (Bool × List (Cel B))} {vs : List Value}, scalT l = true → TRels f σ l vs → TRels g τ l vs
  | [], [], _, _ => trivial
  | (b, cs) :: r, v :: vs, h, ⟨⟨us, h1, h2, h3⟩, h4⟩ => by
    simp only [scalT, Bool.and_eq_true] at h
    exact ⟨⟨us, scalC_rel h.1 h1, h2, h3⟩, scalT_rel h.2 h4⟩
  | [], _ :: _, _, h => h.elim
  | _ :: _, [], _, h => h.elim
theorem tupD_eq : ∀ l : List (Bool × List (Cel B)), tupD l = (match l with | [(false, [c])] => .one c | [(true, cs)] => .agg cs | l => .tup l)
  | [] => rfl
  | [(false, [])] => rfl
  | [(false, [_])] => rfl
  | [(false, _ :: _ :: _)] => rfl
  | [(true, _)] => rfl
  | (false, []) :: _ :: _ => rfl
  | (false, [_]) :: _ :: _ => rfl
  | (false, _ :: _ :: _) :: _ :: _ => rfl
  | (true, _) :: _ :: _ => rfl
theorem noEnts_nil : ∀ {l : List (Nat × EH)}, noEnts l = true → l = []
  | [], _ => rfl
theorem lend_call {S : Spec B} (hS : S.Holds P) (hs : SimF G L0 f0 σ0 M E N f σ ρ w) {L1 : List HProp} {f1 : HP} {σc : Rz B} {t : TplT B S.args} {r : TplT B S.res} {args : Array Value}
    (g3 : SimF G L1 f1 σc (look (unM S.args t)) S.args.ents (fun i => i < S.args.nx + S.args.items.length) f1 σc (fun t => args.getD t undef) w) (he : S.args.ents = []) (hr : S.fn t = some r) (hz : args.size = slotsN S.args.items) :
    Calls P S.fid args w (Returns fun v w' => ∃ f' σ' ρ', v = RtV ρ' S.rts ∧ (∀ t d, look (unM S.res r) (.s t) = some (.v d) → DRel f' σ' d (ρ' t)) ∧ SimF G L0 f0 σ0 M E N f σ ρ w') := by
  obtain ⟨E1, K1, k1, k2, k3, k4⟩ := g3.ents
  have hle : HP.le f1 (wh w) := k4.fro
  have hE1 : E1 = [] := by
    cases E1 with
    | nil => rfl
    | cons x l => have := (k2 x).1 (by simp); rw [he] at this; simp at this
  subst hE1
  have g3' : SimF G [] (wh w) σc (look (unM S.args t)) S.args.ents (fun i => i < S.args.nx + S.args.items.length) (wh w) σc (fun t => args.getD t undef) w :=
    { gl := B.gmono _ _ hle g3.gl, le := HP.le_refl _, sub := Rz.le_refl _, fresh := g3.fresh
      slots := fun t => (g3.slots t).mono hle (Rz.le_refl _)
      fzs := fun i e xs nn h => by obtain ⟨A, n, c, a1, a2, a3⟩ := g3.fzs i e xs nn h; exact ⟨A, n, c, a1, a2.mono hle, a3⟩
      fzbs := fun i e x h => by obtain ⟨b, ds, ty, fr, a1, a2, a3⟩ := g3.fzbs i e x h; exact ⟨b, ds, ty, fr, a1, hle _ _ a2, (relB B e).mono hle a3⟩
      clos := fun c j x h => by obtain ⟨vals, v, a1, a2, a3⟩ := g3.clos c j x h; exact ⟨vals, v, a1, a2, a3.mono hle (Rz.le_refl _)⟩
      arrs := g3.arrs, grds := g3.grds, mps := g3.mps, mphs := g3.mphs, blks := g3.blks
      ents := ⟨[], [], k1, k2, trivial, ⟨k4.os, k4.tape, k4.output, HP.le_refl _, trivial⟩⟩ }
  refine (hS G w [] (wh w) σc t r args hr hz g3').mono fun e w' hR => ?_
  obtain ⟨v, hv0, f', σ', ρ', hv, g7⟩ := hR
  refine ⟨v, hv0, f', σ', ρ', hv, fun t d ht => ?_, ?_⟩
  · have h1 := g7.slots t
    rw [ovl_some ht] at h1
    exact h1
  · obtain ⟨E2, K2, m1, m2, m3, m4⟩ := g7.ents
    have hw : HP.le (wh w) (wh w') := HP.le_trans g7.le m4.fro
    obtain ⟨E3, K3, n1, n2, n3, n4⟩ := hs.ents
    refine { hs with ents := ⟨E3, K3, n1, n2, n3, ⟨m4.os, m4.tape, m4.output, HP.le_trans n4.fro hw, ?_⟩⟩ }
    refine n4.sep.keep fun b _ hn => ?_
    cases hb : wh w b with
    | none => exact absurd hb hn
    | some o => exact hw b o hb
theorem flat_rel : ∀ (d : Nat) (t : Ty), flatL B d t = true → ∀ {f g : HP} {cs : List Value} {x : den B.T t}, (relB B t).p f cs x → (relB B t).p g cs x
  | _, .int _, _, _, _, _, _, h => h
  | _, .bool, _, _, _, _, _, h => h
  | _, .str, _, _, _, _, _, h => h
  | d + 1, .st i, hf, f, g, cs, x, h => by
    have key : ∀ l : List Ty, flatL.flatLs (flatL B d) l = true → ∀ {f g : HP} {cs : List Value} {x : Tup B.T l}, (fTup B.R l).p f cs x → (fTup B.R l).p g cs x := by
      intro l
      induction l with
      | nil => intro _ f g cs x h; exact h
      | cons t l ih =>
        intro hl f g cs x h
        unfold flatL.flatLs at hl
        cases ht : flatL B d t with
        | false => rw [ht] at hl; cases hl
        | true =>
          rw [ht] at hl
          cases l with
          | nil => exact flat_rel d t ht h
          | cons u l =>
            obtain ⟨c1, c2, e, h1, h2⟩ := h
            exact ⟨c1, c2, e, flat_rel d t ht h1, ih hl h2⟩
    exact (B.ok i g cs x).2 (key _ (by simpa only [flatL] using hf) ((B.ok i f cs x).1 h))
  | 0, .st _, hf, _, _, _, _, _ => by simp [flatL] at hf
  | _, .sl _, hf, _, _, _, _, _ => by simp [flatL] at hf
  | _, .nsl _, hf, _, _, _, _, _ => by simp [flatL] at hf
  | _, .opt _, hf, _, _, _, _, _ => by simp [flatL] at hf
  | _, .ap _, hf, _, _, _, _, _ => by simp [flatL] at hf
  | _, .kv _ _, hf, _, _, _, _, _ => by simp [flatL] at hf
theorem lendA_call {S : Spec B} (hS : S.Holds P) (hs : SimF G L0 f0 σ0 M E N f σ ρ w) (hb : ∀ j, base ≤ j → j < base + stepV → ¬ N j) {L1 : List HProp} {f1 : HP} {σc : Rz B} {t : TplT B S.args} {r : TplT B S.res} {args : Array Value}
    (g3 : SimF G L1 f1 σc (look (unM S.args t)) S.args.ents (fun i => i < S.args.nx + S.args.items.length) f1 σc (fun t => args.getD t undef) w) (hl : lendsA S = true) (hr : S.fn t = some r) (hz : args.size = slotsN S.args.items)
    {x : (e : Ty) × List (den B.T e) × Nat} (hx : freshA S.res.items (toHL _ r) = some x) :
    Calls P S.fid args w (Returns fun v w' => Goal G L0 f0 σ0 M E N base f σ ρ ⟨some (.one (.own base)), [(.a base, .arr x.1 x.2.1 (base + 1) x.2.2)], [(base, .arr x.1)], []⟩ (some v) w') := by
  unfold lendsA at hl
  simp only [Bool.and_eq_true] at hl
  have he := noEnts_nil hl.1
  have hl := hl.2
  obtain ⟨E1, K1, k1, k2, k3, k4⟩ := g3.ents
  have hle : HP.le f1 (wh w) := k4.fro
  have hE1 : E1 = [] := by
    cases E1 with
    | nil => rfl
    | cons x l => have := (k2 x).1 (by simp); rw [he] at this; simp at this
  subst hE1
  have g3' : SimF G [] (wh w) σc (look (unM S.args t)) S.args.ents (fun i => i < S.args.nx + S.args.items.length) (wh w) σc (fun t => args.getD t undef) w :=
    { gl := B.gmono _ _ hle g3.gl, le := HP.le_refl _, sub := Rz.le_refl _, fresh := g3.fresh
      slots := fun t => (g3.slots t).mono hle (Rz.le_refl _)
      fzs := fun i e xs nn h => by obtain ⟨A, n, c, a1, a2, a3⟩ := g3.fzs i e xs nn h; exact ⟨A, n, c, a1, a2.mono hle, a3⟩
      fzbs := fun i e x h => by obtain ⟨b, ds, ty, fr, a1, a2, a3⟩ := g3.fzbs i e x h; exact ⟨b, ds, ty, fr, a1, hle _ _ a2, (relB B e).mono hle a3⟩
      clos := fun c j x h => by obtain ⟨vals, v, a1, a2, a3⟩ := g3.clos c j x h; exact ⟨vals, v, a1, a2, a3.mono hle (Rz.le_refl _)⟩
      arrs := g3.arrs, grds := g3.grds, mps := g3.mps, mphs := g3.mphs, blks := g3.blks
      ents := ⟨[], [], k1, k2, trivial, ⟨k4.os, k4.tape, k4.output, HP.le_refl _, trivial⟩⟩ }
  refine (hS G w [] (wh w) σc t r args hr hz g3').mono fun e w' hR => ?_
  obtain ⟨v, hv0, f', σ', ρ', hv, g7⟩ := hR
  refine ⟨v, hv0, ?_⟩
  clear hv0 g3 g3' k3 k1 k2 hr hS
  obtain ⟨fid, args0, res, rts, fn⟩ := S
  obtain ⟨items, ents, nx⟩ := res
  dsimp only at *
  split at hl <;> try contradiction
  rename_i t1 i e0 i' e nn t' j e' _
  simp only [Bool.and_eq_true] at hl
  obtain ⟨⟨⟨⟨h1, h2⟩, h3⟩, hee⟩, hfl⟩ := hl
  obtain rfl := Nat.eq_of_beq_eq_true h1
  obtain rfl := Nat.eq_of_beq_eq_true h2
  obtain rfl := Nat.eq_of_beq_eq_true h3
  obtain rfl := Ty.eqb_eq hee
  simp only [freshA, Option.some.injEq] at hx
  subst hx
  obtain ⟨E2, K2, m1, m2, m3, m4⟩ := g7.ents
  have hw : HP.le (wh w) (wh w') := HP.le_trans g7.le m4.fro
  match E2, K2, m1, m2, m3, m4 with
  | [], _, _, m2, _, _ => exact absurd ((m2 (i, .arr e)).2 (by simp)) (by simp)
  | [x], [A], _, m2, m3, m4 =>
    have hxe : x = (i, .arr e) := by have := (m2 x).1 (by simp); simpa using this
    subst hxe
    obtain ⟨⟨H, n, c, cur, xs, s, nn', a1, rfl, a3, a4, a5, a6, a7⟩, _⟩ := m3
    rw [ovl_some (show look (unM _ r) (.a i) = some (.arr e (toHL _ r).1 (nx + 1) nn) from ?_)] at a3
    · cases a3
      have hsl := g7.slots t1
      rw [ovl_some (show look (unM _ r) (.s t1) = some (.v (.one (.own i))) from ?_)] at hsl
      · obtain ⟨H2, n2, c2, b1, b2⟩ := hsl
        rw [a1] at b1
        injection b1 with b1
        injection b1 with z1 z2 z3
        subst z1 z2 z3
        have hv : v = .slice H n c := hv.trans b2
        subst hv
        obtain ⟨E3, K3, n1, n2, n3, n4⟩ := hs.ents
        have hf : HP.le f f' := HP.le_trans n4.fro g7.le
        refine build_arr hs hb (upr := []) (del := []) (fun l q h => by simp [look] at h) (fun i h => by simp at h) n1 (fun x => by simp [n2]) n3 (cur := cur) ⟨m4.os, m4.tape, m4.output, HP.le_trans n4.fro hw, ?_⟩
          ⟨a5.len, a5.le, a5.max, a5.or, fun i x hx => let ⟨es, y1, y2⟩ := a5.get i x hx; ⟨es, y1, flat_rel 8 e hfl y2⟩⟩ a6 a7
        obtain ⟨S, u1, u2, _⟩ := m4.sep
        have hS : ∀ b, S b → wh w b = none := fun b hb' => by
          cases hq : wh w b with
          | none => rfl
          | some o => have := g7.le b o hq; rw [(u2 b hb').1] at this; cases this
        refine ⟨S, u1, fun b hb' => ⟨?_, (u2 b hb').2⟩, n4.sep.keep' (fun b _ hn => ?_) (fun b h1 h2 => ⟨h1, fun hb' => h2 (hS b hb')⟩)⟩
        · cases hq : f b with
          | none => exact hq
          | some o => have := n4.fro b o hq; rw [hS b hb'] at this; cases this
        · cases hq : wh w b with
          | none => exact absurd hq hn
          | some o => exact hw b o hq
      · simp [unM, unItems, unItem, unV, unSh, look, Loc.beq]
    · simp [unM, unItems, unItem, unV, unSh, look, Loc.beq]
      rfl
  | [_], [], _, _, m3, _ => exact m3.elim
  | [_], _ :: _ :: _, _, _, m3, _ => exact m3.2.elim
  | x :: y :: l, _, m1, m2, _, _ =>
    have h1 := (m2 x).1 (by simp)
    have h2 := (m2 y).1 (by simp)
    simp only [List.mem_singleton] at h1 h2
    subst h1 h2
    exact absurd m1 (by simp [Once])
theorem callProg_does {S : Spec B} (hS : S.Holds P) (hs : SimF G L0 f0 σ0 M E N f σ ρ w) (hb : ∀ j, base ≤ j → j < base + stepV → ¬ N j) {ds : List (DV B)} {args : Array Value}
    (ha : ∀ i d, nthL ds i = some d → DRel f σ d (args.getD i undef)) (hz : args.size = ds.length) {out : Out B} (h : (callProg S base ds).Ran M out rs) :
    Calls P S.fid args w (Returns fun v w' => Goal G L0 f0 σ0 M E N base f σ ρ out (some v) w') := by
  unfold callProg at h
  have st : Stage G L0 f0 σ0 M E N base f σ ρ w ⟨[], [], [], base, []⟩ := ⟨simO_nil (hs.same fun i h => .inl h), fun e e' j h => (by cases h), Nat.le_refl _, fun i h => (by simp at h), fun e j h => (by cases h)⟩
  obtain ⟨p, ov, f1, σ1, rs1, s1, x1, h1, hi⟩ := mItems_stage (sv := fun t => args.getD t undef) hb st (fun t k rs hk => by
    cases hd : nthL ds t with
    | none => rw [hd] at hk; exact hk.elim
    | some d => rw [hd] at hk; exact ⟨d, rs, ha t d hd, hk⟩) h
  clear h
  obtain ⟨hq, h2⟩ := chk_ran h1
  simp only [Bool.and_eq_true] at hq
  obtain ⟨⟨⟨⟨q1, q2⟩, q3⟩, q4⟩, q5⟩ := hq
  have hz : args.size = slotsN S.args.items := hz.trans (lenIs_spec q5)
  obtain ⟨r, hr, h3⟩ := bind_ran h2
  clear h2
  have t1 : tplOk [] S.args = true := by
    have := q1
    unfold Spec.ok at this
    simp only [Bool.and_eq_true] at this
    exact this.1.1.1.1.1
  cases hlend : lends S with
  | true =>
    rw [hlend] at h3
    obtain ⟨l, hl2, h5⟩ := opt_ran h3
    obtain ⟨hsc, h6⟩ := chk_ran h5
    have ho := ret_ran h6
    unfold lends at hlend
    simp only [Bool.and_eq_true] at hlend
    have he := noEnts_nil hlend.1.1
    obtain ⟨cE, σc, Er, Lr, g2, g3, g4, g5, g6⟩ := handed s1 hi t1 (rolesLow_spec q2) q4
    have hu : unM S.args (ofHL _ p) = unItems (fun e => e) S.args.nx S.args.items p := by unfold unM; rw [toHL_ofHL]
    rw [← hu] at g3
    refine (lend_call hS hs g3 he hr hz).mono fun e w' hR => ?_
    obtain ⟨v, hv0, f', σ', ρ', hv, hsl, hs'⟩ := hR
    refine ⟨v, hv0, ?_⟩
    subst ho
    refine ⟨f, σ, HP.le_refl _, Rz.le_refl _, ?_, ?_⟩
    · exact hs'.same fun i h => .inl h
    · obtain ⟨e1, e2, e3⟩ := resV_ok (f := f') (σ := σ') (ρ' := ρ') hsl hl2
      subst hv
      have := res_rel (scalT_rel (g := f) (τ := σ) hsc e1) e2 e3
      rw [← tupD_eq] at this
      exact this
  | false =>
  rw [hlend] at h3
  cases hla : lendsA S with
  | true =>
    rw [hla] at h3
    obtain ⟨x, hx, h5⟩ := opt_ran h3
    have ho := ret_ran h5
    obtain ⟨cE, σc, Er, Lr, g2, g3, g4, g5, g6⟩ := handed s1 hi t1 (rolesLow_spec q2) q4
    have hu : unM S.args (ofHL _ p) = unItems (fun e => e) S.args.nx S.args.items p := by unfold unM; rw [toHL_ofHL]
    rw [← hu] at g3
    subst ho
    exact lendA_call hS hs hb g3 hla hr hz hx
  | false =>
  rw [hla] at h3
  obtain ⟨hl, h4⟩ := chk_ran h3
  obtain ⟨l, hl2, h5⟩ := opt_ran h4
  have ho := ret_ran h5
  obtain ⟨cE, σc, Er, Lr, g2, g3, g4, g5, g6⟩ := handed s1 hi t1 (rolesLow_spec q2) q4
  have t5 : S.args.nx ≤ S.res.nx := by
    have := q1
    unfold Spec.ok at this
    simp only [Bool.and_eq_true] at this
    exact Nat.le_of_ble_eq_true this.1.2
  have hu : unM S.args (ofHL _ p) = unItems (fun e => e) S.args.nx S.args.items p := by unfold unM; rw [toHL_ofHL]
  rw [← hu] at g3
  refine (hS G w (Lr ++ L0) f1 σc (ofHL _ p) r args hr hz g3).mono fun e w' hR => ?_
  obtain ⟨v, he, f', σ', ρ', hv, g7⟩ := hR
  refine ⟨v, he, ?_⟩
  obtain ⟨σ'', c1, c2, c3⟩ := returned s1 hb hi q1 (rolesLow_spec q2) (allIn_spec q3) cE g2 g4 g5 g6 (Nat.le_of_ble_eq_true hl) g7 rfl
  have hm : unItems (rnOf ov.mu S.args.nx ov.nx) (ov.nx + (S.res.nx - S.args.nx)) S.res.items (toHL _ r) = renM (rnOf ov.mu S.args.nx ov.nx) (unM S.res r) :=
    unItems_ren (q := S.res.nx) fun k hk => by rw [rnOf_ge (by omega)]; omega
  subst ho
  refine ⟨f', σ'', HP.le_trans x1.le g7.le, Rz.le_trans x1.sub c1, ?_, ?_⟩
  · rw [← hm] at c3; exact c3
  · have hl3 : resV (renM (rnOf ov.mu S.args.nx ov.nx) (unM S.res r)) S.rts = some l := by rw [← hm]; exact hl2
    obtain ⟨e1, e2, e3⟩ := resV_ok (f := f') (σ := σ'') (ρ' := ρ') (fun t d ht => by
      obtain ⟨l0, c0, m1, m2, m3⟩ := look_ren_some ht
      cases l0 <;> simp only [Loc.ren] at m2 <;> try cases m2
      have h1 := g7.slots t
      rw [ovl_some m1] at h1
      cases c0 <;> simp only [Con.ren] at m3 <;> try cases m3
      exact DRel.ren c2 h1) hl3
    subst hv
    exact res_rel e1 e2 e3
end
end Hd
