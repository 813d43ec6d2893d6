/- Owned arrays of owned rows. -/
import Derived.Test.YtoamdmkakblnnaaDoorK3
import Derived.MapKept
import Derived.Laws.StructEq
set_option linter.unusedVariables false
set_option linter.unusedSimpArgs false
namespace Hk
open Go
abbrev Hdr : Type := Option Addr × Nat × Nat
def fHdr : FRel Hdr := ⟨1, fun _ cs x => cs = [.slice x.1 x.2.1 x.2.2], fun h => by subst h; rfl, fun h => by subst h; simp [Value.oneCell'], fun _ h => h⟩
def RowsH (hs : List Hdr) (rs : List (Option (Array Value))) : HProp :=
  ⟨fun f h S => ∃ F : Nat → Foot, (∀ i b, F i b → S b) ∧ (∀ i j b, i ≠ j → F i b → ¬ F j b) ∧ ∀ (i : Nat) hd r, hs[i]? = some hd → rs[i]? = some (some r) → (Arr hd.1 hd.2.2 r).p f h (F i),
   fun ⟨F, h1, h2, h3⟩ hg => ⟨F, h1, h2, fun i hd r hi hr => (Arr hd.1 hd.2.2 r).loc (h3 i hd r hi hr) (fun b hb => hg b (h1 i b hb))⟩,
   fun hl ⟨F, h1, h2, h3⟩ => ⟨F, h1, h2, fun i hd r hi hr => (Arr hd.1 hd.2.2 r).mono hl (h3 i hd r hi hr)⟩⟩
def GridH (A : Option Addr) (c : Nat) (cur : Array Value) (hs : List Hdr) (rs : List (Option (Array Value))) : HProp :=
  ⟨fun f h S => ∃ S0 S1 : Foot, (Arr A c cur).p f h S0 ∧ (RowsH hs rs).p f h S1 ∧ (∀ b, S0 b → S b) ∧ (∀ b, S1 b → S b) ∧ ∀ b, S0 b → ¬ S1 b,
   fun ⟨S0, S1, h1, h2, h3, h4, h5⟩ hg => ⟨S0, S1, (Arr A c cur).loc h1 (fun b hb => hg b (h3 b hb)), (RowsH hs rs).loc h2 (fun b hb => hg b (h4 b hb)), h3, h4, h5⟩,
   fun hl ⟨S0, S1, h1, h2, h3, h4, h5⟩ => ⟨S0, S1, (Arr A c cur).mono hl h1, (RowsH hs rs).mono hl h2, h3, h4, h5⟩⟩
structure RowsOk {α : Type} (f : HP) (E : FRel α) (hs : List Hdr) (rs : List (Option (Array Value))) (xss : List (List α)) : Prop where
  lh : hs.length = xss.length
  lr : rs.length = xss.length
  get : ∀ (i : Nat) hd r xs, hs[i]? = some hd → rs[i]? = some (some r) → xss[i]? = some xs → ArrOk f E hd.1 hd.2.1 hd.2.2 r xs
structure GridOk {α : Type} (f : HP) (E : FRel α) (A : Option Addr) (n c : Nat) (cur : Array Value) (hs : List Hdr) (rs : List (Option (Array Value))) (xss : List (List α)) (hole : Nat → Prop) : Prop where
  arr : ArrOk f fHdr A n c cur hs
  rows : RowsOk f E hs rs xss
  full : ∀ i, i < xss.length → ¬ hole i → ∃ r, rs[i]? = some (some r)
theorem GridOk.mono {α : Type} {f g : HP} {E : FRel α} {A : Option Addr} {n c : Nat} {cur : Array Value} {hs : List Hdr} {rs : List (Option (Array Value))} {xss : List (List α)} {hole : Nat → Prop} (h : GridOk f E A n c cur hs rs xss hole) (hl : HP.le f g) : GridOk g E A n c cur hs rs xss hole :=
  ⟨h.arr.mono hl, ⟨h.rows.lh, h.rows.lr, fun i hd r xs h1 h2 h3 => (h.rows.get i hd r xs h1 h2 h3).mono hl⟩, h.full⟩
def noHole : Nat → Prop := fun _ => False
section
variable {P : Program} {G w w' : World} {f : HP} {L : List HProp} {ρ : Env} {dst : Option Tmp} {ty : TypeId} {pos : String} {after : Array Edge} {guard : Option (Nat × Bool)}
variable {α : Type} {E : FRel α} {A : Option Addr} {n c : Nat} {cur : Array Value} {hs : List Hdr} {rs : List (Option (Array Value))} {xss : List (List α)} {hole : Nat → Prop}
theorem GridOk.len (h : GridOk f E A n c cur hs rs xss hole) : n = xss.length := by rw [h.arr.len, h.rows.lh]
theorem GridOk.le (h : GridOk f E A n c cur hs rs xss hole) : xss.length ≤ c := by rw [← h.rows.lh]; exact h.arr.le
theorem wd_join {X Y Z : HProp} (h : Wd G w f (X :: Y :: L)) (hst : ∀ SX SY : Foot, X.p f (wh w) SX → Y.p f (wh w) SY → (∀ b, SX b → ¬ SY b) → Z.p f (wh w) (fun b => SX b ∨ SY b)) : Wd G w f (Z :: L) := by
  obtain ⟨SX, h1, h2, SY, k1, k2, k3⟩ := h.sep
  refine ⟨h.os, h.tape, h.output, h.fro, _, hst SX SY h1 k1 (fun b hx hy => (k2 b hy).1.2 hx), fun b hb => ?_, SepL.weaken (fun b hb => ⟨hb.1.1, fun hn => hn.elim hb.1.2 hb.2⟩) k3⟩
  rcases hb with hb | hb
  · exact h2 b hb
  · exact ⟨(k2 b hb).1.1, (k2 b hb).2⟩
theorem wd_part {X Y Z : HProp} (h : Wd G w f (X :: L)) (hst : ∀ S : Foot, X.p f (wh w) S → ∃ S1 S2 : Foot, Y.p f (wh w) S1 ∧ Z.p f (wh w) S2 ∧ (∀ b, S1 b → S b) ∧ (∀ b, S2 b → S b) ∧ ∀ b, S1 b → ¬ S2 b) : Wd G w f (Y :: Z :: L) := by
  obtain ⟨S, h1, h2, h3⟩ := h.sep
  obtain ⟨S1, S2, y, z, e1, e2, e3⟩ := hst S h1
  exact ⟨h.os, h.tape, h.output, h.fro, S1, y, fun b hb => h2 b (e1 b hb), S2, z, fun b hb => ⟨⟨(h2 b (e2 b hb)).1, fun hn => e3 b hn hb⟩, (h2 b (e2 b hb)).2⟩,
    SepL.weaken (fun b hb => ⟨⟨hb.1, fun hn => hb.2 (e1 b hn)⟩, fun hn => hb.2 (e2 b hn)⟩) h3⟩
theorem wd_gridOpen (h : Wd G w f (GridH A c cur hs rs :: L)) : Wd G w f (Arr A c cur :: RowsH hs rs :: L) :=
  wd_part h fun S ⟨S0, S1, h1, h2, h3, h4, h5⟩ => ⟨S0, S1, h1, h2, h3, h4, h5⟩
theorem wd_gridShut (h : Wd G w f (Arr A c cur :: RowsH hs rs :: L)) : Wd G w f (GridH A c cur hs rs :: L) :=
  wd_join h fun SX SY h1 h2 h3 => ⟨SX, SY, h1, h2, fun b hb => .inl hb, fun b hb => .inr hb, h3⟩
theorem wd_rowsTake {k : Nat} {hd : Hdr} {r : Array Value} (hk : hs[k]? = some hd) (hr : rs[k]? = some (some r)) (h : Wd G w f (RowsH hs rs :: L)) : Wd G w f (Arr hd.1 hd.2.2 r :: RowsH hs (rs.set k none) :: L) := by
  refine wd_part h fun S ⟨F, h1, h2, h3⟩ => ⟨F k, fun b => S b ∧ ¬ F k b, h3 k hd r hk hr, ⟨fun i b => i ≠ k ∧ F i b, fun i b hb => ⟨h1 i b hb.2, h2 i k b hb.1 hb.2⟩, fun i j b hij hb hb' => h2 i j b hij hb.2 hb'.2, fun i hd' r' hi hr' => ?_⟩, fun b hb => h1 k b hb, fun b hb => hb.1, fun b hb hn => hn.2 hb⟩
  by_cases hik : i = k
  · subst hik
    rw [List.getElem?_set_self (List.getElem?_eq_some_iff.1 hr).1] at hr'
    cases hr'
  · rw [List.getElem?_set_ne (fun e => hik e.symm)] at hr'
    have := h3 i hd' r' hi hr'
    dsimp only
    rw [show (fun b => i ≠ k ∧ F i b) = F i from funext fun b => propext ⟨fun h => h.2, fun h => ⟨hik, h⟩⟩]
    exact this
theorem wd_rowsPut {k : Nat} {hd : Hdr} {r : Array Value} (hkl : k < hs.length) (hr : ∀ r', rs[k]? ≠ some (some r')) (h : Wd G w f (Arr hd.1 hd.2.2 r :: RowsH hs rs :: L)) : Wd G w f (RowsH (hs.set k hd) (rs.set k (some r)) :: L) := by
  refine wd_join h fun SX SY hx ⟨F, h1, h2, h3⟩ hdis => ⟨fun i b => if i = k then SX b else F i b, fun i b hb => ?_, fun i j b hij hb hb' => ?_, fun i hd' r' hi hr' => ?_⟩
  · dsimp only at hb
    by_cases hik : i = k
    · rw [if_pos hik] at hb; exact .inl hb
    · rw [if_neg hik] at hb; exact .inr (h1 i b hb)
  · dsimp only at hb hb'
    by_cases hik : i = k
    · rw [if_pos hik] at hb
      rw [if_neg (by omega)] at hb'
      exact hdis b hb (h1 j b hb')
    · rw [if_neg hik] at hb
      by_cases hjk : j = k
      · rw [if_pos hjk] at hb'
        exact hdis b hb' (h1 i b hb)
      · rw [if_neg hjk] at hb'
        exact h2 i j b hij hb hb'
  · by_cases hik : i = k
    · subst hik
      rw [List.getElem?_set_self hkl] at hi
      injection hi with hi; subst hi
      by_cases hrl : i < rs.length
      · rw [List.getElem?_set_self hrl] at hr'
        injection hr' with hr'; injection hr' with hr'; subst hr'
        dsimp only
        rw [show (fun b => if i = i then SX b else F i b) = SX from funext fun b => if_pos rfl]
        exact hx
      · rw [List.getElem?_eq_none (by simp; omega)] at hr'; cases hr'
    · rw [List.getElem?_set_ne (fun e => hik e.symm)] at hi hr'
      dsimp only
      rw [show (fun b => if i = k then SX b else F i b) = F i from funext fun b => if_neg hik]
      exact h3 i hd' r' hi hr'
theorem wd_rowsPush {hd : Hdr} {r : Array Value} (hl : rs.length = hs.length) (h : Wd G w f (Arr hd.1 hd.2.2 r :: RowsH hs rs :: L)) : Wd G w f (RowsH (hs ++ [hd]) (rs ++ [some r]) :: L) := by
  refine wd_join h fun SX SY hx ⟨F, h1, h2, h3⟩ hdis => ⟨fun i b => if i = hs.length then SX b else F i b, fun i b hb => ?_, fun i j b hij hb hb' => ?_, fun i hd' r' hi hr' => ?_⟩
  · dsimp only at hb
    by_cases hik : i = hs.length
    · rw [if_pos hik] at hb; exact .inl hb
    · rw [if_neg hik] at hb; exact .inr (h1 i b hb)
  · dsimp only at hb hb'
    by_cases hik : i = hs.length
    · rw [if_pos hik] at hb
      rw [if_neg (by omega)] at hb'
      exact hdis b hb (h1 j b hb')
    · rw [if_neg hik] at hb
      by_cases hjk : j = hs.length
      · rw [if_pos hjk] at hb'
        exact hdis b hb' (h1 i b hb)
      · rw [if_neg hjk] at hb'
        exact h2 i j b hij hb hb'
  · have hil := (List.getElem?_eq_some_iff.1 hi).1
    simp at hil
    by_cases hik : i = hs.length
    · subst hik
      rw [List.getElem?_append_right (Nat.le_refl _)] at hi
      simp at hi; subst hi
      rw [← hl, List.getElem?_append_right (Nat.le_refl _)] at hr'
      simp at hr'; subst hr'
      dsimp only
      rw [show (fun b => if hs.length = hs.length then SX b else F hs.length b) = SX from funext fun b => if_pos rfl]
      exact hx
    · rw [List.getElem?_append_left (by omega)] at hi hr'
      dsimp only
      rw [show (fun b => if i = hs.length then SX b else F i b) = F i from funext fun b => if_neg hik]
      exact h3 i hd' r' hi hr'
theorem wd_rowsNil {hs : List Hdr} (h : Wd G w f L) : Wd G w f (RowsH hs (hs.map fun _ => none) :: L) :=
  ⟨h.os, h.tape, h.output, h.fro, fun _ => False, ⟨fun _ _ => False, fun _ _ hf => hf, fun _ _ _ _ hf => hf.elim, fun i hd r hi hr => by
    rw [List.getElem?_map, hi] at hr; cases hr⟩, fun _ hf => hf.elim, SepL.weaken (fun _ hb => ⟨hb, fun hf => hf⟩) h.sep⟩
theorem wd_rowsZero {m : Nat} (h : Wd G w f L) : Wd G w f (RowsH (List.replicate m ((none, 0, 0) : Hdr)) (List.replicate m (some #[])) :: L) :=
  ⟨h.os, h.tape, h.output, h.fro, fun _ => False, ⟨fun _ _ => False, fun _ _ hf => hf, fun _ _ _ _ hf => hf.elim, fun i hd r hi hr => by
    have h1 := (List.getElem?_eq_some_iff.1 hi).2
    have h2 := (List.getElem?_eq_some_iff.1 hr).2
    simp at h1 h2
    subst h1 h2
    exact .inl ⟨rfl, rfl⟩⟩, fun _ hf => hf.elim, SepL.weaken (fun _ hb => ⟨hb, fun hf => hf⟩) h.sep⟩
end
end Hk
set_option linter.unusedVariables false
set_option linter.unusedSimpArgs false
namespace Hk
open Go
section
variable {P : Program} {G w w' : World} {f : HP} {L : List HProp} {ρ : Env} {dst : Option Tmp} {ty : TypeId} {pos : String} {after : Array Edge} {guard : Option (Nat × Bool)}
variable {α : Type} {E : FRel α} {A : Option Addr} {n c : Nat} {cur : Array Value} {hs : List Hdr} {rs : List (Option (Array Value))} {xss : List (List α)} {hole : Nat → Prop}
theorem set_same {β : Type} {l : List β} {i : Nat} {x : β} (h : l[i]? = some x) : l.set i x = l := by
  obtain ⟨hl, rfl⟩ := List.getElem?_eq_some_iff.1 h
  exact List.set_getElem_self hl
theorem wd_gridZero (A : Option Addr) (h : Wd G w f L) : GridOk f E A 0 0 #[] [] [] ([] : List (List α)) noHole ∧ Wd G w f (GridH A 0 #[] [] [] :: L) := by
  obtain ⟨h1, h2⟩ := wd_arrZero (E := fHdr) A (wd_rowsZero (m := 0) h)
  exact ⟨⟨h1, ⟨rfl, rfl, fun i hd r xs hi => by simp at hi⟩, fun i hi => by simp at hi⟩, wd_gridShut h2⟩
theorem wd_gridNil (h : Wd G w f L) : GridOk f E none 0 0 #[] [] [] ([] : List (List α)) noHole ∧ Wd G w f (GridH none 0 #[] [] [] :: L) := by
  obtain ⟨h1, h2⟩ := wd_arrNil (E := fHdr) (wd_rowsZero (m := 0) h)
  exact ⟨⟨h1, ⟨rfl, rfl, fun i hd r xs hi => by simp at hi⟩, fun i hi => by simp at hi⟩, wd_gridShut h2⟩
theorem grid_at {i : Int} {xs : List α} (hok : GridOk f E A n c cur hs rs xss hole) (hx : idx xss i = some xs) : ∃ b o, A = some ⟨b, o, none⟩ := by
  obtain ⟨h0, h1, h2⟩ := idx_spec hx
  rcases hok.arr.or with hc | ⟨b, o, rfl, _⟩
  · have := hok.le; omega
  · exact ⟨b, o, rfl⟩
theorem grid_el {i : Int} {xs : List α} (hok : GridOk f E A n c cur hs rs xss hole) (hx : idx xss i = some xs) (hh : ¬ hole i.toNat) :
    ∃ b o B m q r, A = some ⟨b, o, none⟩ ∧ (∀ j v, [Value.slice B m q][j]? = some v → cur[aoff A + i.toNat * 1 + j]? = some v) ∧ hs[i.toNat]? = some (B, m, q) ∧ rs[i.toNat]? = some (some r) ∧ ArrOk f E B m q r xs := by
  obtain ⟨h0, h1, h2⟩ := idx_spec hx
  obtain ⟨r, hr⟩ := hok.full _ h1 hh
  have hhl : i.toNat < hs.length := by rw [hok.rows.lh]; exact h1
  have hhd := List.getElem?_eq_getElem hhl
  generalize hs[i.toNat] = hd at hhd
  obtain ⟨B, m, q⟩ := hd
  have hidx : idx hs i = some (B, m, q) := by unfold idx; rw [if_pos h0]; exact hhd
  obtain ⟨b, o, es, hA, hc, he⟩ := arr_el hok.arr hidx
  have he : es = [Value.slice B m q] := he
  subst he
  exact ⟨b, o, B, m, q, r, hA, hc, hhd, hr, hok.rows.get _ _ _ _ hhd hr h2⟩
theorem wd_gridTop {b o k j : Nat} {v : Value} (i : Nat) (h : Wd G w f L) (hi : L[i]? = some (GridH A c cur hs rs)) (hA : A = some ⟨b, o, none⟩) (hc : cur[aoff A + k + j]? = some v) :
    w.cell? ((eAdr A k).add j) = some v := wd_arr 0 (wd_gridOpen (h.front i hi)) rfl hA hc
theorem wd_gridRow {B : Option Addr} {m q : Nat} {r : Array Value} {b o i k j : Nat} {v : Value} (p : Nat) (h : Wd G w f L) (hi : L[p]? = some (GridH A c cur hs rs)) (hhd : hs[i]? = some (B, m, q)) (hr : rs[i]? = some (some r)) (hB : B = some ⟨b, o, none⟩) (hc : r[aoff B + k + j]? = some v) :
    w.cell? ((eAdr B k).add j) = some v := wd_arr 0 (wd_rowsTake hhd hr (wd_gridOpen (h.front p hi)).swap) rfl hB hc
theorem run_gridSet {B : Option Addr} {m q : Nat} {r : Array Value} {i j : Int} {xs : List α} {x y : α} {t : TypeId} {a o : Operand} {v : Value} {news : List Value} (h : Wd G w f (GridH A c cur hs rs :: L)) (hok : GridOk f E A n c cur hs rs xss hole)
    (hxs : idx xss i = some xs) (hhd : hs[i.toNat]? = some (B, m, q)) (hr : rs[i.toNat]? = some (some r)) (hrow : ArrOk f E B m q r xs)
    (hx : idx xs j = some x) (ha : ev ρ a = .pointer (some (eAdr B (j.toNat * E.n)))) (ho : ev ρ o = v) (hs' : tySize P t = some v.cells.size) (hv : v.cells.toList = news) (hy : E.p f news y) :
    ∃ w', (execOp (ev ρ) ⟨dst, .store t a o, ty, pos, after, guard⟩).run P w = .ok .skip w' ∧ ∃ rs' r', GridOk f E A n c cur hs rs' (setI xss i (setI xs j y)) hole ∧ rs'[i.toNat]? = some (some r') ∧ ArrOk f E B m q r' (setI xs j y) ∧ Wd G w' f (GridH A c cur hs rs' :: L) := by
  obtain ⟨h0, h1, h2⟩ := idx_spec hxs
  have hw1 := wd_rowsTake hhd hr (wd_gridOpen h).swap
  obtain ⟨w', hrun, cur', hok', hw'⟩ := run_arrSet (dst := dst) (ty := ty) (pos := pos) (after := after) (guard := guard) hw1 hrow hx ha ho hs' hv hy
  have hw2 := wd_rowsPut (hd := (B, m, q)) (by rw [hok.rows.lh]; exact h1) (fun r' hr' => by
    rw [List.getElem?_set_self (List.getElem?_eq_some_iff.1 hr).1] at hr'; cases hr') hw'
  rw [set_same hhd, List.set_set] at hw2
  refine ⟨w', hrun, _, cur', ⟨hok.arr, ⟨?_, ?_, fun k hd r' ys hk hr' hys => ?_⟩, fun k hk hh => ?_⟩, List.getElem?_set_self (List.getElem?_eq_some_iff.1 hr).1, hok', wd_gridShut hw2.swap⟩
  · rw [show (setI xss i (setI xs j y)).length = xss.length by simp [setI]]; exact hok.rows.lh
  · rw [show (setI xss i (setI xs j y)).length = xss.length by simp [setI], List.length_set]; exact hok.rows.lr
  · unfold setI at hys
    by_cases hki : k = i.toNat
    · subst hki
      rw [List.getElem?_set_self (List.getElem?_eq_some_iff.1 hr).1] at hr'
      rw [List.getElem?_set_self h1] at hys
      rw [hhd] at hk
      injection hr' with hr'; injection hr' with hr'; injection hys with hys; injection hk with hk
      subst hr' hys hk
      exact hok'
    · rw [List.getElem?_set_ne (fun e => hki e.symm)] at hr' hys
      exact hok.rows.get k hd r' ys hk hr' hys
  · by_cases hki : k = i.toNat
    · subst hki
      exact ⟨cur', List.getElem?_set_self (List.getElem?_eq_some_iff.1 hr).1⟩
    · rw [List.getElem?_set_ne (fun e => hki e.symm)]
      exact hok.full k (by simpa [setI] using hk) hh
theorem grid_take {B : Option Addr} {m q : Nat} {r : Array Value} {i : Int} (hhd : hs[i.toNat]? = some (B, m, q)) (hr : rs[i.toNat]? = some (some r)) (hok : GridOk f E A n c cur hs rs xss noHole) (h : Wd G w f (GridH A c cur hs rs :: L)) :
    ∃ rs', GridOk f E A n c cur hs rs' xss (· = i.toNat) ∧ (∀ r', rs'[i.toNat]? ≠ some (some r')) ∧ Wd G w f (Arr B q r :: GridH A c cur hs rs' :: L) := by
  have hw := wd_rowsTake hhd hr (wd_gridOpen h).swap
  refine ⟨rs.set i.toNat none, ⟨hok.arr, ⟨hok.rows.lh, by rw [List.length_set]; exact hok.rows.lr, fun k hd r' ys hk hr' hys => ?_⟩, fun k hk hh => ?_⟩, fun r' hr' => ?_, ?_⟩
  · by_cases hki : k = i.toNat
    · subst hki
      rw [List.getElem?_set_self (List.getElem?_eq_some_iff.1 hr).1] at hr'; cases hr'
    · rw [List.getElem?_set_ne (fun e => hki e.symm)] at hr'
      exact hok.rows.get k hd r' ys hk hr' hys
  · rw [List.getElem?_set_ne (fun e => hh e.symm)]
    exact hok.full k hk (fun hf => hf)
  · rw [List.getElem?_set_self (List.getElem?_eq_some_iff.1 hr).1] at hr'; cases hr'
  · exact (wd_gridShut hw.front2.front2.swap).swap
theorem wd_rowsHole (k : Nat) (hl : rs.length = hs.length) (h : Wd G w f (RowsH hs rs :: L)) : Wd G w f (RowsH hs (rs.set k none) :: L) := by
  cases hr : rs[k]? with
  | none => rwa [List.set_eq_of_length_le (by simpa using hr)]
  | some o =>
    cases o with
    | none => rwa [set_same hr]
    | some r =>
      have hk := (List.getElem?_eq_some_iff.1 hr).1
      exact (wd_rowsTake (List.getElem?_eq_getElem (by omega)) hr h).drop1
theorem rows_set {hs' : List Hdr} {i : Int} {hd : Hdr} {r' : Array Value} {ys : List α} (h : RowsOk f E hs rs xss) (h1 : i.toNat < xss.length) (hrow : ArrOk f E hd.1 hd.2.1 hd.2.2 r' ys) (he : hs' = hs.set i.toNat hd) :
    RowsOk f E hs' (rs.set i.toNat (some r')) (setI xss i ys) := by
  subst he
  refine ⟨by simp [setI, h.lh], by simp [setI, h.lr], fun k hd' r xs hk hr hx => ?_⟩
  unfold setI at hx
  by_cases hki : k = i.toNat
  · subst hki
    rw [List.getElem?_set_self (by rw [h.lh]; exact h1)] at hk
    rw [List.getElem?_set_self (by rw [h.lr]; exact h1)] at hr
    rw [List.getElem?_set_self h1] at hx
    injection hk with hk; injection hr with hr; injection hr with hr; injection hx with hx
    subst hk hr hx
    exact hrow
  · rw [List.getElem?_set_ne (fun e => hki e.symm)] at hk hr hx
    exact h.get k hd' r xs hk hr hx
theorem arr_slf {g h : HP} {S : Foot} {xs : List α} (hok : ArrOk f E A n c cur xs) (hA : (Arr A c cur).p f h S) (hl : HP.le f g) (hg : ∀ b, S b → g b = h b) : SlF g E A n c xs := by
  refine ⟨hok.len, hok.le, hok.max, fun i x hx => ?_⟩
  have hi := (List.getElem?_eq_some_iff.1 hx).1
  obtain ⟨es, h1, h2⟩ := hok.get i x hx
  rcases hok.or with h0 | ⟨b, o, rfl, hz⟩
  · have := hok.le; omega
  rcases hA with ⟨h0, _⟩ | ⟨a, ha, hS, ty, hc⟩
  · have := hok.le; omega
  injection ha with ha
  subst ha
  refine ⟨b, o, es, rfl, fun j v hv => ?_, E.mono hl h2⟩
  have := h1 j v hv
  simp only [hcell, hg _ hS, hc]
  simpa [aoff] using this
theorem grid_freeze (hok : GridOk f E A n c cur hs rs xss noHole) (h : Wd G w f (GridH A c cur hs rs :: L)) : ∃ f', HP.le f f' ∧ SlF f' (fSl E) A n c xss ∧ Wd G w f' L := by
  obtain ⟨f', S, hl, ⟨S0, S1, hA, ⟨F, e1, e2, e3⟩, s0, s1, _⟩, hg, hw⟩ := wd_freeze h
  have hT := arr_slf hok.arr hA hl (fun b hb => hg b (s0 b hb))
  refine ⟨f', hl, ⟨hok.len, hok.le, hok.arr.max, fun i xs hx => ?_⟩, hw⟩
  have hi := (List.getElem?_eq_some_iff.1 hx).1
  have hhd := List.getElem?_eq_getElem (show i < hs.length by rw [hok.rows.lh]; exact hi)
  obtain ⟨r, hr⟩ := hok.full i hi (fun hf => hf)
  obtain ⟨b, o, es, hA', hc, he⟩ := hT.get i _ hhd
  have he : es = _ := he
  subst he
  refine ⟨b, o, _, hA', hc, _, _, _, rfl, ?_⟩
  exact arr_slf (hok.rows.get i _ r xs hhd hr hx) (e3 i _ r hhd hr) hl (fun b hb => hg b (s1 b (e1 i b hb)))
end
end Hk
set_option linter.unusedVariables false
set_option linter.unusedSimpArgs false
namespace Hk
open Go
theorem relall_idx {α : Type} {E : FRel α} {f : HP} {ess : List (List Value)} {xs : List α} {i : Int} {x : α} (h : RelAll E f ess xs) (hx : idx xs i = some x) :
    ∃ es, 0 ≤ i ∧ i < (xs.length : Int) ∧ (ess.flatten.drop (i.toNat * E.n)).take E.n = es ∧ es.length = E.n ∧ E.p f es x := by
  obtain ⟨h0, h1, h2⟩ := idx_spec hx
  obtain ⟨_, hfl, hg⟩ := RelAll.get h
  obtain ⟨es, h3, h4⟩ := hg _ _ h2
  have hl := E.len h4
  refine ⟨es, h0, by omega, ?_, hl, h4⟩
  have hlt : (i.toNat + 1) * E.n ≤ xs.length * E.n := Nat.mul_le_mul_right _ h1
  rw [Nat.add_mul] at hlt
  refine List.ext_getElem? fun j => ?_
  by_cases hj : j < E.n
  · rw [List.getElem?_take_of_lt hj, List.getElem?_drop]
    have := h3 j _ (List.getElem?_eq_getElem (by omega))
    rw [this, List.getElem?_eq_getElem (by omega)]
  · rw [List.getElem?_eq_none (by simp; omega), List.getElem?_eq_none (by omega)]
section
variable {P : Program} {G w w' : World} {f : HP} {L : List HProp} {ρ : Env} {dst : Option Tmp} {ty : TypeId} {pos : String} {after : Array Edge} {guard : Option (Nat × Bool)}
theorem run_indexV {t e : TypeId} {n k : Nat} {x ix : Operand} {cs vs : List Value} {i : Int} {v : Value} (b : Bool) (ht : P.underlying t = some (.array n e)) (ha : tyAgg P e = some b) (hk : tySize P e = some k) (hx : ev ρ x = .agg cs.toArray) (hi : ev ρ ix = .int .i64 i)
    (h0 : 0 ≤ i) (hn : i < (n : Int)) (hvs : (cs.drop (i.toNat * k)).take k = vs) (hl : vs.length = k) (hv : v = cond b (.agg vs.toArray) (vs.headD undef)) (hk1 : b = false → k = 1) :
    (execOp (ev ρ) ⟨dst, .index t x ix, ty, pos, after, guard⟩).run P w = .ok (.value v) w := by
  have h1 := isAgg_spec (P := P) (w := w) ha
  have h2 := sizeOf_spec (P := P) (w := w) hk
  have hidx : (Instr.index t (.agg cs.toArray) (.int .i64 i)).run P w = .ok v w := by
    have hp : (part e cs.toArray (i.toNat * k)).run P w = .ok v w := by
      cases b with
      | true =>
        simp only [cond_true] at hv
        subst hv
        simp only [part, Sem.run_bind, h1, Result.andThen_ok, if_true, h2, Sem.run_pure]
        congr 2
        rw [← hvs]
        simp [List.extract_eq_take_drop]
      | false =>
        have hk1 := hk1 rfl
        subst hk1
        simp only [cond_false] at hv
        obtain ⟨u, hu⟩ := List.length_eq_one_iff.1 hl
        subst hu
        simp only [List.headD_cons] at hv
        subst hv
        have hc : cs.toArray[i.toNat * 1]? = some v := by
          have : ((cs.drop (i.toNat * 1)).take 1)[0]? = some v := by rw [hvs]; rfl
          rw [List.getElem?_take_of_lt (by omega), List.getElem?_drop] at this
          simpa using this
        have hc' : cs[i.toNat]? = some v := by simpa using hc
        simp [part, Sem.run_bind, h1, hc', go_sem]
    have hu : (underlying t).run P w = .ok (.array n e) w := run_underlying ht w
    generalize hgp : part e cs.toArray (i.toNat * k) = pp at hp
    simp only [Instr.index, asIntOf, Sem.run_bind, Sem.run_pure, Result.andThen_ok, hu, if_pos (show 0 ≤ i ∧ i < (n : Int) from ⟨h0, hn⟩), h2, hgp, hp]
  have e1 : execOp (ev ρ) ⟨dst, .index t x ix, ty, pos, after, guard⟩ = (Instr.index t (ev ρ x) (ev ρ ix)).bind (fun v => .pure (.value v)) := rfl
  rw [e1, hx, hi, Sem.run_bind', hidx]
  rfl
end
end Hk
set_option linter.unusedVariables false
set_option linter.unusedSimpArgs false
namespace Hk
open Go
inductive KT where
  | int (k : IntKind) | bool | str
def KT.beq : KT → KT → Bool
  | .int k, .int k' => decide (k = k')
  | .bool, .bool => true
  | .str, .str => true
  | _, _ => false
theorem KT.beq_eq : ∀ {a b : KT}, a.beq b = true → a = b
  | .int k, .int k', h => by rw [of_decide_eq_true (show decide (k = k') = true from h)]
  | .bool, .bool, _ => rfl
  | .str, .str, _ => rfl
  | .int _, .bool, h => by cases h
  | .int _, .str, h => by cases h
  | .bool, .int _, h => by cases h
  | .bool, .str, h => by cases h
  | .str, .int _, h => by cases h
  | .str, .bool, h => by cases h
def ksBeq : List KT → List KT → Bool
  | [], [] => true
  | a :: l, b :: m => a.beq b && ksBeq l m
  | _, _ => false
theorem ksBeq_eq : ∀ {l m : List KT}, ksBeq l m = true → l = m
  | [], [], _ => rfl
  | a :: l, b :: m, h => by
    simp only [ksBeq, Bool.and_eq_true] at h
    rw [KT.beq_eq h.1, ksBeq_eq h.2]
  | [], _ :: _, h => by cases h
  | _ :: _, [], h => by cases h
def KT.desc : KT → TypeDesc
  | .int k => .int k
  | .bool => .bool
  | .str => .string
def KV : KT → Value → Prop
  | .int k, v => ∃ n, v = .int k n
  | .bool, v => ∃ b, v = .bool b
  | .str, v => ∃ s, v = .string s
def KVs : List KT → List Value → Prop
  | [], [] => True
  | k :: ks, v :: vs => KV k v ∧ KVs ks vs
  | _, _ => False
def bEq (a b : ByteArray) : Bool := a.data.toList == b.data.toList
def vEq : Value → Value → Bool
  | .int _ a, .int _ b => a == b
  | .bool a, .bool b => a == b
  | .string a, .string b => bEq a b
  | _, _ => false
def vsEq : List Value → List Value → Bool
  | [], [] => true
  | a :: l, b :: m => vEq a b && vsEq l m
  | _, _ => false
theorem bEq_iff {a b : ByteArray} : bEq a b = true ↔ a = b := by
  obtain ⟨⟨l⟩⟩ := a
  obtain ⟨⟨m⟩⟩ := b
  simp [bEq]
theorem bEq_list (a b : ByteArray) : (a.toList == b.toList) = bEq a b := by
  rw [Go.ByteArray.toList_eq, Go.ByteArray.toList_eq]; rfl
theorem vEq_iff {k : KT} {a b : Value} (ha : KV k a) (hb : KV k b) : vEq a b = true ↔ a = b := by
  cases k with
  | int k => obtain ⟨x, rfl⟩ := ha; obtain ⟨y, rfl⟩ := hb; simp [vEq]
  | bool => obtain ⟨x, rfl⟩ := ha; obtain ⟨y, rfl⟩ := hb; simp [vEq]
  | str => obtain ⟨x, rfl⟩ := ha; obtain ⟨y, rfl⟩ := hb; simp [vEq, bEq_iff]
theorem vsEq_iff : ∀ {ks : List KT} {a b : List Value}, KVs ks a → KVs ks b → (vsEq a b = true ↔ a = b)
  | [], [], [], _, _ => by simp [vsEq]
  | k :: ks, x :: a, y :: b, ⟨h1, h2⟩, ⟨h3, h4⟩ => by
    simp only [vsEq, Bool.and_eq_true, vEq_iff h1 h3, vsEq_iff h2 h4, List.cons.injEq]
  | [], _ :: _, _, h, _ => h.elim
  | [], _, _ :: _, _, h => h.elim
  | _ :: _, [], _, h, _ => h.elim
  | _ :: _, _, [], _, h => h.elim
theorem KVs.get : ∀ {ks : List KT} {vs : List Value}, KVs ks vs → ∀ (i : Nat) k, ks[i]? = some k → ∃ v, vs[i]? = some v ∧ KV k v
  | k0 :: ks, v :: vs, ⟨h1, h2⟩, 0, k, h => by simp at h; subst h; exact ⟨v, rfl, h1⟩
  | k0 :: ks, v :: vs, ⟨h1, h2⟩, i + 1, k, h => by simpa using KVs.get h2 i k (by simpa using h)
  | [], [], _, i, k, h => by simp at h
  | [], _ :: _, h, _, _, _ => h.elim
  | _ :: _, [], h, _, _, _ => h.elim
theorem KVs.len : ∀ {ks : List KT} {vs : List Value}, KVs ks vs → vs.length = ks.length
  | [], [], _ => rfl
  | _ :: _, _ :: _, ⟨_, h⟩ => by simp [KVs.len h]
  | [], _ :: _, h => h.elim
  | _ :: _, [], h => h.elim
def kdOk : Option TypeDesc → KT → Bool
  | some (.int k'), .int k => decide (k = k')
  | some .bool, .bool => true
  | some .string, .str => true
  | _, _ => false
theorem kdOk_eq {d : Option TypeDesc} {k : KT} (h : kdOk d k = true) : d = some k.desc := by
  cases k with
  | int k =>
    cases d with
    | none => cases h
    | some d => cases d <;> first | (simp only [kdOk, decide_eq_true_eq] at h; rw [h]; rfl) | (cases h)
  | bool =>
    cases d with
    | none => cases h
    | some d => cases d <;> first | rfl | (cases h)
  | str =>
    cases d with
    | none => cases h
    | some d => cases d <;> first | rfl | (cases h)
def fieldsEq (P : Program) : Nat → List Field → List KT → Bool
  | _, [], [] => true
  | i, f :: fs, k :: ks => decide (f.name ≠ "_") && Nat.beq f.offset i && kdOk (P.underlying f.type) k && fieldsEq P (i + 1) fs ks
  | _, _, _ => false
def eqsOk (P : Program) (t : TypeId) (ks : List KT) : Bool :=
  (match P.underlying t with | some (.struct fs) => fieldsEq P 0 fs.toList ks | _ => false) && !(P.stoodInHeld t) && !(P.eqGuardType P.depth t)
section
variable {P : Program} {w : World}
theorem run_partK {k : KT} {t : TypeId} {cs : Array Value} {off : Nat} {v : Value} (ht : P.underlying t = some k.desc) (hv : cs[off]? = some v) : (part t cs off).run P w = .ok v w := by
  have ha : (isAgg t).run P w = .ok false w := by cases k <;> simp [isAgg, underlying, ht, KT.desc, go_sem]
  simp [part, Sem.run_bind, ha, hv, go_sem]
theorem run_eqK {k : KT} {t : TypeId} {a b : Value} (d : Nat) (ht : P.underlying t = some k.desc) (ha : KV k a) (hb : KV k b) : (Op.equalIn (d + 1) t a b).run P w = .ok (vEq a b) w := by
  cases k with
  | int k => obtain ⟨x, rfl⟩ := ha; obtain ⟨y, rfl⟩ := hb; exact run_equalIn_int w d t k k x y ht
  | bool => obtain ⟨x, rfl⟩ := ha; obtain ⟨y, rfl⟩ := hb; exact run_equalIn_bool' w d t x y ht
  | str =>
    obtain ⟨x, rfl⟩ := ha; obtain ⟨y, rfl⟩ := hb
    rw [run_equalIn_string w d t x y ht, bEq_list]
    rfl
theorem run_eqFieldsK (d : Nat) {xs ys : List Value} : ∀ {fs : List Field} {ks : List KT} {i : Nat}, fieldsEq P i fs ks = true → KVs ks (xs.drop i) → KVs ks (ys.drop i) →
    (Op.eqFields (d + 1) xs.toArray ys.toArray fs).run P w = .ok (vsEq (xs.drop i) (ys.drop i)) w
  | [], [], i, _, hx, hy => by
    cases h1 : xs.drop i with
    | cons _ _ => rw [h1] at hx; exact hx.elim
    | nil =>
      cases h2 : ys.drop i with
      | cons _ _ => rw [h2] at hy; exact hy.elim
      | nil => simp [Op.eqFields, vsEq, go_sem]
  | f :: fs, k :: ks, i, h, hx, hy => by
    simp only [fieldsEq, Bool.and_eq_true, decide_eq_true_eq] at h
    obtain ⟨⟨⟨h1, h2⟩, h3⟩, h4⟩ := h
    have h2 := Nat.eq_of_beq_eq_true h2
    have h3 := kdOk_eq h3
    cases e1 : xs.drop i with
    | nil => rw [e1] at hx; exact hx.elim
    | cons x xr =>
      cases e2 : ys.drop i with
      | nil => rw [e2] at hy; exact hy.elim
      | cons y yr =>
        rw [e1] at hx
        rw [e2] at hy
        have gx : xs.toArray[f.offset]? = some x := by
          rw [h2, List.getElem?_toArray]
          have : (xs.drop i)[0]? = some x := by rw [e1]; rfl
          simpa using this
        have gy : ys.toArray[f.offset]? = some y := by
          rw [h2, List.getElem?_toArray]
          have : (ys.drop i)[0]? = some y := by rw [e2]; rfl
          simpa using this
        have d1 : xs.drop (i + 1) = xr := by rw [← List.drop_drop, e1]; rfl
        have d2 : ys.drop (i + 1) = yr := by rw [← List.drop_drop, e2]; rfl
        have ih := run_eqFieldsK d (xs := xs) (ys := ys) h4 (by rw [d1]; exact hx.2) (by rw [d2]; exact hy.2)
        rw [d1, d2] at ih
        simp only [Op.eqFields, if_pos h1, Sem.run_bind, run_partK h3 gx, run_partK h3 gy, Result.andThen_ok, run_eqK d h3 hx.1 hy.1, vsEq]
        cases hv : vEq x y with
        | true => simp only [Bool.not_true, Bool.false_eq_true, if_false, Bool.true_and]; exact ih
        | false => simp [go_sem]
  | [], _ :: _, _, h, _, _ => by cases h
  | _ :: _, [], _, h, _, _ => by cases h
theorem run_eqS {t : TypeId} {ks : List KT} {xs ys : List Value} (d : Nat) (h : eqsOk P t ks = true) (hx : KVs ks xs) (hy : KVs ks ys) : (Op.equalIn (d + 2) t (.agg xs.toArray) (.agg ys.toArray)).run P w = .ok (vsEq xs ys) w := by
  simp only [eqsOk, Bool.and_eq_true, Bool.not_eq_true'] at h
  obtain ⟨⟨h1, h2⟩, h3⟩ := h
  split at h1
  · rename_i fs hu
    have hf : P.fieldsOf t = fs := by simp [Program.fieldsOf, hu]
    rw [run_equalIn_struct w (d + 1) t _ _ (by rw [hf]; exact hu) h2, hf]
    exact run_eqFieldsK d (i := 0) h1 hx hy
  · cases h1
theorem run_guardS {t : TypeId} {ks : List KT} {op : BinOp} {x y : Operand} {xs ys : List Value} (h : eqsOk P t ks = true) : (eqGuard op t x y (.agg xs.toArray) (.agg ys.toArray)).run P w = .ok () w := by
  simp only [eqsOk, Bool.and_eq_true, Bool.not_eq_true'] at h
  exact run_eqGuard_agg w op t x y _ _ h.2
inductive KeyT (P : Program) (t : TypeId) : (Value → Prop) → Prop where
  | one (k : KT) (h : P.underlying t = some k.desc) : KeyT P t (KV k)
  | agg (ks : List KT) (h : eqsOk P t ks = true) : KeyT P t (fun v => ∃ vs, v = .agg vs.toArray ∧ KVs ks vs)
def kEq : Value → Value → Bool
  | .agg a, .agg b => vsEq a.toList b.toList
  | a, b => vEq a b
theorem kEq_one {k : KT} {a b : Value} (ha : KV k a) (hb : KV k b) : kEq a b = vEq a b := by
  cases k with
  | int k => obtain ⟨x, rfl⟩ := ha; obtain ⟨y, rfl⟩ := hb; rfl
  | bool => obtain ⟨x, rfl⟩ := ha; obtain ⟨y, rfl⟩ := hb; rfl
  | str => obtain ⟨x, rfl⟩ := ha; obtain ⟨y, rfl⟩ := hb; rfl
theorem KeyT.eq_iff {t : TypeId} {T : Value → Prop} (K : KeyT P t T) {a b : Value} (ha : T a) (hb : T b) : kEq a b = true ↔ a = b := by
  cases K with
  | one k h => rw [kEq_one ha hb]; exact vEq_iff ha hb
  | agg ks h =>
    obtain ⟨xs, rfl, hx⟩ := ha
    obtain ⟨ys, rfl, hy⟩ := hb
    simp only [kEq]
    rw [vsEq_iff hx hy]
    simp
def vfind (x : Value) : List MapEntry → Nat → Option (Nat × Value)
  | [], _ => none
  | e :: es, i => match kEq x e.key with | true => some (i, e.val) | false => vfind x es (i + 1)
theorem findNowK {k : KT} {x : Value} (hx : KV k x) : ∀ (es : List MapEntry) (i : Nat), (∀ e ∈ es, KV k e.key) → Instr.findNow k.desc x es i = some (vfind x es i)
  | [], i, _ => rfl
  | e :: es, i, h => by
    have he := h e (by simp)
    have hs : Instr.sameNow k.desc x e.key = some (kEq x e.key) := by
      rw [kEq_one hx he]
      cases k with
      | int k => obtain ⟨a, rfl⟩ := hx; obtain ⟨b, hb⟩ := he; rw [hb]; simp [Instr.sameNow, KT.desc, vEq]
      | bool => obtain ⟨a, rfl⟩ := hx; obtain ⟨b, hb⟩ := he; rw [hb]; rfl
      | str =>
        obtain ⟨a, rfl⟩ := hx; obtain ⟨b, hb⟩ := he; rw [hb]
        simp only [Instr.sameNow, KT.desc, vEq]
        rw [beq_toListBytes, bEq_list]
    unfold Instr.findNow vfind
    rw [hs]
    cases kEq x e.key with
    | true => rfl
    | false => exact findNowK hx es (i + 1) fun e' he' => h e' (by simp [he'])
theorem findAskingK {t : TypeId} {ks : List KT} (h : eqsOk P t ks = true) {xs : List Value} (hx : KVs ks xs) : ∀ (es : List MapEntry) (i : Nat), (∀ e ∈ es, ∃ vs, e.key = .agg vs.toArray ∧ KVs ks vs) →
    (Instr.findAsking t (.agg xs.toArray) es i).run P w = .ok (vfind (.agg xs.toArray) es i) w
  | [], i, _ => by simp [Instr.findAsking, vfind, go_sem]
  | e :: es, i, hk => by
    obtain ⟨vs, hv, hvs⟩ := hk e (by simp)
    have he : (Op.equal t (.agg xs.toArray) e.key).run P w = .ok (vsEq xs vs) w := by rw [hv]; exact run_eqS 9998 h hx hvs
    have hke : kEq (.agg xs.toArray) e.key = vsEq xs vs := by rw [hv]; rfl
    simp only [Instr.findAsking, Sem.run_bind, he, Result.andThen_ok, vfind, hke]
    cases vsEq xs vs with
    | true => simp [go_sem]
    | false => simpa using findAskingK h hx es (i + 1) fun e' he' => hk e' (by simp [he'])
theorem KeyT.find {t : TypeId} {T : Value → Prop} (K : KeyT P t T) {x : Value} (hx : T x) (es : List MapEntry) (h : ∀ e ∈ es, T e.key) : (Instr.findKey t x es).run P w = .ok (vfind x es 0) w := by
  cases K with
  | one k hk => simp [Instr.findKey, run_underlying hk, findNowK hx es 0 h, go_sem]
  | agg ks hk =>
    obtain ⟨xs, rfl, hxs⟩ := hx
    have hu : ∃ fs, P.underlying t = some (.struct fs) := by
      simp only [eqsOk, Bool.and_eq_true] at hk
      cases hu : P.underlying t with
      | none => rw [hu] at hk; simp at hk
      | some d => cases d <;> simp [hu] at hk; exact ⟨_, rfl⟩
    obtain ⟨fs, hu⟩ := hu
    cases es with
    | nil => simp [Instr.findKey, run_underlying hu, Instr.findNow, vfind, go_sem]
    | cons e es =>
      have hn : Instr.findNow (.struct fs) (.agg xs.toArray) (e :: es) 0 = none := by simp [Instr.findNow, Instr.sameNow]
      have hf := findAskingK (w := w) hk hxs (e :: es) 0 h
      simp only [Instr.findKey, Sem.run_bind, run_underlying hu, Result.andThen_ok, hn]
      exact hf
end
end Hk
set_option linter.unusedVariables false
set_option linter.unusedSimpArgs false
namespace Hk
open Go
section
variable {P : Program} {w : World}
theorem KVs_nth : ∀ {ks : List KT} {vs : List Value}, KVs ks vs → ∀ v ∈ vs, ∃ k, KV k v
  | [], [], _, v, h => by simp at h
  | k :: ks, u :: vs, ⟨h1, h2⟩, v, h => by
    rcases List.mem_cons.1 h with rfl | h
    · exact ⟨k, h1⟩
    · exact KVs_nth h2 v h
  | [], _ :: _, h, _, _ => h.elim
  | _ :: _, [], h, _, _ => h.elim
theorem sameBits_k {k : KT} {v : Value} (h : KV k v) (n : Nat) : Instr.sameBits n v v = true := by
  cases k with
  | int k => obtain ⟨x, rfl⟩ := h; unfold Instr.sameBits; simp
  | bool => obtain ⟨x, rfl⟩ := h; unfold Instr.sameBits; simp
  | str =>
    obtain ⟨x, rfl⟩ := h
    have : (x == x) = true := (Go.MapKept.bytes_beq x x).2 rfl
    unfold Instr.sameBits
    exact this
theorem KeyT.same {t : TypeId} {T : Value → Prop} (K : KeyT P t T) {v : Value} (h : T v) : Instr.sameBits 10000 v v = true := by
  cases K with
  | one k hk => exact sameBits_k h _
  | agg ks hk =>
    obtain ⟨vs, rfl, hv⟩ := h
    unfold Instr.sameBits
    simp only [beq_self_eq_true, Bool.true_and]
    rw [List.all_eq_true]
    intro p hp
    obtain ⟨x, y⟩ := p
    have e : x = y ∧ x ∈ vs := by
      have hz : ∀ (l : List Value) (a b : Value), (a, b) ∈ l.zip l → a = b ∧ a ∈ l := by
        intro l
        induction l with
        | nil => intro a b h; simp at h
        | cons c l ih =>
          intro a b h
          simp only [List.zip_cons_cons, List.mem_cons, Prod.mk.injEq] at h
          rcases h with ⟨rfl, rfl⟩ | h
          · exact ⟨rfl, by simp⟩
          · exact ⟨(ih a b h).1, by simp [(ih a b h).2]⟩
      exact hz vs x y (by simpa using hp)
    obtain ⟨rfl, hm⟩ := e
    obtain ⟨k, hk⟩ := KVs_nth hv x hm
    exact sameBits_k hk _
theorem checkKeyK {k : KT} {t : TypeId} {v : Value} (ht : P.underlying t = some k.desc) (hv : KV k v) (e : Bool) (n : Nat) : (Instr.checkKey e (n + 1) t v).run P w = .ok () w := by
  unfold Instr.checkKey
  cases k with
  | int k => obtain ⟨x, rfl⟩ := hv; simp [run_underlying ht, KT.desc]
  | bool => obtain ⟨x, rfl⟩ := hv; simp [run_underlying ht, KT.desc]
  | str => obtain ⟨x, rfl⟩ := hv; simp [run_underlying ht, KT.desc]
theorem fieldsK {vs : List Value} (e : Bool) (n : Nat) : ∀ {fs : List Field} {ks : List KT} {i : Nat}, fieldsEq P i fs ks = true → KVs ks (vs.drop i) →
    ∀ f ∈ fs, f.name ≠ "_" ∧ ∃ a, (part f.type vs.toArray f.offset).run P w = .ok a w ∧ (Instr.checkKey e (n + 1) f.type a).run P w = .ok () w
  | [], [], _, _, _, f, hf => by simp at hf
  | f :: fs, k :: ks, i, h, hx, g, hg => by
    simp only [fieldsEq, Bool.and_eq_true, decide_eq_true_eq] at h
    obtain ⟨⟨⟨h1, h2⟩, h3⟩, h4⟩ := h
    have h2 := Nat.eq_of_beq_eq_true h2
    have h3 := kdOk_eq h3
    cases e1 : vs.drop i with
    | nil => rw [e1] at hx; exact hx.elim
    | cons x xr =>
      rw [e1] at hx
      have gx : vs.toArray[f.offset]? = some x := by
        rw [h2, List.getElem?_toArray]
        have : (vs.drop i)[0]? = some x := by rw [e1]; rfl
        simpa using this
      have d1 : vs.drop (i + 1) = xr := by rw [← List.drop_drop, e1]; rfl
      rcases List.mem_cons.1 hg with rfl | hg
      · exact ⟨h1, x, run_partK h3 gx, checkKeyK h3 hx.1 e n⟩
      · exact fieldsK e n h4 (by rw [d1]; exact hx.2) g hg
  | [], _ :: _, _, h, _, _, _ => by cases h
  | _ :: _, [], _, h, _, _, _ => by cases h
theorem KeyT.check {t : TypeId} {T : Value → Prop} (K : KeyT P t T) {x : Value} (hx : T x) (e : Bool) : (Instr.checkKey e 10000 t x).run P w = .ok () w := by
  cases K with
  | one k hk => exact checkKeyK hk hx e 9999
  | agg ks hk =>
    obtain ⟨vs, rfl, hv⟩ := hx
    simp only [eqsOk, Bool.and_eq_true, Bool.not_eq_true'] at hk
    obtain ⟨⟨h1, _⟩, _⟩ := hk
    split at h1
    · rename_i fs hu
      rw [show (10000 : Nat) = 9998 + 1 + 1 from rfl, Instr.checkKey]
      simp only [Sem.run_bind, run_underlying hu, Result.andThen_ok]
      rw [← Array.forIn_toList]
      have each := fieldsK (w := w) e 9998 (vs := vs) h1 (by simpa using hv)
      generalize fs.toList = L at each
      clear h1 hu
      induction L with
      | nil => simp
      | cons f L ih =>
        obtain ⟨hn, a, p1, p2⟩ := each f (by simp)
        simp only [List.forIn_cons, Sem.run_bind, hn, ne_eq, not_false_eq_true, if_true, Result.andThen_ok, p1, p2, Sem.run_pure]
        exact ih (fun y hy => each y (by simp [hy]))
    · cases h1
theorem vfind_some {x : Value} : ∀ {es : List MapEntry} {i j : Nat} {v : Value}, vfind x es i = some (j, v) → ∃ n e, j = i + n ∧ es[n]? = some e ∧ v = e.val ∧ kEq x e.key = true
  | [], _, _, _, h => by simp [vfind] at h
  | e :: es, i, j, v, h => by
    unfold vfind at h
    cases hk : kEq x e.key with
    | true =>
      rw [hk] at h
      simp only [Option.some.injEq, Prod.mk.injEq] at h
      exact ⟨0, e, by omega, rfl, h.2.symm, hk⟩
    | false =>
      rw [hk] at h
      obtain ⟨n, e', h1, h2, h3, h4⟩ := vfind_some h
      exact ⟨n + 1, e', by omega, by simpa using h2, h3, h4⟩
def lkV (ok : Bool) (z : Value) : Option (Nat × Value) → Value
  | some (_, v) => cond ok (.tuple #[v, .bool true]) v
  | none => cond ok (.tuple #[z, .bool false]) z
theorem run_lookupK {mt kt et : TypeId} {T : Value → Prop} {r clk : Nat} {es : Array MapEntry} {x z : Value} (ok : Bool) (hm : P.underlying mt = some (.map kt et)) (K : KeyT P kt T) (hb : w.heap[r]? = some (.map es clk))
    (hk : ∀ e ∈ es.toList, T e.key) (hx : T x) (hz : tyZero P et = some z) : (Instr.lookup mt (.map (some r)) x ok).run P w = .ok (lkV ok z (vfind x es.toList 0)) w := by
  have hzr : (zeroValue et).run P w = .ok z w := by
    unfold tyZero at hz
    cases hi : P.info? et with
    | none => simp [hi] at hz
    | some i => simp [hi] at hz; simp [zeroValue, typeInfo, hi, hz, go_sem]
  have hf := K.find (w := w) hx es.toList hk
  simp only [Instr.lookup, Sem.run_bind, run_underlying hm, Result.andThen_ok, MapKept.run_getObj_map hb, Sem.run_pure, K.check hx, hf]
  cases hv : vfind x es.toList 0 with
  | none => cases ok <;> simp [hzr, lkV, go_sem]
  | some p => obtain ⟨j, v⟩ := p; cases ok <;> simp [lkV, go_sem]
theorem run_lookupN {mt kt et : TypeId} {T : Value → Prop} {x z : Value} (ok : Bool) (hm : P.underlying mt = some (.map kt et)) (K : KeyT P kt T)
    (hx : T x) (hz : tyZero P et = some z) : (Instr.lookup mt (.map none) x ok).run P w = .ok (lkV ok z none) w := by
  have hzr : (zeroValue et).run P w = .ok z w := by
    unfold tyZero at hz
    cases hi : P.info? et with
    | none => simp [hi] at hz
    | some i => simp [hi] at hz; simp [zeroValue, typeInfo, hi, hz, go_sem]
  have hf := K.find (w := w) hx [] (by simp)
  simp only [Instr.lookup, Sem.run_bind, run_underlying hm, Result.andThen_ok, Sem.run_pure, K.check hx, hf, vfind]
  cases ok <;> simp [hzr, lkV, go_sem]
def mput (x y : Value) (es : Array MapEntry) (clk : Nat) : Obj :=
  match vfind x es.toList 0 with
  | some (i, _) => .map (es.modify i fun e => { e with key := x, val := y }) clk
  | none => .map (es.push { key := x, val := y, born := clk }) (clk + 1)
theorem run_mapUpdateK {mt kt et : TypeId} {T : Value → Prop} {r clk : Nat} {es : Array MapEntry} {x y : Value} (hm : P.underlying mt = some (.map kt et)) (K : KeyT P kt T) (hb : w.heap[r]? = some (.map es clk))
    (hk : ∀ e ∈ es.toList, T e.key) (hx : T x) : (Instr.mapUpdate mt (.map (some r)) x y).run P w = .ok () { w with heap := w.heap.setIfInBounds r (mput x y es clk) } := by
  have hf := K.find (w := w) hx es.toList hk
  simp only [Instr.mapUpdate, Sem.run_bind, run_underlying hm, Result.andThen_ok, MapKept.run_getObj_map hb, Sem.run_pure, K.check hx, hf, mput]
  cases hv : vfind x es.toList 0 with
  | none => simp only [MapKept.run_setObj_map _ hb]
  | some p =>
    obtain ⟨j, v⟩ := p
    obtain ⟨n, e, h1, h2, h3, h4⟩ := vfind_some hv
    have he : e.key = x := ((K.eq_iff hx (hk e (List.mem_of_getElem? h2))).1 h4).symm
    have hj : es[j]? = some e := by rw [h1]; simpa using h2
    have hs : (Instr.keyThatStays x x).run P w = .ok x w := by simp [Instr.keyThatStays, K.same hx, go_sem]
    simp only [hj, Option.map_some, Option.getD_some, he, Sem.run_bind, hs, Result.andThen_ok, MapKept.run_setObj_map _ hb]
end
section
variable {G w w' : World} {f : HP} {L : List HProp}
theorem wd_setObj {b : Nat} {o o' : Obj} (h : Wd G w f (Blk b o :: L)) : Wd G { w with heap := w.heap.setIfInBounds b o' } f (Blk b o' :: L) := by
  have hb := wd_blk 0 h rfl
  obtain ⟨k1, k2⟩ := MapKept.heap_set (o' := o') hb
  refine h.step0 rfl rfl rfl fun S hS hne => ⟨S, ⟨hS.1, k1⟩, fun c hc => ⟨.inl hc, ?_⟩, fun c hc _ => k2 c (fun e => by subst e; exact hc hS.1)⟩
  by_cases e : c = b
  · subst e; simp only [wh]; rw [k1]; simp
  · simp only [wh]; rw [k2 c e]; exact hne c hc
theorem wd_newO {o : Obj} (h : Wd G w f L) : Wd G (w.alloc o) f (Blk w.heap.size o :: L) := by
  have hnew : wh (w.alloc o) w.heap.size = some o := heap_alloc_new w _
  have hold : ∀ b, wh w b ≠ none → wh (w.alloc o) b = wh w b := fun b hb => by
    have : b < w.heap.size := by
      cases hx : wh w b with
      | none => exact absurd hx hb
      | some o => exact (Array.getElem?_eq_some_iff.1 hx).1
    exact heap_alloc_old w _ this
  have hn : wh w w.heap.size = none := by simp [wh]
  refine ⟨h.os, h.tape, h.output, fun b o' hf => ?_, fun b => b = w.heap.size, ⟨rfl, hnew⟩, fun b hb => ⟨?_, ?_⟩, ?_⟩
  · have := h.fro b o' hf; rw [hold b (by rw [this]; simp)]; exact this
  · subst hb
    cases hf : f w.heap.size with
    | none => rfl
    | some o' => have := h.fro _ o' hf; rw [hn] at this; cases this
  · subst hb; rw [hnew]; simp
  · exact SepL.keep' h.sep (fun b _ hb => hold b hb) (fun b hb hb' => ⟨hb, fun e => by subst e; exact hb' hn⟩)
end
def MapH (r : Nat) (o : Obj) (hs : List Hdr) (rs : List (Option (Array Value))) : HProp :=
  ⟨fun f h S => ∃ S0 S1 : Foot, (Blk r o).p f h S0 ∧ (RowsH hs rs).p f h S1 ∧ (∀ b, S0 b → S b) ∧ (∀ b, S1 b → S b) ∧ ∀ b, S0 b → ¬ S1 b,
   fun ⟨S0, S1, h1, h2, h3, h4, h5⟩ hg => ⟨S0, S1, (Blk r o).loc h1 (fun b hb => hg b (h3 b hb)), (RowsH hs rs).loc h2 (fun b hb => hg b (h4 b hb)), h3, h4, h5⟩,
   fun hl ⟨S0, S1, h1, h2, h3, h4, h5⟩ => ⟨S0, S1, (Blk r o).mono hl h1, (RowsH hs rs).mono hl h2, h3, h4, h5⟩⟩
section
variable {G w w' : World} {f : HP} {L : List HProp} {r : Nat} {o : Obj} {hs : List Hdr} {rs : List (Option (Array Value))}
theorem wd_mapOpen (h : Wd G w f (MapH r o hs rs :: L)) : Wd G w f (Blk r o :: RowsH hs rs :: L) :=
  wd_part h fun S ⟨S0, S1, h1, h2, h3, h4, h5⟩ => ⟨S0, S1, h1, h2, h3, h4, h5⟩
theorem wd_mapShut (h : Wd G w f (Blk r o :: RowsH hs rs :: L)) : Wd G w f (MapH r o hs rs :: L) :=
  wd_join h fun SX SY h1 h2 h3 => ⟨SX, SY, h1, h2, fun b hb => .inl hb, fun b hb => .inr hb, h3⟩
theorem wd_swap {A B : HProp} (h : Wd G w f (A :: B :: L)) : Wd G w f (B :: A :: L) := h.front 1 rfl
theorem wd_rowsHdr {k : Nat} {hd : Hdr} (hr : ∀ r', rs[k]? ≠ some (some r')) (h : Wd G w f (RowsH hs rs :: L)) : Wd G w f (RowsH (hs.set k hd) rs :: L) := by
  obtain ⟨S, ⟨F, h1, h2, h3⟩, h4, h5⟩ := h.sep
  refine ⟨h.os, h.tape, h.output, h.fro, S, ⟨F, h1, h2, fun i hd' r' hi hr' => ?_⟩, h4, h5⟩
  by_cases hik : i = k
  · subst hik; exact absurd hr' (hr r')
  · rw [List.getElem?_set_ne (fun e => hik e.symm)] at hi
    exact h3 i hd' r' hi hr'
theorem wd_rowsPushN {hd : Hdr} (hl : rs.length = hs.length) (h : Wd G w f (RowsH hs rs :: L)) : Wd G w f (RowsH (hs ++ [hd]) (rs ++ [none]) :: L) := by
  obtain ⟨S, ⟨F, h1, h2, h3⟩, h4, h5⟩ := h.sep
  refine ⟨h.os, h.tape, h.output, h.fro, S, ⟨F, h1, h2, fun i hd' r' hi hr' => ?_⟩, h4, h5⟩
  have hlt := (List.getElem?_eq_some_iff.1 hr').1
  by_cases hik : i = rs.length
  · subst hik
    rw [List.getElem?_append_right (Nat.le_refl _)] at hr'
    simp at hr'
  · simp at hlt
    rw [List.getElem?_append_left (by omega)] at hi hr'
    exact h3 i hd' r' hi hr'
end
section
variable {P : Program} {ρ : Env} {w : World} {dst : Option Tmp} {ty : TypeId} {pos : String} {after : Array Edge} {guard : Option (Nat × Bool)}
theorem run_makeMapE {t : TypeId} : (execOp (ev ρ) ⟨dst, .makeMap t none, ty, pos, after, guard⟩).run P w = .ok (.value (.map (some w.heap.size))) (w.alloc (.map #[] 0)) := by
  simp [execOp, Instr.makeMap, go_sem]
theorem run_lookupE {mt : TypeId} {m x : Operand} {ok : Bool} {v : Value} (h : (Instr.lookup mt (ev ρ m) (ev ρ x) ok).run P w = .ok v w) :
    (execOp (ev ρ) ⟨dst, .lookup mt m x ok, ty, pos, after, guard⟩).run P w = .ok (.value v) w := by
  have e1 : execOp (ev ρ) ⟨dst, .lookup mt m x ok, ty, pos, after, guard⟩ = (Instr.lookup mt (ev ρ m) (ev ρ x) ok).bind (fun v => .pure (.value v)) := rfl
  rw [e1, Sem.run_bind', h]
  rfl
theorem run_mapUpdateE {mt : TypeId} {m x y : Operand} {w' : World} (h : (Instr.mapUpdate mt (ev ρ m) (ev ρ x) (ev ρ y)).run P w = .ok () w') :
    (execOp (ev ρ) ⟨dst, .mapUpdate mt m x y, ty, pos, after, guard⟩).run P w = .ok .skip w' := by
  have e1 : execOp (ev ρ) ⟨dst, .mapUpdate mt m x y, ty, pos, after, guard⟩ = (Instr.mapUpdate mt (ev ρ m) (ev ρ x) (ev ρ y)).bind (fun _ => .pure .skip) := rfl
  rw [e1, Sem.run_bind', h]
  rfl
theorem run_lenMap {t kt et : TypeId} {x : Operand} {r clk : Nat} {es : Array MapEntry} (ht : P.underlying t = some (.map kt et)) (hx : ev ρ x = .map (some r)) (hb : w.heap[r]? = some (.map es clk)) :
    (execOp (ev ρ) ⟨dst, .call { callee := .builtin .len, args := #[x], argTypes := #[t] }, ty, pos, after, guard⟩).run P w = .ok (.value (.int .i64 (es.size : Int))) w := by
  simp [execOp, resolve, invoke, builtin, Builtin.len_, underlying, ht, hx, goInt, MapKept.run_getObj_map hb, go_sem]
theorem run_insertE {mt : TypeId} {m x y : Operand} {w' : World} (h : (Instr.mapUpdate mt (ev ρ m) (ev ρ x) (ev ρ y)).run P w = .ok () w') :
    (execOp (ev ρ) ⟨dst, .insert mt m x y, ty, pos, after, guard⟩).run P w = .ok .skip w' := by
  have e1 : execOp (ev ρ) ⟨dst, .insert mt m x y, ty, pos, after, guard⟩ = (Instr.mapUpdate mt (ev ρ m) (ev ρ x) (ev ρ y)).bind (fun _ => .pure .skip) := rfl
  rw [e1, Sem.run_bind', h]
  rfl
end
end Hk
