/- Layer 6, pure: what is entered in any order stands in one order. -/
import Derived.Test.YtobjfdebcflocaaDoorNameR
import Derived.Test.YtobjfdebcflocaaDoorQ7
set_option linter.unusedVariables false
set_option linter.unusedSimpArgs false
namespace Go.Proofs.YtobjfdebcflocaaDoor.Pure
open Go.RowKit Go.Proofs.YtobjfdebcflocaaDoor.Q Go.Proofs.YtobjfdebcflocaaDoorW.PrintWords Math

theorem long_some (l : List ByteArray) (hl : l.length ≤ 9223372036854775806) (k : Nat) (hk : l.length < k) : ∃ v, copyholdref01_Long.f k l = some v := by
  have go : ∀ (n i k : Nat) (acc : Int), i + n = l.length → n < k → ∃ v, copyholdref01_Long.l0 k l acc (i : Int) = some v := by
    intro n
    induction n with
    | zero => intro i k acc hi hk; obtain ⟨k, rfl⟩ : ∃ j, k = j + 1 := ⟨k - 1, by omega⟩; exact ⟨acc, by rw [copyholdref01_Long.l0, if_neg (by omega)]⟩
    | succ n ih =>
      intro i k acc hi hk; obtain ⟨k, rfl⟩ : ∃ j, k = j + 1 := ⟨k - 1, by omega⟩
      obtain ⟨v, hv⟩ := ih (i + 1) k (wrap64 (acc + ((rdOf ByteArray.empty l (i : Int)).size : Int))) (by omega) (by omega)
      exact ⟨v, by rw [copyholdref01_Long.l0, if_pos (by omega), if_pos (by omega), w64 (n := (i : Int) + 1) (by omega) (by omega), show (i : Int) + 1 = ((i + 1 : Nat) : Int) by omega]; exact hv⟩
  unfold copyholdref01_Long.f
  exact go l.length 0 k (l.length : Int) (by omega) hk
/-- All of these entered one behind the other. -/
def adds (xs : List ByteArray) : List E := xs.foldl (fun a s => (enterR a s 7).1) []
theorem adds_snoc (xs : List ByteArray) (s : ByteArray) : adds (xs ++ [s]) = (enterR (adds xs) s 7).1 := by unfold adds; rw [List.foldl_append]; rfl
structure Inv (xs : List ByteArray) (a : List E) : Prop where
  right : RightL a
  len : a.length ≤ xs.length
  mem : ∀ x : E, x ∈ a ↔ x.f1 = 7 ∧ badName x.f0 = false ∧ x.f0 ∈ xs
theorem enter_mem (l : List E) (p : Nat) (y x : E) : x ∈ l.take p ++ y :: l.drop p ↔ x = y ∨ x ∈ l := by
  conv => rhs; rw [← List.take_append_drop p l]
  simp only [List.mem_append, List.mem_cons]
  constructor
  · rintro (h | h | h)
    · exact .inr (.inl h)
    · exact .inl h
    · exact .inr (.inr h)
  · rintro (h | h | h)
    · exact .inr (.inl h)
    · exact .inl h
    · exact .inr (.inr h)
theorem inv_step {xs : List ByteArray} {a : List E} (h : Inv xs a) (hl : xs.length < 200) (s : ByteArray) : Inv (xs ++ [s]) (enterR a s 7).1 := by
  have hlen := h.len
  have hz : (xs ++ [s]).length = xs.length + 1 := by simp
  unfold enterR
  cases h1 : badName s with
  | true =>
    rw [if_pos rfl]
    refine ⟨h.right, by show a.length ≤ _; omega, fun x => ?_⟩
    rw [h.mem, List.mem_append, List.mem_singleton]
    constructor
    · rintro ⟨u, v, w⟩; exact ⟨u, v, .inl w⟩
    · rintro ⟨u, v, w | w⟩
      · exact ⟨u, v, w⟩
      · rw [w, h1] at v; cases v
  | false =>
    rw [if_neg (by decide), if_neg (by decide)]
    cases h3 : isAt a s (placeOf a s) with
    | true =>
      rw [if_pos rfl]
      refine ⟨h.right, by show a.length ≤ _; omega, fun x => ?_⟩
      obtain ⟨y, hy, e⟩ := (isAt_mem h.right.rise).1 h3
      have hy := (h.mem y).1 hy
      rw [h.mem, List.mem_append, List.mem_singleton]
      constructor
      · rintro ⟨u, v, w⟩; exact ⟨u, v, .inl w⟩
      · rintro ⟨u, v, w | w⟩
        · exact ⟨u, v, w⟩
        · exact ⟨u, v, by rw [w, ← e]; exact hy.2.2⟩
    | false =>
      rw [if_neg (by decide), if_neg (by omega)]
      have hE := (entered (ino := 7) h.right h1 (by decide) h3 (by omega)).1
      refine ⟨hE, by simp only [List.length_append, List.length_take, List.length_cons, List.length_drop] at *; omega, fun x => ?_⟩
      show x ∈ a.take (placeOf a s) ++ (⟨s, 7⟩ : E) :: a.drop (placeOf a s) ↔ _
      rw [enter_mem, h.mem, List.mem_append, List.mem_singleton]
      constructor
      · rintro (rfl | ⟨u, v, w⟩)
        · exact ⟨rfl, h1, .inr rfl⟩
        · exact ⟨u, v, .inl w⟩
      · rintro ⟨u, v, w | w⟩
        · exact .inr ⟨u, v, w⟩
        · left; cases x; simp only at u w; rw [u, w]
theorem inv_nil : Inv [] [] := ⟨⟨by decide, fun x hx => (by cases hx), List.Pairwise.nil⟩, Nat.le_refl _, fun x => by simp⟩
theorem inv_adds (xs : List ByteArray) : xs.length ≤ 200 → Inv xs (adds xs) := by
  have go : ∀ (n : Nat), n ≤ xs.length → n ≤ 200 → Inv (xs.take n) (adds (xs.take n)) := by
    intro n
    induction n with
    | zero => intro _ _; exact inv_nil
    | succ n ih =>
      intro h1 h2
      rw [List.take_succ_eq_append_getElem (by omega), adds_snoc]
      exact inv_step (ih (by omega) (by omega)) (by rw [List.length_take]; omega) _
  intro h
  have := go xs.length (Nat.le_refl _) h
  rwa [List.take_of_length_le (Nat.le_refl _)] at this
theorem sorted_ext : ∀ (a b : List E), (a.Pairwise fun x y => lt x.f0 y.f0 = true) → (b.Pairwise fun x y => lt x.f0 y.f0 = true) → (∀ x, x ∈ a ↔ x ∈ b) → a = b
  | [], [], _, _, _ => rfl
  | [], y :: b, _, _, h => by have := (h y).2 (List.mem_cons_self ..); cases this
  | x :: a, [], _, _, h => by have := (h x).1 (List.mem_cons_self ..); cases this
  | x :: a, y :: b, ha, hb, h => by
    rw [List.pairwise_cons] at ha hb
    have e : x = y := by
      rcases List.mem_cons.1 ((h x).1 (List.mem_cons_self ..)) with e | e
      · exact e
      · rcases List.mem_cons.1 ((h y).2 (List.mem_cons_self ..)) with e' | e'
        · exact e'.symm
        · have k1 := hb.1 x e
          have k2 := ha.1 y e'
          rw [lt_asym k1] at k2; cases k2
    subst e
    congr 1
    refine sorted_ext a b ha.2 hb.2 fun z => ?_
    constructor
    · intro hz
      rcases List.mem_cons.1 ((h z).1 (List.mem_cons_of_mem _ hz)) with e | e
      · have := ha.1 z hz; rw [e, lt_irrefl] at this; cases this
      · exact e
    · intro hz
      rcases List.mem_cons.1 ((h z).2 (List.mem_cons_of_mem _ hz)) with e | e
      · have := hb.1 z hz; rw [e, lt_irrefl] at this; cases this
      · exact e
theorem adds_reverse (l : List ByteArray) (hl : l.length ≤ 200) : adds l.reverse = adds l := by
  have h1 := inv_adds l hl
  have h2 := inv_adds l.reverse (by rw [List.length_reverse]; exact hl)
  refine sorted_ext _ _ h2.right.rise h1.right.rise fun x => ?_
  rw [h1.mem, h2.mem, List.mem_reverse]
theorem adds_find (l : List ByteArray) (hl : l.length ≤ 200) (s : ByteArray) (hs : s ∈ l) : findR (adds l) s = if badName s then (0, false) else (7, true) := by
  have h := inv_adds l hl
  cases hb : badName s with
  | true =>
    rw [if_pos rfl]
    refine findR_none fun x hx e => ?_
    have := ((h.mem x).1 hx).2.1
    rw [e, hb] at this; cases this
  | false =>
    rw [if_neg (by decide)]
    have hx : (⟨s, 7⟩ : E) ∈ adds l := (h.mem _).2 ⟨rfl, hb, hs⟩
    exact findR_some h.right.rise hx
theorem adds_len (l : List ByteArray) (hl : l.length ≤ 30) : (adds l).length ≤ 30 := Nat.le_trans (inv_adds l (by omega)).len hl
end Go.Proofs.YtobjfdebcflocaaDoor.Pure
