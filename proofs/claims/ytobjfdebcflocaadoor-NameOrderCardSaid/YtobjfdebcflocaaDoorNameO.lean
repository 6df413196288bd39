/- Layer 6, pure: right rows; where an entry stands in one; what is found. -/
import Derived.Test.YtobjfdebcflocaaDoorNameP
import Derived.Test.YtobjfdebcflocaaDoorQ3
import Derived.Test.YtobjfdebcflocaaDoorQ4
set_option linter.unusedVariables false
set_option linter.unusedSimpArgs false
namespace Go.Proofs.YtobjfdebcflocaaDoor.Pure
open Go.RowKit Go.Proofs.YtobjfdebcflocaaDoor.Q Go.Proofs.YtobjfdebcflocaaDoorW.PrintWords Math

abbrev E := S56
def lt (a b : ByteArray) : Bool := Op.bytesLess a.toList b.toList
/-- Is the entry at a place right? -/
def okAt (l : List E) (i : Nat) : Bool := !badName (l.getD i z56).f0 && decide (1 ≤ (l.getD i z56).f1) && (decide (i = 0) || lt (l.getD (i - 1) z56).f0 (l.getD i z56).f0)
def okFrom (l : List E) : Nat → Nat → Bool
  | 0, _ => true
  | n + 1, i => okAt l i && okFrom l n (i + 1)
def rightB (l : List E) : Bool := decide (l.length ≤ 256) && okFrom l l.length 0
theorem okFrom_at (l : List E) : ∀ n i, okFrom l n i = true → ∀ j, i ≤ j → j < i + n → okAt l j = true
  | 0, i, _, j, h1, h2 => by omega
  | n + 1, i, h, j, h1, h2 => by
    have h' : (okAt l i && okFrom l n (i + 1)) = true := h
    rw [Bool.and_eq_true] at h'
    by_cases e : j = i
    · subst e; exact h'.1
    · exact okFrom_at l n (i + 1) h'.2 j (by omega) (by omega)
theorem okFrom_of (l : List E) : ∀ n i, (∀ j, i ≤ j → j < i + n → okAt l j = true) → okFrom l n i = true
  | 0, _, _ => rfl
  | n + 1, i, h => by
    show (okAt l i && okFrom l n (i + 1)) = true
    rw [h i (by omega) (by omega), okFrom_of l n (i + 1) (fun j h1 h2 => h j (by omega) (by omega))]; rfl
theorem rd_eq (l : List E) (i : Nat) : rd_T56 l (i : Int) = l.getD i z56 := by unfold rd_T56; rw [Int.toNat_natCast]
theorem right_l0 (l : List E) (hl : l.length ≤ 100000) : ∀ (n i k : Nat), i + n = l.length → n + 40 < k → copyholdref06_Right.l0 k l (i : Int) = some (okFrom l n i) := by
  intro n
  induction n with
  | zero => intro i k hi hk; obtain ⟨k, rfl⟩ : ∃ j, k = j + 1 := ⟨k - 1, by omega⟩; rw [copyholdref06_Right.l0, if_neg (by omega)]; rfl
  | succ n ih =>
    intro i k hi hk; obtain ⟨k, rfl⟩ : ∃ j, k = j + 1 := ⟨k - 1, by omega⟩
    rw [copyholdref06_Right.l0, if_pos (by omega), if_pos (by omega), rd_eq, bs (ref_check _ k (by omega))]
    show _ = some (okAt l i && okFrom l n (i + 1))
    unfold okAt
    generalize hx : l.getD i z56 = x
    cases hb : badName x.f0 with
    | true => rw [if_pos rfl, if_neg (by decide)]; rfl
    | false =>
      rw [show (if (false = true) then (10 : Int) else 0) = 0 from rfl, if_pos rfl]
      by_cases h1 : x.f1 < 1
      · rw [if_pos h1, decide_eq_false (by omega)]; rfl
      · rw [if_neg h1, decide_eq_true (show 1 ≤ x.f1 by omega)]
        have IH := ih (i + 1) k (by omega) (by omega)
        have e1 : ((i + 1 : Nat) : Int) = (i : Int) + 1 := by omega
        by_cases h2 : (i : Int) > 0
        · have e2 : (i : Int) - 1 = ((i - 1 : Nat) : Int) := by omega
          rw [if_pos h2, w64 (n := (i : Int) - 1) (by omega) (by omega), w64 (n := (i : Int) + 1) (by omega) (by omega), e2, if_pos (by omega), if_pos (by omega), rd_eq, ← e1, IH, decide_eq_false (show ¬ i = 0 by omega)]
          show (if lt _ _ = true then _ else _) = _
          cases lt (l.getD (i - 1) z56).f0 x.f0 <;> rfl
        · have e3 : i = 0 := by omega
          rw [if_neg h2, w64 (n := (i : Int) + 1) (by omega) (by omega), ← e1, IH, decide_eq_true e3]; rfl
theorem ref_right (l : List E) (k : Nat) (hk : 400 ≤ k) : copyholdref06_Right.f k l = some (rightB l) := by
  unfold copyholdref06_Right.f rightB
  by_cases h : (l.length : Int) > 256
  · rw [if_pos h, decide_eq_false (show ¬ l.length ≤ 256 by omega)]; rfl
  · rw [if_neg h, decide_eq_true (show l.length ≤ 256 by omega), show (0 : Int) = ((0 : Nat) : Int) from rfl, right_l0 l (by omega) l.length 0 k (by omega) (by omega)]; rfl
theorem nright_l0 (l : List E) (hl : l.length ≤ 100000) : ∀ (n i k : Nat), i + n = l.length → n + 40 < k → name_Right.l0 k l l (l.length : Int) (i : Int) = some (okFrom l n i && decide (l.length ≤ 256)) := by
  intro n
  induction n with
  | zero => intro i k hi hk; obtain ⟨k, rfl⟩ : ∃ j, k = j + 1 := ⟨k - 1, by omega⟩; rw [name_Right.l0, if_neg (by omega)]; simp [okFrom]; omega
  | succ n ih =>
    intro i k hi hk; obtain ⟨k, rfl⟩ : ∃ j, k = j + 1 := ⟨k - 1, by omega⟩
    rw [name_Right.l0, if_pos (by omega), if_pos (by omega), if_pos (by omega), rd_eq, bs (name_check _)]
    show _ = some ((okAt l i && okFrom l n (i + 1)) && decide (l.length ≤ 256))
    unfold okAt
    generalize hx : l.getD i z56 = x
    cases hb : badName x.f0 with
    | true => rw [if_pos rfl, if_neg (by decide)]; rfl
    | false =>
      rw [show (if (false = true) then (10 : Int) else 0) = 0 from rfl, if_pos rfl]
      by_cases h1 : x.f1 < 1
      · rw [if_pos h1, decide_eq_false (by omega)]; rfl
      · rw [if_neg h1, decide_eq_true (show 1 ≤ x.f1 by omega)]
        have IH := ih (i + 1) k (by omega) (by omega)
        have e1 : ((i + 1 : Nat) : Int) = (i : Int) + 1 := by omega
        by_cases h2 : (i : Int) > 0
        · have e2 : (i : Int) - 1 = ((i - 1 : Nat) : Int) := by omega
          rw [if_pos h2, w64 (n := (i : Int) - 1) (by omega) (by omega), w64 (n := (i : Int) + 1) (by omega) (by omega), e2, if_pos (by omega), if_pos (by omega), rd_eq, ← e1, IH, decide_eq_false (show ¬ i = 0 by omega)]
          show (if lt _ _ = true then _ else _) = _
          cases lt (l.getD (i - 1) z56).f0 x.f0 <;> rfl
        · have e3 : i = 0 := by omega
          rw [if_neg h2, w64 (n := (i : Int) + 1) (by omega) (by omega), ← e1, IH, decide_eq_true e3]; rfl
theorem name_right (l : List E) (hl : l.length ≤ 10000) (k : Nat) (hk : 20000 ≤ k) : name_Right.f k l = some (rightB l) := by
  unfold name_Right.f rightB
  rw [show (0 : Int) = ((0 : Nat) : Int) from rfl, nright_l0 l (by omega) l.length 0 k (by omega) (by omega), Bool.and_comm]
/-- A right row, told by its places. -/
structure RightL (l : List E) : Prop where
  len : l.length ≤ 256
  good : ∀ x ∈ l, badName x.f0 = false ∧ 1 ≤ x.f1
  rise : l.Pairwise fun a b => lt a.f0 b.f0 = true
theorem lt_trans {a b c : ByteArray} (h : lt a b = true) (k : lt b c = true) : lt a c = true := bl_trans _ _ _ h k
theorem lt_irrefl (a : ByteArray) : lt a a = false := bl_irrefl _
theorem lt_asym {a b : ByteArray} (h : lt a b = true) : lt b a = false := bl_asym h
theorem lt_tri {a b : ByteArray} (h : lt a b = false) (k : lt b a = false) : a = b := toLe.1 (bl_tri _ _ h k)
theorem getD_eq (l : List E) (i : Nat) (h : i < l.length) : l.getD i z56 = l[i] := by rw [List.getD_eq_getElem?_getD, List.getElem?_eq_getElem h]; rfl
theorem rightL_of {l : List E} (h : rightB l = true) : RightL l := by
  unfold rightB at h
  rw [Bool.and_eq_true, decide_eq_true_eq] at h
  have hat : ∀ j, j < l.length → okAt l j = true := fun j hj => okFrom_at l _ _ h.2 j (Nat.zero_le _) (by omega)
  refine ⟨h.1, fun x hx => ?_, ?_⟩
  · obtain ⟨j, hj, rfl⟩ := List.getElem_of_mem hx
    have := hat j hj
    unfold okAt at this
    rw [getD_eq l j hj] at this
    simp only [Bool.and_eq_true, Bool.not_eq_true', decide_eq_true_eq] at this
    exact this.1
  · have step : ∀ j, (hj : j + 1 < l.length) → lt l[j].f0 l[j + 1].f0 = true := fun j hj => by
      have := hat (j + 1) hj
      unfold okAt at this
      rw [getD_eq l (j + 1) hj, Nat.add_sub_cancel, getD_eq l j (by omega)] at this
      simp only [Bool.and_eq_true, Bool.or_eq_true, decide_eq_true_eq] at this
      rcases this.2 with h | h
      · omega
      · exact h
    rw [List.pairwise_iff_getElem]
    intro i j hi hj hij
    obtain ⟨d, rfl⟩ : ∃ d, j = i + 1 + d := ⟨j - i - 1, by omega⟩
    clear hij
    induction d with
    | zero => exact step i hj
    | succ d ih => exact lt_trans (ih (by omega)) (step (i + 1 + d) hj)
theorem rightB_of {l : List E} (h : RightL l) : rightB l = true := by
  unfold rightB
  rw [Bool.and_eq_true, decide_eq_true_eq]
  refine ⟨h.len, okFrom_of l _ _ fun j _ hj => ?_⟩
  have hj' : j < l.length := by omega
  unfold okAt
  rw [getD_eq l j hj']
  have hg := h.good l[j] (List.getElem_mem hj')
  rw [hg.1, decide_eq_true hg.2]
  by_cases e : j = 0
  · rw [decide_eq_true e]; rfl
  · rw [getD_eq l (j - 1) (by omega), List.pairwise_iff_getElem.1 h.rise (j - 1) j (by omega) hj' (by omega)]; simp
/-- What the binary search comes to in rising names. -/
theorem bs_spec (l : List E) (s : ByteArray) (hs : l.Pairwise fun a b => lt a.f0 b.f0 = true) : ∀ (k i j : Nat), i ≤ j → j ≤ l.length → j - i ≤ k → (∀ m, (hm : m < l.length) → m < i → lt l[m].f0 s = true) → (∀ m, (hm : m < l.length) → j ≤ m → lt l[m].f0 s = false) →
    bsGo l s k i j ≤ l.length ∧ (∀ m, (hm : m < l.length) → m < bsGo l s k i j → lt l[m].f0 s = true) ∧ (∀ m, (hm : m < l.length) → bsGo l s k i j ≤ m → lt l[m].f0 s = false) := by
  intro k
  induction k with
  | zero =>
    intro i j h1 h2 h3 h4 h5
    show i ≤ _ ∧ (∀ m, (hm : m < l.length) → m < i → _) ∧ (∀ m, (hm : m < l.length) → i ≤ m → _)
    exact ⟨by omega, h4, fun m hm h => h5 m hm (by omega)⟩
  | succ k ih =>
    intro i j h1 h2 h3 h4 h5
    have hdef : bsGo l s (k + 1) i j = if i < j then (if Lib.compareBytes (l.getD ((i + j) / 2) z56).f0.data.toList s.data.toList < 0 then bsGo l s k ((i + j) / 2 + 1) j else bsGo l s k i ((i + j) / 2)) else i := rfl
    rw [hdef]
    by_cases hlt : i < j
    · rw [if_pos hlt]
      have hm : (i + j) / 2 < l.length := by omega
      rw [getD_eq l _ hm]
      have hc : Lib.compareBytes l[(i + j) / 2].f0.data.toList s.data.toList < 0 ↔ lt l[(i + j) / 2].f0 s = true := by rw [cb_lt]; unfold lt; rw [tl, tl]
      by_cases hx : lt l[(i + j) / 2].f0 s = true
      · rw [if_pos (hc.2 hx)]
        refine ih ((i + j) / 2 + 1) j (by omega) h2 (by omega) (fun m hml hm2 => ?_) h5
        by_cases e : m = (i + j) / 2
        · subst e; exact hx
        · exact lt_trans (List.pairwise_iff_getElem.1 hs m ((i + j) / 2) hml hm (by omega)) hx
      · rw [if_neg (fun h => hx (hc.1 h))]
        refine ih i ((i + j) / 2) (by omega) (by omega) (by omega) h4 (fun m hml hm2 => ?_)
        by_cases e : m = (i + j) / 2
        · subst e; simpa using hx
        · cases hk : lt l[m].f0 s
          · rfl
          · exact absurd (lt_trans (List.pairwise_iff_getElem.1 hs ((i + j) / 2) m hm hml (by omega)) hk) hx
    · rw [if_neg hlt]
      exact ⟨by omega, h4, fun m hm h => h5 m hm (by omega)⟩
theorem place_spec (l : List E) (s : ByteArray) (hs : l.Pairwise fun a b => lt a.f0 b.f0 = true) :
    placeOf l s ≤ l.length ∧ (∀ m, (hm : m < l.length) → m < placeOf l s → lt l[m].f0 s = true) ∧ (∀ m, (hm : m < l.length) → placeOf l s ≤ m → lt l[m].f0 s = false) :=
  bs_spec l s hs _ _ _ (Nat.zero_le _) (Nat.le_refl _) (by omega) (fun m _ h => by omega) (fun m hm h => by omega)
theorem isAt_iff (l : List E) (s : ByteArray) (i : Nat) : isAt l s i = true ↔ ∃ h : i < l.length, l[i].f0 = s := by
  unfold isAt
  rw [Bool.and_eq_true, decide_eq_true_eq, decide_eq_true_eq]
  constructor
  · rintro ⟨h, k⟩
    refine ⟨h, ?_⟩
    rw [getD_eq l i h, cb_eq] at k
    exact inj k
  · rintro ⟨h, k⟩
    refine ⟨h, ?_⟩
    rw [getD_eq l i h, cb_eq, k]
/-- The first entry of a name. -/
def findR (l : List E) (s : ByteArray) : Int × Bool := match l.find? (fun x => x.f0.toList == s.toList) with | some x => (x.f1, true) | none => (0, false)
theorem find_l0 (l : List E) (s : ByteArray) (hl : l.length ≤ 100000) : ∀ (n i k : Nat), i + n = l.length → n < k → copyholdref06_Find.l0 k l s (i : Int) = some (findR (l.drop i) s) := by
  intro n
  induction n with
  | zero => intro i k hi hk; obtain ⟨k, rfl⟩ : ∃ j, k = j + 1 := ⟨k - 1, by omega⟩; rw [copyholdref06_Find.l0, if_neg (by omega), List.drop_eq_nil_of_le (by omega)]; rfl
  | succ n ih =>
    intro i k hi hk; obtain ⟨k, rfl⟩ : ∃ j, k = j + 1 := ⟨k - 1, by omega⟩
    have h : i < l.length := by omega
    rw [copyholdref06_Find.l0, if_pos (by omega), if_pos (by omega), rd_eq, getD_eq l i h, List.drop_eq_getElem_cons h]
    unfold findR
    rw [List.find?_cons]
    by_cases e : l[i].f0.toList = s.toList
    · rw [if_pos e, beq_iff_eq.2 e]
    · rw [if_neg e, beq_eq_false_iff_ne.2 e, w64 (by omega) (by omega), show (i : Int) + 1 = ((i + 1 : Nat) : Int) by omega]
      exact ih (i + 1) k (by omega) (by omega)
theorem ref_find (l : List E) (s : ByteArray) (hl : l.length ≤ 100000) (k : Nat) (hk : l.length < k) : copyholdref06_Find.f k l s = some (findR l s) := by
  unfold copyholdref06_Find.f
  rw [show (0 : Int) = ((0 : Nat) : Int) from rfl, find_l0 l s hl l.length 0 k (by omega) hk]; rfl
theorem findR_some {l : List E} {x : E} (hs : l.Pairwise fun a b => lt a.f0 b.f0 = true) (hx : x ∈ l) : findR l x.f0 = (x.f1, true) := by
  unfold findR
  cases h : l.find? (fun y => y.f0.toList == x.f0.toList) with
  | none => exact absurd (List.find?_eq_none.1 h x hx) (by simp)
  | some y =>
    have hy := List.find?_some h
    have hym := List.mem_of_find?_eq_some h
    have e : y.f0 = x.f0 := toLe.1 (by simpa using hy)
    obtain ⟨i, hi, rfl⟩ := List.getElem_of_mem hx
    obtain ⟨j, hj, rfl⟩ := List.getElem_of_mem hym
    have : i = j := by
      rcases Nat.lt_trichotomy i j with h | h | h
      · have := List.pairwise_iff_getElem.1 hs i j hi hj h; rw [e, lt_irrefl] at this; cases this
      · exact h
      · have := List.pairwise_iff_getElem.1 hs j i hj hi h; rw [e, lt_irrefl] at this; cases this
    subst this; rfl
theorem findR_none {l : List E} {s : ByteArray} (h : ∀ x ∈ l, x.f0 ≠ s) : findR l s = (0, false) := by
  unfold findR
  have : l.find? (fun y => y.f0.toList == s.toList) = none := List.find?_eq_none.2 fun x hx => by
    intro e
    exact h x hx (toLe.1 (by simpa using e))
  rw [this]
/-- In rising names an entry is where the search says. -/
theorem isAt_mem {l : List E} {s : ByteArray} (hs : l.Pairwise fun a b => lt a.f0 b.f0 = true) : isAt l s (placeOf l s) = true ↔ ∃ x ∈ l, x.f0 = s := by
  obtain ⟨h1, h2, h3⟩ := place_spec l s hs
  rw [isAt_iff]
  constructor
  · rintro ⟨h, e⟩; exact ⟨_, List.getElem_mem h, e⟩
  · rintro ⟨x, hx, e⟩
    obtain ⟨i, hi, rfl⟩ := List.getElem_of_mem hx
    have hp : placeOf l s ≤ i := by
      rcases Nat.lt_or_ge i (placeOf l s) with h | h
      · have := h2 i hi h; rw [e, lt_irrefl] at this; cases this
      · exact h
    have hpl : placeOf l s < l.length := by omega
    refine ⟨hpl, ?_⟩
    rcases Nat.lt_or_ge (placeOf l s) i with h | h
    · have k1 := List.pairwise_iff_getElem.1 hs _ i hpl hi h
      rw [e] at k1
      have k2 := h3 _ hpl (Nat.le_refl _)
      rw [k1] at k2; cases k2
    · have : placeOf l s = i := by omega
      simp only [this]; exact e
theorem name_find {l : List E} (s : ByteArray) (hs : l.Pairwise fun a b => lt a.f0 b.f0 = true) (hl : l.length ≤ 100000) : name_Find.f l s = some (findR l s) := by
  unfold name_Find.f name_place.f
  rw [if_pos (by omega), bs rfl]
  cases h : isAt l s (placeOf l s) with
  | true =>
    obtain ⟨hp, e⟩ := (isAt_iff _ _ _).1 h
    rw [if_pos rfl, if_pos (by omega), if_pos (by show (placeOf l s : Int) < _; omega)]
    show some ((rd_T56 l (placeOf l s : Nat)).f1, true) = _
    rw [rd_eq, getD_eq l _ hp, ← findR_some hs (List.getElem_mem hp), e]
  | false =>
    show (if false = true then _ else some (0, false)) = _
    rw [if_neg (by decide), findR_none]
    intro x hx e
    rw [(isAt_mem hs).2 ⟨x, hx, e⟩] at h
    cases h
end Go.Proofs.YtobjfdebcflocaaDoor.Pure
