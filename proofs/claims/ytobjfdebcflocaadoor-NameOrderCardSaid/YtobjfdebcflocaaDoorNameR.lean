/- Layer 6, pure: entries that are added and taken out. -/
import Derived.Test.YtobjfdebcflocaaDoorNameO
import Derived.Test.YtobjfdebcflocaaDoorQ5
import Derived.Test.YtobjfdebcflocaaDoorQ6
set_option linter.unusedVariables false
set_option linter.unusedSimpArgs false
namespace Go.Proofs.YtobjfdebcflocaaDoor.Pure
open Go.RowKit Go.Proofs.YtobjfdebcflocaaDoor.Q Go.Proofs.YtobjfdebcflocaaDoorW.PrintWords Math

theorem same_self (l : List E) (hl : l.length ≤ 100000) (k : Nat) (hk : l.length < k) : copyholdref06_Same.f k l l = some true := by
  have go : ∀ (n i k : Nat), i + n = l.length → n < k → copyholdref06_Same.l0 k l l (i : Int) = some true := by
    intro n
    induction n with
    | zero => intro i k hi hk; obtain ⟨k, rfl⟩ : ∃ j, k = j + 1 := ⟨k - 1, by omega⟩; rw [copyholdref06_Same.l0, if_neg (by omega)]
    | succ n ih =>
      intro i k hi hk; obtain ⟨k, rfl⟩ : ∃ j, k = j + 1 := ⟨k - 1, by omega⟩
      rw [copyholdref06_Same.l0, if_pos (by omega), if_pos (by omega), if_pos (by omega), if_neg (by simp), w64 (by omega) (by omega), show (i : Int) + 1 = ((i + 1 : Nat) : Int) by omega, ih (i + 1) k (by omega) (by omega)]
  unfold copyholdref06_Same.f
  rw [if_pos rfl, show (0 : Int) = ((0 : Nat) : Int) from rfl, go l.length 0 k (by omega) hk]
theorem same_of {a b : List E} (h : a = b) (hl : a.length ≤ 100000) (k : Nat) (hk : a.length < k) : copyholdref06_Same.f k a b = some true := by
  subst h; exact same_self a hl k hk
theorem name_enter (l : List E) (s : ByteArray) (ino : Int) (hl : l.length ≤ 100000) : name_Enter.f l s ino = some (enterR l s ino) := by unfold name_Enter.f; rw [if_pos (by omega)]
theorem name_leave (l : List E) (s : ByteArray) (hl : l.length ≤ 100000) : name_Leave.f l s = some (leaveR l s) := by unfold name_Leave.f; rw [if_pos (by omega)]
theorem enter_l0 (l : List E) (s : ByteArray) (ino : Int) (hl : l.length ≤ 100000) (p : Nat) (hp : p ≤ l.length) (h1 : ∀ m, (hm : m < l.length) → m < p → lt l[m].f0 s = true) (h2 : ∀ m, (hm : m < l.length) → p ≤ m → lt l[m].f0 s = false) :
    ∀ (n i k : Nat), i + n = p → n < k → copyholdref06_Enter.l0 k l s ino (l.take i) (i : Int) = some (l.take p ++ ⟨s, ino⟩ :: l.drop p, 0) := by
  intro n
  induction n with
  | zero =>
    intro i k hi hk; obtain ⟨k, rfl⟩ : ∃ j, k = j + 1 := ⟨k - 1, by omega⟩
    obtain rfl : i = p := by omega
    have hlen : (l.take i).length < 5864062014805 := by rw [List.length_take]; omega
    have hlen2 : (l.take i ++ [(⟨s, ino⟩ : E)]).length + (l.drop i).length < 5864062014805 := by simp only [List.length_append, List.length_take, List.length_drop, List.length_cons, List.length_nil]; omega
    rw [copyholdref06_Enter.l0]
    by_cases h : i < l.length
    · have hl2 := h2 i h (Nat.le_refl _)
      unfold lt at hl2
      rw [if_pos (by omega), if_pos (by omega), rd_eq, getD_eq l i h, if_neg (by rw [hl2]; decide), if_pos hlen, bs rfl, if_pos (by omega), bs rfl, Int.toNat_natCast, if_pos hlen2, List.append_assoc]; rfl
    · rw [if_neg (by omega), if_pos hlen, bs rfl, if_pos (by omega), if_pos (by omega), bs rfl, Int.toNat_natCast, if_pos hlen2, List.append_assoc]; rfl
  | succ n ih =>
    intro i k hi hk; obtain ⟨k, rfl⟩ : ∃ j, k = j + 1 := ⟨k - 1, by omega⟩
    have h : i < l.length := by omega
    have hl1 := h1 i h (by omega)
    unfold lt at hl1
    have hlen : (l.take i).length < 5864062014805 := by rw [List.length_take]; omega
    rw [copyholdref06_Enter.l0, if_pos (by omega), if_pos (by omega), rd_eq, getD_eq l i h, if_pos hl1, if_pos hlen, w64 (by omega) (by omega), show (i : Int) + 1 = ((i + 1 : Nat) : Int) by omega]
    have e : l.take i ++ [(⟨l[i].f0, l[i].f1⟩ : E)] = l.take (i + 1) := by rw [List.take_succ_eq_append_getElem h]
    rw [e]
    exact ih (i + 1) k (by omega) (by omega)
theorem ref_enter {l : List E} (s : ByteArray) (ino : Int) (hr : RightL l) (k : Nat) (hk : 400 ≤ k) : copyholdref06_Enter.f k l s ino = some (enterR l s ino) := by
  have hlen := hr.len
  obtain ⟨p1, p2, p3⟩ := place_spec l s hr.rise
  unfold copyholdref06_Enter.f enterR
  rw [bs (ref_check s k (by omega)), bs (ref_find l s (by omega) k (by omega))]
  cases hb : badName s with
  | true => rw [if_pos rfl, if_neg (by decide), if_pos rfl]
  | false =>
    rw [show (if (false = true) then (10 : Int) else 0) = 0 from rfl, if_pos rfl, if_neg (show ¬ (false = true) by decide)]
    by_cases h1 : ino < 1
    · rw [if_pos h1, if_pos h1]
    · rw [if_neg h1, if_neg h1]
      cases h2 : isAt l s (placeOf l s) with
      | true =>
        obtain ⟨x, hx, rfl⟩ := (isAt_mem hr.rise).1 h2
        rw [findR_some hr.rise hx, if_pos rfl, if_pos rfl]
      | false =>
        rw [findR_none (fun x hx e => by rw [(isAt_mem hr.rise).2 ⟨x, hx, e⟩] at h2; cases h2)]
        show (if false = true then _ else _) = _
        rw [if_neg (show ¬ (false = true) by decide), if_neg (show ¬ (false = true) by decide)]
        by_cases h3 : (l.length : Int) ≥ 256
        · rw [if_pos h3, if_pos (by omega)]
        · rw [if_neg h3, if_neg (by omega), show (0 : Int) = ((0 : Nat) : Int) from rfl, show ([] : List E) = l.take 0 from rfl, enter_l0 l s ino (by omega) _ p1 p2 p3 (placeOf l s) 0 k (by omega) (by omega)]; rfl
theorem leave_l0 (l : List E) (s : ByteArray) (ino : Int) (hl : l.length ≤ 100000) : ∀ (n i k : Nat) (out : List E), i + n = l.length → n < k → out.length ≤ i → copyholdref06_Leave.l0 k l s ino out (i : Int) = some (out ++ (l.drop i).filter (fun x => x.f0.toList != s.toList), ino, 0) := by
  intro n
  induction n with
  | zero => intro i k out hi hk ho; obtain ⟨k, rfl⟩ : ∃ j, k = j + 1 := ⟨k - 1, by omega⟩; rw [copyholdref06_Leave.l0, if_neg (by omega), List.drop_eq_nil_of_le (by omega)]; simp
  | succ n ih =>
    intro i k out hi hk ho; obtain ⟨k, rfl⟩ : ∃ j, k = j + 1 := ⟨k - 1, by omega⟩
    have h : i < l.length := by omega
    rw [copyholdref06_Leave.l0, if_pos (by omega), if_pos (by omega), rd_eq, getD_eq l i h, List.drop_eq_getElem_cons h, List.filter_cons, w64 (by omega) (by omega), show (i : Int) + 1 = ((i + 1 : Nat) : Int) by omega]
    by_cases e : l[i].f0.toList = s.toList
    · rw [if_pos e, ih (i + 1) k out (by omega) (by omega) (by omega), bne_eq_false_iff_eq.2 e]; rfl
    · rw [if_neg e, if_pos (by omega), ih (i + 1) k _ (by omega) (by omega) (by simp; omega), bne_iff_ne.2 e, if_pos rfl, List.append_assoc]; rfl
theorem filter_at {l : List E} {s : ByteArray} {p : Nat} (hp : p < l.length) (he : l[p].f0 = s) (hs : l.Pairwise fun a b => lt a.f0 b.f0 = true) : l.filter (fun x => x.f0.toList != s.toList) = l.take p ++ l.drop (p + 1) := by
  have hl : l = l.take p ++ (l[p] :: l.drop (p + 1)) := by rw [← List.drop_eq_getElem_cons hp, List.take_append_drop]
  have ne : ∀ m, (hm : m < l.length) → m ≠ p → (l[m].f0.toList != s.toList) = true := fun m hm hne => by
    rw [bne_iff_ne, ← he]
    intro e
    have e' := toLe.1 e
    rcases Nat.lt_or_gt_of_ne hne with h | h
    · have := List.pairwise_iff_getElem.1 hs m p hm hp h; rw [e', lt_irrefl] at this; cases this
    · have := List.pairwise_iff_getElem.1 hs p m hp hm h; rw [e', lt_irrefl] at this; cases this
  have h1 : (l.take p).filter (fun x => x.f0.toList != s.toList) = l.take p := List.filter_eq_self.2 fun x hx => by
    obtain ⟨m, hm, rfl⟩ := List.getElem_of_mem hx
    rw [List.length_take] at hm
    rw [List.getElem_take]
    exact ne m (by omega) (by omega)
  have h2 : (l.drop (p + 1)).filter (fun x => x.f0.toList != s.toList) = l.drop (p + 1) := List.filter_eq_self.2 fun x hx => by
    obtain ⟨m, hm, rfl⟩ := List.getElem_of_mem hx
    rw [List.length_drop] at hm
    rw [List.getElem_drop]
    exact ne (p + 1 + m) (by omega) (by omega)
  have h3 : (l[p].f0.toList != s.toList) = false := by rw [bne_eq_false_iff_eq, he]
  conv => lhs; rw [hl]
  rw [List.filter_append, List.filter_cons, h1, h2, h3]; rfl
theorem ref_leave {l : List E} (s : ByteArray) (hr : RightL l) (k : Nat) (hk : 400 ≤ k) : copyholdref06_Leave.f k l s = some (leaveR l s) := by
  have hlen := hr.len
  unfold copyholdref06_Leave.f leaveR
  rw [bs (ref_find l s (by omega) k (by omega))]
  cases h2 : isAt l s (placeOf l s) with
  | true =>
    obtain ⟨hp, e⟩ := (isAt_iff _ _ _).1 h2
    have hf := findR_some hr.rise (List.getElem_mem hp)
    rw [e] at hf
    rw [hf, if_pos rfl, if_pos rfl, show (0 : Int) = ((0 : Nat) : Int) from rfl, leave_l0 l s _ (by omega) l.length 0 k [] (by omega) (by omega) (by simp), getD_eq l _ hp, List.drop_zero, List.nil_append, filter_at hp e hr.rise]; rfl
  | false =>
    rw [findR_none (fun x hx e => by rw [(isAt_mem hr.rise).2 ⟨x, hx, e⟩] at h2; cases h2)]
    show (if false = true then _ else _) = _
    rw [if_neg (show ¬ (false = true) by decide), if_neg (show ¬ (false = true) by decide)]
/-- An entry is found past another one. -/
theorem findR_past (A B : List E) (x : E) (s : ByteArray) (h : x.f0 ≠ s) : findR (A ++ x :: B) s = findR (A ++ B) s := by
  unfold findR
  have : (x.f0.toList == s.toList) = false := by simpa using fun e => h (toLe.1 e)
  rw [List.find?_append, List.find?_append, List.find?_cons, this]
/-- What Enter makes of a right row is right; the entry stands at its place. -/
theorem entered {l : List E} {s : ByteArray} {ino : Int} (hr : RightL l) (h1 : badName s = false) (h2 : 1 ≤ ino) (h3 : isAt l s (placeOf l s) = false) (h4 : l.length < 256) :
    RightL (l.take (placeOf l s) ++ ⟨s, ino⟩ :: l.drop (placeOf l s)) ∧ placeOf (l.take (placeOf l s) ++ ⟨s, ino⟩ :: l.drop (placeOf l s)) s = placeOf l s := by
  obtain ⟨p1, p2, p3⟩ := place_spec l s hr.rise
  have hno : ∀ x ∈ l, x.f0 ≠ s := fun x hx e => by rw [(isAt_mem hr.rise).2 ⟨x, hx, e⟩] at h3; cases h3
  generalize placeOf l s = p at *
  have lo : ∀ x ∈ l.take p, lt x.f0 s = true := fun x hx => by
    obtain ⟨m, hm, rfl⟩ := List.getElem_of_mem hx
    rw [List.length_take] at hm
    rw [List.getElem_take]
    exact p2 m (by omega) (by omega)
  have hi : ∀ x ∈ l.drop p, lt s x.f0 = true := fun x hx => by
    obtain ⟨m, hm, rfl⟩ := List.getElem_of_mem hx
    rw [List.length_drop] at hm
    rw [List.getElem_drop]
    have k1 := p3 (p + m) (by omega) (by omega)
    cases k2 : lt s l[p + m].f0
    · exact absurd (lt_tri k1 k2) (hno _ (List.getElem_mem _))
    · rfl
  have hrise : (l.take p ++ (⟨s, ino⟩ : E) :: l.drop p).Pairwise fun a b => lt a.f0 b.f0 = true := by
    rw [List.pairwise_append, List.pairwise_cons]
    refine ⟨hr.rise.sublist (List.take_sublist _ _), ⟨hi, hr.rise.sublist (List.drop_sublist _ _)⟩, fun x hx y hy => ?_⟩
    rcases List.mem_cons.1 hy with rfl | hy
    · exact lo x hx
    · exact lt_trans (lo x hx) (hi y hy)
  refine ⟨⟨?_, ?_, hrise⟩, ?_⟩
  · simp only [List.length_append, List.length_take, List.length_cons, List.length_drop]; omega
  · intro x hx
    rcases List.mem_append.1 hx with h | h
    · exact hr.good x (List.mem_of_mem_take h)
    · rcases List.mem_cons.1 h with rfl | h
      · exact ⟨h1, h2⟩
      · exact hr.good x (List.mem_of_mem_drop h)
  · obtain ⟨q1, q2, q3⟩ := place_spec _ s hrise
    have hlen : (l.take p ++ (⟨s, ino⟩ : E) :: l.drop p).length = l.length + 1 := by simp only [List.length_append, List.length_take, List.length_cons, List.length_drop]; omega
    have hat : (l.take p ++ (⟨s, ino⟩ : E) :: l.drop p)[p]'(by omega) = ⟨s, ino⟩ := by
      rw [List.getElem_append_right (by rw [List.length_take]; omega)]
      simp [List.length_take, Nat.min_eq_left p1]
    rcases Nat.lt_trichotomy (placeOf (l.take p ++ (⟨s, ino⟩ : E) :: l.drop p) s) p with h | h | h
    · have k1 := q3 _ (by omega) (Nat.le_refl _)
      rw [List.getElem_append_left (by rw [List.length_take]; omega)] at k1
      rw [lo _ (List.getElem_mem _)] at k1
      cases k1
    · exact h
    · have k1 := q2 p (by omega) h
      rw [hat, lt_irrefl] at k1; cases k1
end Go.Proofs.YtobjfdebcflocaaDoor.Pure
