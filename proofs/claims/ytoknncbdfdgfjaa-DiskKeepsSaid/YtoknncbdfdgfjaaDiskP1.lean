/- Layer 4, pure: which disks are right, and what is left of them. -/
import Derived.Test.YtoknncbdfdgfjaaQ2
import Derived.Test.YtoknncbdfdgfjaaMath
set_option linter.unusedVariables false
set_option linter.unusedSimpArgs false
namespace Go.Proofs.Ytoknncbdfdgfjaa.Pure
open Go.RowKit Go.Proofs.Ytoknncbdfdgfjaa.Q Go.Proofs.YtoknncbdfdgfjaaW.PrintWords Math

theorem rdo {l : List ByteArray} {i : Nat} (h : i < l.length) : rdOf ByteArray.empty l (i : Int) = l[i] := by
  unfold rdOf; rw [Int.toNat_natCast]; simp [List.getD_eq_getElem?_getD, h]
theorem rdp {l : List S31} {i : Nat} (h : i < l.length) : rd_T31 l (i : Int) = l[i] := by
  unfold rd_T31; rw [Int.toNat_natCast]; simp [List.getD_eq_getElem?_getD, h]
theorem toL (a b : ByteArray) : (a.toList == b.toList) = decide (a = b) := by
  rw [tl, tl]
  by_cases h : a = b
  · subst h; simp
  · rw [decide_eq_false h]
    simp only [beq_eq_false_iff_ne, ne_eq]
    exact fun e => h (inj e)
theorem toLe {a b : ByteArray} : a.toList = b.toList ↔ a = b := ⟨fun h => inj (by rw [← tl, ← tl]; exact h), fun h => h ▸ rfl⟩

theorem right_l1 (l0 : List ByteArray) (l1 : List S31) (off : Bool) (h0 : l0.length ≤ 1000000000) (h1 : l1.length ≤ 1000000000) : ∀ (n i k : Nat), i + n = l1.length → n < k → copyholdref04_Right.l1 k (i : Int) l0 l1 off = some (!((l1.drop i).any (badPut l0.length)))
  | n, i, 0, _, h => absurd h (Nat.not_lt_zero _)
  | 0, i, k + 1, h, _ => by
    rw [copyholdref04_Right.l1, if_neg (by omega), List.drop_eq_nil_of_le (by omega)]; rfl
  | n + 1, i, k + 1, h, hk => by
    have hi : i < l1.length := by omega
    rw [copyholdref04_Right.l1, if_pos (by omega), if_pos (by omega), rdp hi, List.drop_eq_getElem_cons hi, List.any_cons]
    rw [w64 (by omega) (by omega), show (i : Int) + 1 = ((i + 1 : Nat) : Int) by omega, right_l1 l0 l1 off h0 h1 n (i + 1) k (by omega) (by omega)]
    unfold badPut
    by_cases a : l1[i].f0 < 0
    · rw [if_pos a, decide_eq_true a]; rfl
    · rw [if_neg a, decide_eq_false a]
      by_cases b : (l0.length : Int) ≤ l1[i].f0
      · rw [if_pos b, decide_eq_true b]; rfl
      · rw [if_neg b, decide_eq_false b]
        by_cases c : l1[i].f1.size = 64
        · rw [if_pos (by omega), decide_eq_true c]; rfl
        · rw [if_neg (by omega), decide_eq_false c]; rfl
theorem right_l0 (l0 : List ByteArray) (l1 : List S31) (off : Bool) (h0 : l0.length ≤ 1000000000) (h1 : l1.length ≤ 1000000000) : ∀ (n i k : Nat), i + n = l0.length → n + l1.length + 1 < k → copyholdref04_Right.l0 k (i : Int) l0 l1 off = some (!((l0.drop i).any fun s => !(decide (s.size = 64))) && !(l1.any (badPut l0.length)))
  | n, i, 0, _, h => absurd h (Nat.not_lt_zero _)
  | 0, i, k + 1, h, hk => by
    rw [copyholdref04_Right.l0, if_neg (by omega), List.drop_eq_nil_of_le (by omega), show (0 : Int) = ((0 : Nat) : Int) from rfl, right_l1 l0 l1 off h0 h1 l1.length 0 k (by omega) (by omega)]; rfl
  | n + 1, i, k + 1, h, hk => by
    have hi : i < l0.length := by omega
    rw [copyholdref04_Right.l0, if_pos (by omega), if_pos (by omega), rdo hi, List.drop_eq_getElem_cons hi, List.any_cons]
    rw [w64 (by omega) (by omega), show (i : Int) + 1 = ((i + 1 : Nat) : Int) by omega, right_l0 l0 l1 off h0 h1 n (i + 1) k (by omega) (by omega)]
    by_cases c : l0[i].size = 64
    · rw [if_pos (by omega), decide_eq_true c]; rfl
    · rw [if_neg (by omega), decide_eq_false c]; rfl
theorem right_eq (l0 : List ByteArray) (l1 : List S31) (off : Bool) (h0 : l0.length ≤ 1000000000) (h1 : l1.length ≤ 1000000000) (k : Nat) (hk : l0.length + l1.length + 2 < k) : copyholdref04_Right.f k l0 l1 off = some (rightB l0 l1) := by
  unfold copyholdref04_Right.f rightB
  obtain ⟨k, rfl⟩ : ∃ j, k = j + 1 := ⟨k - 1, by omega⟩
  by_cases a : l0.length < 1
  · rw [if_pos (by omega), copyholdref04_Right.j0, if_pos rfl, decide_eq_false (by omega : ¬ 1 ≤ l0.length)]; rfl
  · rw [if_neg (by omega), copyholdref04_Right.j0, decide_eq_true (by omega : 1 ≤ l0.length)]
    by_cases b : l0.length ≤ 4096
    · rw [if_neg (by simp; omega), show (0 : Int) = ((0 : Nat) : Int) from rfl, right_l0 l0 l1 off h0 h1 l0.length 0 k (by omega) (by omega), decide_eq_true b]; rfl
    · rw [if_pos (by simp; omega), decide_eq_false b]; rfl
def fewB (l0 : List ByteArray) (l1 : List S31) : Bool := decide (l0.length ≤ 50) && (decide (l1.length ≤ 50) && rightB l0 l1)
theorem few_eq (l0 : List ByteArray) (l1 : List S31) (off : Bool) (k : Nat) (hk : 102 < k) : copyholdlaw04_few.f k l0 l1 off = some (fewB l0 l1) := by
  unfold copyholdlaw04_few.f fewB
  by_cases a : l0.length ≤ 50
  · by_cases b : l1.length ≤ 50
    · rw [if_pos (by omega), if_pos (by omega), right_eq l0 l1 off (by omega) (by omega) k (by omega), decide_eq_true a, decide_eq_true b]; rfl
    · rw [if_pos (by omega), if_neg (by omega), decide_eq_true a, decide_eq_false b]; rfl
  · rw [if_neg (by omega), decide_eq_false a]; rfl
structure Rt (l0 : List ByteArray) (l1 : List S31) : Prop where
  pos : 0 < l0.length
  len : l0.length ≤ 4096
  rows : ∀ s ∈ l0, s.size = 64
  at_ : ∀ p ∈ l1, 0 ≤ p.f0 ∧ p.f0 < (l0.length : Int)
  puts : ∀ p ∈ l1, p.f1.size = 64
theorem rt_of {l0 : List ByteArray} {l1 : List S31} (h : rightB l0 l1 = true) : Rt l0 l1 := by
  unfold rightB at h
  simp only [Bool.and_eq_true, decide_eq_true_eq, Bool.not_eq_true', List.any_eq_false, decide_eq_false_iff_not] at h
  obtain ⟨h1, h2, h3, h4⟩ := h
  have hb : ∀ p ∈ l1, badPut l0.length p = false := fun p hp => by simpa using h4 p hp
  refine ⟨h1, h2, fun s hs => by have := h3 s hs; simpa using this, fun p hp => ?_, fun p hp => ?_⟩
  · have := hb p hp; unfold badPut at this; simp at this; omega
  · have := hb p hp; unfold badPut at this; simp at this; omega
theorem of_rt {l0 : List ByteArray} {l1 : List S31} (h : Rt l0 l1) : rightB l0 l1 = true := by
  obtain ⟨h1, h2, h3, h4, h5⟩ := h
  unfold rightB
  simp only [Bool.and_eq_true, decide_eq_true_eq, Bool.not_eq_true', List.any_eq_false, decide_eq_false_iff_not]
  refine ⟨h1, h2, fun s hs => by simp [h3 s hs], fun p hp => ?_⟩
  have a := h4 p hp; have b := h5 p hp
  unfold badPut; simp; omega
theorem few_of {l0 : List ByteArray} {l1 : List S31} (h : fewB l0 l1 = true) : l0.length ≤ 50 ∧ l1.length ≤ 50 ∧ Rt l0 l1 := by
  unfold fewB at h
  simp only [Bool.and_eq_true, decide_eq_true_eq] at h
  exact ⟨h.1, h.2.1, rt_of h.2.2⟩
theorem Rt.ok {l0 : List ByteArray} {l1 : List S31} (h : Rt l0 l1) (h1 : l1.length ≤ 1000000000) : DiskOk l0 l1 := ⟨h.pos, by have := h.len; omega, h1, h.at_⟩
theorem chosenL_mem {α : Type} (is : Nat → Bool) (qs : List α) : ∀ k, ∀ x ∈ chosenL is qs k, x ∈ qs
  | 0, x, h => by simp [chosenL] at h
  | k + 1, x, h => by
    rw [chosenL] at h
    split at h
    · rcases List.mem_append.1 h with h | h
      · exact chosenL_mem is qs k x h
      · have := Option.mem_toList.1 h
        exact List.mem_of_getElem? this
    · exact chosenL_mem is qs k x h
theorem chosenL_all {α : Type} (is : Nat → Bool) (qs : List α) : ∀ k, (∀ i, i < k → is i = true) → k ≤ qs.length → chosenL is qs k = qs.take k
  | 0, _, _ => by simp [chosenL]
  | k + 1, hi, h => by
    rw [chosenL, if_pos (hi k (by omega)), chosenL_all is qs k (fun i h => hi i (by omega)) (by omega), List.getElem?_eq_getElem (by omega), List.take_add_one, List.getElem?_eq_getElem (by omega)]
theorem doneL_all (l0 : List ByteArray) (l1 : List S31) (is : Nat → Bool) (h : ∀ i, i < l1.length → is i = true) : doneL l0 l1 is = imgL l0 l1 := by
  unfold doneL; rw [chosenL_all is l1 l1.length h (Nat.le_refl _), List.take_length]
theorem doneL_len (l0 : List ByteArray) (l1 : List S31) (is : Nat → Bool) : (doneL l0 l1 is).length = l0.length := imgL_len _ _
theorem imgL_cons (l : List ByteArray) (p : S31) (ps : List S31) : imgL l (p :: ps) = imgL (l.set p.f0.toNat p.f1) ps := rfl
theorem imgL_at (a : Nat) : ∀ (ps : List S31) (l : List ByteArray), (imgL l ps)[a]? = l[a]? ∨ ∃ p ∈ ps, p.f0.toNat = a ∧ (imgL l ps)[a]? = some p.f1
  | [], l => Or.inl rfl
  | p :: ps, l => by
    rw [imgL_cons]
    rcases imgL_at a ps (l.set p.f0.toNat p.f1) with h | ⟨q, hq, h1, h2⟩
    · rw [h]
      by_cases e : p.f0.toNat = a
      · by_cases hl : a < l.length
        · exact Or.inr ⟨p, List.mem_cons_self, e, by rw [e, List.getElem?_set_self hl]⟩
        · left
          rw [List.getElem?_eq_none (by simp; omega), List.getElem?_eq_none (by omega)]
      · left; rw [List.getElem?_set_ne e]
    · exact Or.inr ⟨q, List.mem_cons_of_mem _ hq, h1, h2⟩
theorem imgL_mem {s : ByteArray} (ps : List S31) (l : List ByteArray) (h : s ∈ imgL l ps) : s ∈ l ∨ ∃ p ∈ ps, s = p.f1 := by
  obtain ⟨a, ha⟩ := List.mem_iff_getElem?.1 h
  rcases imgL_at a ps l with h | ⟨q, hq, _, h⟩
  · exact Or.inl (List.mem_iff_getElem?.2 ⟨a, h ▸ ha⟩)
  · exact Or.inr ⟨q, hq, by rw [h] at ha; exact (Option.some.inj ha).symm⟩
theorem Rt.img {l0 : List ByteArray} {l1 : List S31} (h : Rt l0 l1) (is : Nat → Bool) : ∀ s ∈ doneL l0 l1 is, s.size = 64 := fun s hs => by
  rcases imgL_mem _ _ hs with a | ⟨p, hp, rfl⟩
  · exact h.rows s a
  · exact h.puts p (chosenL_mem _ _ _ p hp)
theorem Rt.done {l0 : List ByteArray} {l1 : List S31} (h : Rt l0 l1) (is : Nat → Bool) : Rt (doneL l0 l1 is) [] :=
  ⟨by rw [doneL_len]; exact h.pos, by rw [doneL_len]; exact h.len, h.img is, fun _ hp => by simp at hp, fun _ hp => by simp at hp⟩
end Go.Proofs.Ytoknncbdfdgfjaa.Pure
