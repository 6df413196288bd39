/- Layer 9 (by dat.py out of layer 3's text): Clean. -/
import Derived.Test.YtiiljkinekjkbaaDatF
set_option linter.unusedVariables false
set_option linter.unusedSimpArgs false
set_option exponentiation.threshold 2000
namespace Go.Proofs.Ytiiljkinekjkbaa
open Go.RowKit Go.Shelf Go.Lib Go.Sort Go.Proofs.YtiiljkinekjkbaaW.PrintWords Flt Math Clean

def eP (s : Sp) : Value := sp s.1 s.2
/-- A row of spans that is read: nil, or its cells lie. -/
def RdP (w : World) (A : Option Addr) (l : List Sp) : Prop := (A = none ∧ l = []) ∨ ∃ bk o, A = some ⟨bk, o, none⟩ ∧ bk < w.heap.size ∧ ∀ (j : Nat) (hj : j < l.length), w.cell? ⟨bk, o + j, none⟩ = some (eP l[j])
theorem RdP.below {w w' : World} {A : Option Addr} {l : List Sp} (h : RdP w A l) (hb : Below w.heap.size w w') : RdP w' A l := by
  rcases h with h | ⟨bk, o, ha, hk, hc⟩
  · exact .inl h
  · exact .inr ⟨bk, o, ha, Nat.lt_of_lt_of_le hk hb.size, fun j hj => (hb.cell (p := ⟨bk, o + j, none⟩) hk).trans (hc j hj)⟩
/-- Spans whose parts may be. -/
def Fit (l : List Sp) : Prop := ∀ s ∈ l, s.1 + s.2 ≤ 1099511627776
theorem lift_fit (l : List Sp) (h : Fit l) : ∃ ss : List SpS, ss.map Subtype.val = l := by
  induction l with
  | nil => exact ⟨[], rfl⟩
  | cons s l ih =>
    obtain ⟨ss, rfl⟩ := ih fun t ht => h t (List.mem_cons_of_mem _ ht)
    exact ⟨⟨s, h s (List.mem_cons_self ..)⟩ :: ss, rfl⟩
theorem map_eS (ss : List SpS) : ss.map eS = (ss.map Subtype.val).map eP := by rw [List.map_map]; rfl
theorem filter_full (ss : List SpS) : (ss.filter fun s => !decide (s.1.2 = 0)).map Subtype.val = Clean.full (ss.map Subtype.val) := by
  unfold Clean.full
  rw [List.filter_map]
  congr 1
  apply List.filter_congr
  intro s _
  simp
theorem own_read {w : World} {b : Nat} {e : TypeId} {v : Value} {n : Nat} {l : List Sp} (h : w.ownsRow b e 1 v n (l.map eP)) : ∃ A c, v = .slice A l.length c ∧ RdP w A l ∧ l.length ≤ c := by
  have hl : l.length = n := by have := h.1; rw [List.length_map] at this; omega
  subst hl
  by_cases hv : v = .slice none 0 0
  · subst hv
    rcases h.2 with ⟨_, h0⟩ | ⟨g, cap, cur, e, _⟩
    · refine ⟨none, 0, by rw [h0], .inl ⟨rfl, List.eq_nil_of_length_eq_zero h0⟩, by omega⟩
    · cases e
  · obtain ⟨g, cap, rfl, hb, hg, hc, _, _, hH⟩ := holds_of_ownsRow (enc := eP) h hv
    refine ⟨_, cap, rfl, .inr ⟨g, 0, rfl, hg, fun j hj => ?_⟩, hc⟩
    have := (hH j (by simpa using hj)).1
    rw [this]
    simp [getElem!_pos, hj]
/-- What stands in a sorted row. -/
theorem sorted_list {d d' : Array SpS} (hp : PermIn 0 d.size d d') (hs : SortedIn (ltOf (fun a b : SpS => cmpN a.1.1 b.1.1)) 0 d.size d') :
    d'.toList.length = d.toList.length ∧ (d'.toList.map Subtype.val).Perm (d.toList.map Subtype.val) ∧ (d'.toList.map Subtype.val).Pairwise fun a b : Sp => a.1 ≤ b.1 := by
  have hz : d'.size = d.size := hp.1
  refine ⟨by simpa using hz, ?_, ?_⟩
  · have h := hp.2.2
    rw [Array.toList_extract, Array.toList_extract] at h
    rw [List.extract_eq_take_drop, List.extract_eq_take_drop, List.drop_zero, List.drop_zero, List.take_of_length_le (by simp; omega), List.take_of_length_le (by simp)] at h
    exact h.map _
  · rw [List.pairwise_map, List.pairwise_iff_getElem]
    intro i j hi hj hij
    have h := hs i j (Nat.zero_le _) hij (by rw [← hz]; simpa using hj)
    rw [lt_cmp] at h
    rw [getElem!_pos d' j (by simpa using hj), getElem!_pos d' i (by simpa using hi)] at h
    simpa using h
theorem grow_owns {w : World} {B : Nat} {e : TypeId} {size : Nat} {v : Value} {n : Nat} {xs : List Value} (h : w.ownsRow B e size v n xs) (os : Array Obj) : (grow w os).ownsRow B e size v n xs := Lib.ownsRow_grow h 0 os
theorem grow_below {B : Nat} {w0 w : World} (h : Below B w0 w) (hB : B ≤ w.heap.size) (os : Array Obj) : Below B w0 (grow w os) := h.trans (Lib.below_grow B w hB 0 os)
theorem run_store_cx (W : World) (a : Addr) (x n : Nat) (m : Mode) : (store a (.complex .f64 x n) m).run Try.prog W = stored Try.prog W a (.complex .f64 x n) m := run_store Try.prog W a _ m rfl
theorem around_eq (a b : Sp) (ha : 1 ≤ a.2) (hb : 1 ≤ b.2) : around a b = (aroundX a.1 a.2 b.1 b.2, aroundN a.1 a.2 b.1 b.2) := by
  unfold around aroundX aroundN
  rw [if_neg (by omega), if_neg (by omega), if_neg (by omega), if_neg (by omega)]
end Go.Proofs.Ytiiljkinekjkbaa
