/- DiskReads, pure: which disks are right, a new one, a sector, and some, are as the document says. -/
import Derived.Test.YtoknncbdfdgfjaaStatDiskReads
import Derived.Test.YtoknncbdfdgfjaaDiskP2
set_option linter.unusedVariables false
set_option linter.unusedSimpArgs false
namespace Go.Proofs.Ytoknncbdfdgfjaa.Pure
open Go.RowKit Go.Proofs.Ytoknncbdfdgfjaa.Q Go.Proofs.YtoknncbdfdgfjaaW.PrintWords Math

theorem right_code {l0 : List ByteArray} {l1 : List S31} (off : Bool) (h0 : ∀ s ∈ l0, s.size ≤ 140737488351232) (h1 : ∀ p ∈ l1, p.f1.size ≤ 140737488351232) : disk_Right.f l0 l1 off = some (rightB l0 l1) := by
  unfold disk_Right.f; rw [if_pos ⟨fun s hs => by have := h0 s hs; omega, fun s hs => by have := h1 s hs; omega⟩]
theorem new_same (m : Int) (h : m ≤ 50 ∨ 4096 < m) (k : Nat) (hk : 200 < k) : ∃ x : List ByteArray, ∃ c : Int, disk_New.f m = some (x, [], false, c) ∧ copyholdref04_New.f k m = some (x, [], false, c) ∧ x.length ≤ 50 := by
  by_cases b : m < 1 ∨ 4096 < m
  · exact ⟨[], 1, by unfold disk_New.f; rw [if_pos b], new_none m b k (by omega), by simp⟩
  · obtain ⟨m, rfl⟩ := natInt (by omega : 0 ≤ m)
    exact ⟨List.replicate m zeroS, 0, by unfold disk_New.f; rw [if_neg b, Int.toNat_natCast], new_ref m (by omega) (by omega) k (by omega), by rw [List.length_replicate]; omega⟩
theorem DiskReads : DiskReadsSt := by
  unfold DiskReadsSt
  intro l0 l1 off a m hl0 hl1 ha hm
  refine ⟨1000, ?_⟩
  unfold copyholdlaw04_DiskReads.f
  have hs : copyholdlaw04_shown.f = some true := rfl
  have hj : copyholdlaw04_DiskReads.j0 1000 a m true true l0 l1 off = some true := by rw [copyholdlaw04_DiskReads.j0, if_pos rfl]
  rw [bs hs]
  by_cases n0 : (l0.length : Int) > 50
  · rw [if_pos n0, hj]
  · rw [if_neg n0]
    by_cases n1 : (l1.length : Int) > 50
    · rw [if_pos n1, hj]
    · rw [if_neg n1]
      have main : (m ≤ 50 ∨ 4096 < m) → copyholdlaw04_DiskReads.j0 1000 a m true false l0 l1 off = some true := by
        intro hm'
        obtain ⟨x, c, e1, e2, hx⟩ := new_same m hm' 999 (by omega)
        rw [copyholdlaw04_DiskReads.j0, if_neg (by simp), bs e1, bs e2]
        show ((copyholdref04_Same.f 999 x [] false x [] false).bind _) = some true
        rw [bs (same_refl x [] false (by omega) (by simp) 999 (by simp; omega)), bs (right_eq l0 l1 off (by omega) (by omega) 999 (by omega)), if_pos rfl]
        show (if c = c then _ else _) = some true
        rw [if_pos rfl, bs (right_code off hl0.2 (fun p hp => (hl1.2 p hp).2)), copyholdlaw04_DiskReads.j1, if_neg (by simp)]
        by_cases hr : rightB l0 l1 = true
        · have hr' := rt_of hr
          rw [if_pos hr, bs (read_code off hr' (by omega) a), bs (read_ref off hr' (by omega) a 998 (by omega)), bs (stretch_code off hr' (by omega) a m), bs (stretch_ref off hr' (by omega) a m 998 (lit64 ha) (by omega)), bs (image_code off hr' (by omega)), bs (image_ref off hr' (by omega) 998 (by omega)), bs (strings_refl _ (by rw [imgL_len]; omega) 998 (by rw [imgL_len]; omega))]
          rw [if_pos rfl, if_pos rfl, if_pos rfl, if_pos rfl, if_pos rfl]
        · rw [if_neg hr]
      by_cases m0 : m > 50
      · rw [if_pos m0]
        by_cases m1 : m ≤ 4096
        · rw [decide_eq_true m1, hj]
        · rw [decide_eq_false m1, main (by omega)]
      · rw [if_neg m0, main (by omega)]
end Go.Proofs.Ytoknncbdfdgfjaa.Pure
