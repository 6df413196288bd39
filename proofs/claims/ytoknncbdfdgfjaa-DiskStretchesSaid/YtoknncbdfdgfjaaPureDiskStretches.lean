/- DiskStretches, pure: some sectors are those that are read one by one. -/
import Derived.Test.YtoknncbdfdgfjaaStatDiskStretches
import Derived.Test.YtoknncbdfdgfjaaDiskP2
set_option linter.unusedVariables false
set_option linter.unusedSimpArgs false
namespace Go.Proofs.Ytoknncbdfdgfjaa.Pure
open Go.RowKit Go.Proofs.Ytoknncbdfdgfjaa.Q Go.Proofs.YtoknncbdfdgfjaaW.PrintWords Math

theorem DiskStretches : DiskStretchesSt := by
  unfold DiskStretchesSt
  intro l0 l1 off a m _ _ ha hm
  refine ⟨1000, ?_⟩
  unfold copyholdlaw04_DiskStretches.f
  have hs : copyholdlaw04_shown.f = some true := rfl
  rw [bs hs, bs (few_eq l0 l1 off 1000 (by omega))]
  by_cases hf : fewB l0 l1 = true
  · obtain ⟨n0, n1, hr⟩ := few_of hf
    rw [if_pos hf, bs (stretch_code off hr (by omega) a m)]
    have hi := hr.im
    have hln : (imgL l0 l1).length = l0.length := imgL_len _ _
    have he : ∀ c : Int, ¬ c = 0 → (if (((⟨#[]⟩ : ByteArray), c).2 = 0) then copyholdlaw04_DiskStretches.l0 1000 a m true ((⟨#[]⟩ : ByteArray), c).1 ⟨#[]⟩ 0 l0 l1 off else if true = true then some (((⟨#[]⟩ : ByteArray), c).1.toList == []) else some false) = some true := fun c hc => by rw [if_neg hc, if_pos rfl, tl]; rfl
    unfold stretchR
    by_cases o : off = true
    · rw [if_pos o]; exact he _ (by decide)
    · rw [if_neg o]
      by_cases b : a < 0 ∨ m < 0 ∨ (l0.length : Int) < a ∨ (l0.length : Int) - a < m
      · rw [if_pos b]; exact he _ (by decide)
      · rw [if_neg b]
        obtain ⟨a, rfl⟩ := natInt (by omega : 0 ≤ a)
        obtain ⟨m, rfl⟩ := natInt (by omega : 0 ≤ m)
        rw [Int.toNat_natCast, Int.toNat_natCast]
        show copyholdlaw04_DiskStretches.l0 1000 (a : Int) (m : Int) true (joinT (((imgL l0 l1).drop a).take m)) ⟨#[]⟩ ((0 : Nat) : Int) l0 l1 off = some true
        have hz := join_len hi a m (by omega)
        have go : ∀ (n i k : Nat) (s : ByteArray), i + n = m → n < k → s ++ joinT (((imgL l0 l1).drop (a + i)).take n) = joinT (((imgL l0 l1).drop a).take m) →
            copyholdlaw04_DiskStretches.l0 k (a : Int) (m : Int) true (joinT (((imgL l0 l1).drop a).take m)) s (i : Int) l0 l1 off = some true := by
          intro n
          induction n with
          | zero =>
            intro i k s hi hk hs; obtain ⟨k, rfl⟩ : ∃ j, k = j + 1 := ⟨k - 1, by omega⟩
            rw [List.take_zero, joinT_nil, app_nil] at hs
            rw [copyholdlaw04_DiskStretches.l0, if_neg (by omega), if_pos rfl, if_pos (by rw [hs]), w64 (by omega) (by omega), hz]
            simp
          | succ n ih =>
            intro i k s hi hk hs; obtain ⟨k, rfl⟩ : ∃ j, k = j + 1 := ⟨k - 1, by omega⟩
            have hi' : a + i < (imgL l0 l1).length := by omega
            rw [take_cons hi', joinT_cons, ← app_as, show a + i + 1 = a + (i + 1) by omega] at hs
            have hq := congrArg ByteArray.size hs
            rw [app_size, app_size, hz] at hq
            have hrd : disk_Read.f l0 l1 off (wrap64 ((a : Int) + (i : Int))) = some ((imgL l0 l1)[a + i], 0) := by
              rw [read_code off hr (by omega), w64 (by omega) (by omega), show (a : Int) + (i : Int) = ((a + i : Nat) : Int) by omega]
              unfold readR
              rw [if_neg o, if_neg (by omega), rdo hi']
            rw [copyholdlaw04_DiskStretches.l0, if_pos (by omega), bs hrd]
            show (if (0 : Int) = 0 then _ else _) = some true
            rw [if_pos rfl]
            show (if s.size + ((imgL l0 l1)[a + i]).size ≤ 9223372036854775807 then _ else _) = some true
            rw [if_pos (by omega), w64 (by omega) (by omega), show (i : Int) + 1 = ((i + 1 : Nat) : Int) by omega]
            exact ih (i + 1) k _ (by omega) (by omega) hs
        exact go m 0 1000 ⟨#[]⟩ (by omega) (by omega) (nil_app _)
  · rw [if_neg hf]
end Go.Proofs.Ytoknncbdfdgfjaa.Pure
