/- DiskWrites, pure: what is written, flushed, and left by a crash, is as the document says. -/
import Derived.Test.YtoknncbdfdgfjaaStatDiskWrites
import Derived.Test.YtoknncbdfdgfjaaDiskP4
set_option linter.unusedVariables false
set_option linter.unusedSimpArgs false
namespace Go.Proofs.Ytoknncbdfdgfjaa.Pure
open Go.RowKit Go.Proofs.Ytoknncbdfdgfjaa.Q Go.Proofs.YtoknncbdfdgfjaaW.PrintWords Math

theorem DiskWrites : DiskWritesSt := by
  unfold DiskWritesSt
  intro l0 l1 off a s keep _ _ _ _ _
  refine ⟨1000, ?_⟩
  unfold copyholdlaw04_DiskWrites.f
  have hs : copyholdlaw04_shown.f = some true := rfl
  rw [bs hs, bs (few_eq l0 l1 off 1000 (by omega))]
  by_cases hf : fewB l0 l1 = true
  · obtain ⟨n0, n1, hr⟩ := few_of hf
    have hw := write_len (l0 := l0) (l1 := l1) off a s
    have f1 : ∀ (l : List ByteArray) (ps : List S31) (o : Bool), l.length ≤ 50 → ps.length ≤ 51 → copyholdref04_Same.f 1000 l ps o l ps o = some true := fun l ps o h1 h2 => same_refl l ps o (by omega) (by omega) 1000 (by omega)
    rw [if_pos hf, bs (write_code l0 l1 off a s (by omega)), bs (write_ref l0 l1 off a s (by omega) 1000 (by omega)), bs (flush_code off hr (by omega)), bs (flush_ref off hr (by omega) 1000 (by omega)),
      bs (f1 _ _ _ (by rw [hw.1]; omega) (by omega)), if_pos rfl]
    have hfl : (if off = true then (l0, l1, off, (19 : Int)) else (imgL l0 l1, [], false, 0)).1.length ≤ 50 ∧ (if off = true then (l0, l1, off, (19 : Int)) else (imgL l0 l1, [], false, 0)).2.1.length ≤ 51 := by
      by_cases o : off = true
      · rw [if_pos o]; exact ⟨n0, by show l1.length ≤ 51; omega⟩
      · rw [if_neg o]; exact ⟨by show (imgL l0 l1).length ≤ 50; rw [imgL_len]; exact n0, by simp⟩
    rw [bs (f1 _ _ _ hfl.1 hfl.2), if_pos rfl, bs (crash_code off hr (by omega) keep), bs (crash_ref off hr (by omega) keep 1000 (by omega))]
    have hc := f1 (doneL l0 l1 (keptAt keep)) [] false (by rw [doneL_len]; exact n0) (by simp)
    show ((copyholdref04_Same.f 1000 (doneL l0 l1 (keptAt keep)) [] false (doneL l0 l1 (keptAt keep)) [] false).bind _) = some true
    rw [bs hc, if_pos rfl, if_pos rfl, if_pos rfl, beq_self_eq_true]
  · rw [if_neg hf]
end Go.Proofs.Ytoknncbdfdgfjaa.Pure
