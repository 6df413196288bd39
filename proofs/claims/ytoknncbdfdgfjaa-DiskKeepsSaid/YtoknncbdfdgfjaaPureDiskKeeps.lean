/- DiskKeeps, pure: what was flushed stays behind each crash; with all writes kept a crash leaves the image; a disk stays right. -/
import Derived.Test.YtoknncbdfdgfjaaStatDiskKeeps
import Derived.Test.YtoknncbdfdgfjaaDiskP4
set_option linter.unusedVariables false
set_option linter.unusedSimpArgs false
namespace Go.Proofs.Ytoknncbdfdgfjaa.Pure
open Go.RowKit Go.Proofs.Ytoknncbdfdgfjaa.Q Go.Proofs.YtoknncbdfdgfjaaW.PrintWords Math

theorem keeps_l0 (l0 : List ByteArray) (l1 : List S31) (keep : List Bool) (a : Int) (s : ByteArray) (n0 : l0.length ≤ 50) (n1 : l1.length ≤ 50) (hr : Rt l0 l1) : ∀ (n i k : Nat), i + n = l1.length → n + 200 < k →
    copyholdlaw04_DiskKeeps.l0 k keep a s true 0 (List.replicate i true) (i : Int) l0 l1 false (imgL l0 l1) [] false = some true
  | n, i, 0, _, h => absurd h (Nat.not_lt_zero _)
  | 0, i, k + 1, h, hk => by
    have hrf : Rt (imgL l0 l1) [] := by have := hr.done (fun _ => true); rwa [doneL_all _ _ _ (fun _ _ => rfl)] at this
    have hw := write_len (l0 := l0) (l1 := l1) false a s
    have hrw := hr.write false a s
    have hk2 : ∀ j, j < l1.length → keptAt (List.replicate i true) j = true := fun j hj => by unfold keptAt; rw [List.getD_eq_getElem?_getD, List.getElem?_replicate, if_pos (by omega)]; rfl
    have e1 : doneL (imgL l0 l1) [] (keptAt keep) = imgL l0 l1 := rfl
    have hi := imgL_len l1 l0
    rw [copyholdlaw04_DiskKeeps.l0, if_neg (by omega), bs (write_code l0 l1 false a s (by omega)), bs (crash_code false hrf (by simp) keep), bs (image_code false hr (by omega)), e1,
      bs (strings_refl (imgL l0 l1) (by omega) k (by omega)), if_pos rfl, bs (crash_code false hr (by omega) _), bs (image_code false hr (by omega)), doneL_all _ _ _ hk2,
      bs (strings_refl (imgL l0 l1) (by omega) k (by omega)), if_pos rfl, if_pos rfl, if_pos rfl, bs (right_eq (imgL l0 l1) [] false (by omega) (by simp) k (by simp; omega)), of_rt hrf, if_pos rfl,
      bs (right_eq _ _ _ (by rw [hw.1]; omega) (by omega) k (by rw [hw.1]; omega)), of_rt hrw, if_pos rfl, bs (crash_code false hr (by omega) _)]
    have hd := doneL_len l0 l1 (keptAt keep)
    show ((copyholdref04_Right.f k (doneL l0 l1 (keptAt keep)) [] false).bind _) = some true
    rw [bs (right_eq _ _ _ (by omega) (by simp) k (by simp; omega)), of_rt (hr.done _)]
  | n + 1, i, k + 1, h, hk => by
    rw [copyholdlaw04_DiskKeeps.l0, if_pos (by omega), if_pos (by rw [List.length_replicate]; omega), w64 (by omega) (by omega), show (i : Int) + 1 = ((i + 1 : Nat) : Int) by omega, ← List.replicate_succ']
    exact keeps_l0 l0 l1 keep a s n0 n1 hr n (i + 1) k (by omega) (by omega)
theorem DiskKeeps : DiskKeepsSt := by
  unfold DiskKeepsSt
  intro l0 l1 off keep a s _ _ _ _ _
  refine ⟨1000, ?_⟩
  unfold copyholdlaw04_DiskKeeps.f
  have hs : copyholdlaw04_shown.f = some true := rfl
  rw [bs hs, bs (few_eq l0 l1 off 1000 (by omega))]
  by_cases hf : fewB l0 l1 = true
  · obtain ⟨n0, n1, hr⟩ := few_of hf
    rw [if_pos hf, copyholdlaw04_DiskKeeps.j0]
    by_cases o : off = true
    · rw [if_pos o]
    · rw [if_neg o, bs (flush_code off hr (by omega)), if_neg o]
      have o' : off = false := by simpa using o
      subst o'
      exact keeps_l0 l0 l1 keep a s n0 n1 hr l1.length 0 999 (by omega) (by omega)
  · rw [if_neg hf, copyholdlaw04_DiskKeeps.j0, if_pos rfl]
end Go.Proofs.Ytoknncbdfdgfjaa.Pure
