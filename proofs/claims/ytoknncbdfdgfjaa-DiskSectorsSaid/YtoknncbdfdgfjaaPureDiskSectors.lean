/- DiskSectors, pure: a sector behind a crash is the one that was kept, or one that was written there since. -/
import Derived.Test.YtoknncbdfdgfjaaStatDiskSectors
import Derived.Test.YtoknncbdfdgfjaaDiskP1
set_option linter.unusedVariables false
set_option linter.unusedSimpArgs false
namespace Go.Proofs.Ytoknncbdfdgfjaa.Pure
open Go.RowKit Go.Proofs.Ytoknncbdfdgfjaa.Q Go.Proofs.YtoknncbdfdgfjaaW.PrintWords Math

theorem sectors_l0 (l0 : List ByteArray) (l1 : List S31) (off : Bool) (d : List ByteArray) (e : List S31) (g : Bool) (a : Nat) (ha : a < d.length) (h1 : l1.length ≤ 50) : ∀ (n i k : Nat) (b : Bool), i + n = l1.length → n < k →
    copyholdlaw04_DiskSectors.l0 k (a : Int) true b (i : Int) l0 l1 off d e g = some (b || (l1.drop i).any fun p => decide (p.f0 = (a : Int)) && decide (p.f1 = d[a]))
  | n, i, 0, _, _, h => absurd h (Nat.not_lt_zero _)
  | 0, i, k + 1, b, h, _ => by
    rw [copyholdlaw04_DiskSectors.l0, if_neg (by omega), if_pos rfl, List.drop_eq_nil_of_le (by omega)]; simp
  | n + 1, i, k + 1, b, h, hk => by
    have hi : i < l1.length := by omega
    rw [copyholdlaw04_DiskSectors.l0, if_pos (by omega), w64 (by omega) (by omega), show (i : Int) + 1 = ((i + 1 : Nat) : Int) by omega, List.drop_eq_getElem_cons hi, List.any_cons]
    rw [sectors_l0 l0 l1 off d e g a ha h1 n (i + 1) k true (by omega) (by omega), sectors_l0 l0 l1 off d e g a ha h1 n (i + 1) k _ (by omega) (by omega), sectors_l0 l0 l1 off d e g a ha h1 n (i + 1) k false (by omega) (by omega), rdp hi, rdo ha, toL]
    by_cases hb : b = true
    · rw [if_pos hb, hb]; simp
    · rw [if_neg hb, if_pos (by omega)]
      have hb : b = false := by simpa using hb
      subst hb
      by_cases c : l1[i].f0 = (a : Int)
      · rw [if_pos c, if_pos (by omega), if_pos (by omega), decide_eq_true c]; simp
      · rw [if_neg c, decide_eq_false c]; simp
theorem DiskSectors : DiskSectorsSt := by
  unfold DiskSectorsSt
  intro l0 l1 off keep a _ _ _ ha
  refine ⟨1000, ?_⟩
  unfold copyholdlaw04_DiskSectors.f
  have hs : copyholdlaw04_shown.f = some true := rfl
  rw [bs hs, bs (few_eq l0 l1 off 1000 (by omega))]
  by_cases hf : fewB l0 l1 = true
  · obtain ⟨n0, n1, hr⟩ := few_of hf
    rw [if_pos hf]
    by_cases a0 : a < 0
    · rw [if_pos a0, copyholdlaw04_DiskSectors.j0, if_pos rfl]
    · rw [if_neg a0, copyholdlaw04_DiskSectors.j0]
      obtain ⟨a, rfl⟩ := natInt (by omega : 0 ≤ a)
      by_cases a1 : (a : Int) ≥ (l0.length : Int)
      · rw [if_pos (decide_eq_true a1)]
      · have hc : disk_Crash.f l0 l1 off keep = some (doneL l0 l1 (keptAt keep), [], false) := by unfold disk_Crash.f; rw [if_pos (hr.ok (by omega))]
        have hd := doneL_len l0 l1 (keptAt keep)
        rw [if_neg (by simpa using a1), bs hc]
        show (if ((doneL l0 l1 (keptAt keep)).length : Int) = (l0.length : Int) then _ else _) = some true
        rw [if_pos (by rw [hd])]
        show (if (([] : List S31).length : Int) > 0 then _ else _) = some true
        rw [if_neg (by simp), copyholdlaw04_DiskSectors.j1]
        show (if false = true then _ else _) = some true
        rw [if_neg (by simp), if_pos (by omega)]
        show (if (a : Int) < ((doneL l0 l1 (keptAt keep)).length : Int) then _ else _) = some true
        rw [if_pos (by omega), if_pos (by omega), show (0 : Int) = ((0 : Nat) : Int) from rfl]
        have ha : a < (doneL l0 l1 (keptAt keep)).length := by omega
        have hx := sectors_l0 l0 l1 off (doneL l0 l1 (keptAt keep)) [] false a ha n1 l1.length 0 998 ((rdOf ByteArray.empty (doneL l0 l1 (keptAt keep)) (a : Int)).toList == (rdOf ByteArray.empty l0 (a : Int)).toList) (by omega) (by omega)
        refine hx.trans ?_
        rw [rdo ha, rdo (by omega : a < l0.length), toL, List.drop_zero]
        congr 1
        have hat := imgL_at a (chosenL (keptAt keep) l1 l1.length) l0
        have he : (imgL l0 (chosenL (keptAt keep) l1 l1.length))[a]? = some ((doneL l0 l1 (keptAt keep))[a]) := List.getElem?_eq_getElem ha
        rcases hat with h | ⟨p, hp, h1, h2⟩
        · rw [he, List.getElem?_eq_getElem (by omega)] at h
          rw [decide_eq_true (Option.some.inj h)]; rfl
        · rw [he] at h2
          have hm := chosenL_mem _ _ _ p hp
          have := hr.at_ p hm
          rw [Bool.or_eq_true]; right
          rw [List.any_eq_true]
          exact ⟨p, hm, by rw [Bool.and_eq_true]; exact ⟨decide_eq_true (by omega), decide_eq_true (Option.some.inj h2).symm⟩⟩
  · rw [if_neg hf, copyholdlaw04_DiskSectors.j0, if_pos rfl]
end Go.Proofs.Ytoknncbdfdgfjaa.Pure
