/- DiskLast, pure: what was written is read, filled up with 0; all other sectors are as they were. -/
import Derived.Test.YtoknncbdfdgfjaaStatDiskLast
import Derived.Test.YtoknncbdfdgfjaaDiskP4
set_option linter.unusedVariables false
set_option linter.unusedSimpArgs false
namespace Go.Proofs.Ytoknncbdfdgfjaa.Pure
open Go.RowKit Go.Proofs.Ytoknncbdfdgfjaa.Q Go.Proofs.YtoknncbdfdgfjaaW.PrintWords Math

theorem fillS_head (s : ByteArray) : (fillS s).extract 0 s.size = s := by
  apply inj; rw [ext_]; unfold fillS; rw [app, sz s, List.take_left']
  · rfl
  · rfl
theorem fillS_tail (s : ByteArray) (n : Nat) (hn : n = (fillS s).size) : (fillS s).extract s.size n = strOfNums (List.replicate (64 - s.size) 0) := by
  subst hn
  apply inj; rw [ext_, sz (fillS s), List.take_length]; unfold fillS; rw [app, sz s, List.drop_left']; rfl
theorem DiskLast : DiskLastSt := by
  unfold DiskLastSt
  intro l0 l1 off a s other _ _ ha _ _
  refine ⟨1000, ?_⟩
  unfold copyholdlaw04_DiskLast.f
  have hs : copyholdlaw04_shown.f = some true := rfl
  rw [bs hs, bs (few_eq l0 l1 off 1000 (by omega))]
  by_cases hf : fewB l0 l1 = true
  · obtain ⟨n0, n1, hr⟩ := few_of hf
    have hw := write_len (l0 := l0) (l1 := l1) off a s
    have hrw := hr.write off a s
    have hsame := same_refl l0 l1 off (by omega) (by omega) 1000 (by omega)
    rw [if_pos hf, bs (write_code l0 l1 off a s (by omega))]
    have bad : ∀ c : Int, ¬ c = 0 → writeR l0 l1 off a s = (l0, l1, off, c) → (∀ X : Option Bool, (if (writeR l0 l1 off a s).2.2.2 = 0 then X else (if true = true then ((copyholdref04_Same.f 1000 (writeR l0 l1 off a s).1 (writeR l0 l1 off a s).2.1 (writeR l0 l1 off a s).2.2.1 l0 l1 off).bind fun t => some t) else none)) = some true) := fun c hc e X => by
      rw [e, if_neg hc, if_pos rfl]
      show ((copyholdref04_Same.f 1000 l0 l1 off l0 l1 off).bind _) = some true
      rw [bs hsame]
    by_cases o : off = true
    · exact bad 19 (by decide) (by unfold writeR; rw [if_pos o]) _
    by_cases a0 : a < 0 ∨ (l0.length : Int) ≤ a
    · exact bad 6 (by decide) (by unfold writeR; rw [if_neg o, if_pos a0]) _
    by_cases hsz : 64 < s.size
    · exact bad 5 (by decide) (by unfold writeR; rw [if_neg o, if_neg a0, if_pos hsz]) _
    have e : writeR l0 l1 off a s = (l0, l1 ++ [⟨a, fillS s⟩], off, 0) := by unfold writeR; rw [if_neg o, if_neg a0, if_neg hsz]
    rw [e] at hrw hw ⊢
    rw [if_pos rfl, bs (read_code _ hrw (by omega) a), bs (read_code _ hrw (by omega) other), bs (read_code off hr (by omega) other), if_pos rfl]
    obtain ⟨a, rfl⟩ := natInt (by omega : 0 ≤ a)
    have hal : a < l0.length := by omega
    have hil := imgL_len l1 l0
    have hset : imgL l0 (l1 ++ [⟨(a : Int), fillS s⟩]) = (imgL l0 l1).set a (fillS s) := by rw [imgL_snoc, Int.toNat_natCast]
    have hx : readR l0 (l1 ++ [⟨(a : Int), fillS s⟩]) off (a : Int) = (fillS s, 0) := by
      unfold readR; rw [if_neg o, if_neg a0, hset, rdo (by rw [List.length_set]; omega), List.getElem_set_self]
    have hz := fillS_size s (by omega)
    show (if (readR l0 (l1 ++ [⟨(a : Int), fillS s⟩]) off (a : Int)).2 = 0 then _ else _) = some true
    rw [hx, if_pos rfl]
    show (if ((fillS s).size : Int) = 64 then _ else _) = some true
    rw [if_pos (by omega), if_pos (by omega), if_pos (by show (s.size : Int) ≤ ((fillS s).size : Int); omega), Int.toNat_natCast, w64 (by omega) (by omega)]
    show (if ((fillS s).extract 0 s.size).toList = s.toList then _ else _) = some true
    rw [fillS_head, if_pos rfl, if_pos (by omega), if_pos (by omega), show (64 - (s.size : Int)).toNat = 64 - s.size by omega]
    show (if ((fillS s).extract s.size (fillS s).size).toList = _ then _ else _) = some true
    rw [fillS_tail s _ rfl, if_pos rfl]
    have h2 : (readR l0 (l1 ++ [⟨(a : Int), fillS s⟩]) off other).2 = (readR l0 l1 off other).2 := by
      unfold readR; rw [if_neg o, if_neg o]; by_cases b : other < 0 ∨ (l0.length : Int) ≤ other
      · rw [if_pos b, if_pos b]
      · rw [if_neg b, if_neg b]
    show (if (readR l0 (l1 ++ [⟨(a : Int), fillS s⟩]) off other).2 = (readR l0 l1 off other).2 then _ else _) = some true
    rw [if_pos h2]
    by_cases c : other = (a : Int)
    · rw [if_pos c]
    · rw [if_neg c, toL]
      have h1 : (readR l0 (l1 ++ [⟨(a : Int), fillS s⟩]) off other).1 = (readR l0 l1 off other).1 := by
        unfold readR; rw [if_neg o, if_neg o]; by_cases b : other < 0 ∨ (l0.length : Int) ≤ other
        · rw [if_pos b, if_pos b]
        · rw [if_neg b, if_neg b]
          obtain ⟨t, rfl⟩ := natInt (by omega : 0 ≤ other)
          show rdOf ByteArray.empty (imgL l0 (l1 ++ [⟨(a : Int), fillS s⟩])) (t : Int) = rdOf ByteArray.empty (imgL l0 l1) (t : Int)
          rw [hset, rdo (by rw [List.length_set]; omega), rdo (by omega), List.getElem_set_ne (by omega)]
      show some (decide ((readR l0 (l1 ++ [⟨(a : Int), fillS s⟩]) off other).1 = (readR l0 l1 off other).1)) = some true
      rw [decide_eq_true h1]
  · rw [if_neg hf]
end Go.Proofs.Ytoknncbdfdgfjaa.Pure
