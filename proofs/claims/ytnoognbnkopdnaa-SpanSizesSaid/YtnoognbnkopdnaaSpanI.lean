/- Layer 3, walked: Size; the reference's Same. -/
import Derived.Test.YtnoognbnkopdnaaSpanH
import Derived.Laws.ComplexArith
set_option linter.unusedVariables false
set_option linter.unusedSimpArgs false
set_option exponentiation.threshold 2000
namespace Go.Proofs.Ytnoognbnkopdnaa
open Go.RowKit Go.Shelf Go.Lib Go.Sort Go.Proofs.YtnoognbnkopdnaaW.PrintWords Flt Math Clean

theorem RdP.at_ {w : World} {A : Option Addr} {l : List Sp} (h : RdP w A l) (i : Nat) (hi : i < l.length) : ∃ bk o, A = some ⟨bk, o, none⟩ ∧ w.cell? ⟨bk, o + i, none⟩ = some (eP l[i]) := by
  rcases h with ⟨_, rfl⟩ | ⟨bk, o, ha, _, hc⟩
  · cases hi
  · exact ⟨bk, o, ha, hc i hi⟩
def starts (l : List Sp) : Nat := (l.map (·.1)).sum
theorem starts_snoc (l : List Sp) (s : Sp) : starts (l ++ [s]) = starts l + s.1 := by unfold starts; simp
theorem total_snoc (l : List Sp) (s : Sp) : total (l ++ [s]) = total l + s.2 := by unfold total; simp
theorem starts_le (M : Nat) (l : List Sp) (h : ∀ s ∈ l, s.1 + s.2 ≤ M) : starts l ≤ l.length * M := by
  induction l with
  | nil => exact Nat.zero_le _
  | cons s l ih =>
    have h1 := ih fun t ht => h t (List.mem_cons_of_mem _ ht)
    have h2 := h s (List.mem_cons_self ..)
    unfold starts at *
    rw [List.map_cons, List.sum_cons, List.length_cons, Nat.add_mul]; omega
theorem cnt_le (N : Nat) (f : Nat → Bool) : cnt N f ≤ N := by
  unfold cnt
  have := List.countP_le_length (p := f) (l := List.range N)
  rwa [List.length_range] at this
theorem total_take (l : List Sp) (i : Nat) : total (l.take i) ≤ total l := by
  conv => rhs; rw [← List.take_append_drop i l]
  unfold total
  rw [List.map_append, List.sum_append]; omega
theorem size_most (l : List Sp) (h : Fit l) : Clean.size l ≤ 1099511627776 := by rw [size_cnt 1099511627776 l h]; exact cnt_le _ _
set_option maxHeartbeats 4000000 in
set_option maxRecDepth 1000000 in
theorem size_calls (A : Option Addr) (c : Nat) (l : List Sp) (w : World) (h : RdP w A l) (hf : Fit l) (hn : l.length ≤ 4000) :
    Calls Try.prog 26 #[.slice A l.length c] w fun e w' => e = .returned (.int .i64 (Clean.size l : Nat)) ∧ Below w.heap.size w w' := by
  have hC := clean_calls A c l w h hf (by omega)
  have hl := cleanF_len l
  have hfit := cleanF_le 1099511627776 l hf
  have hm := size_most l hf
  have he : Clean.size l = total (cleanF l) := rfl
  rw [he] at hm ⊢
  have HC := Lib.hid hC
  clear hC h he hf
  generalize cleanF l = cl at *
  have HF := Lib.hid hfit
  clear hfit
  go_enter Try.func26, Try.ntmps26
  go_wp2_with fail
  refine HC.out.mono ?_
  rintro e w1 ⟨A', c', rfl, hrd, hc', hb⟩
  have HRD := Lib.hid hrd
  have HB := Lib.hid hb
  clear hrd hb HC
  go_wp2_with fail
  go_loopg [3, 9] cl.length (fun gk v3 v9 wx => ∃ i : Nat, i + gk = cl.length ∧ v9 = .int .i64 i ∧ v3 = sp (starts (cl.take i)) (total (cl.take i)) ∧ wx = w1)
  case atStart => exact ⟨0, by omega, rfl, rfl, rfl⟩
  case round =>
    obtain ⟨i, hi, rfl, rfl, rfl⟩ := hrel
    by_cases hlt : i < cl.length
    · have hd : decide ((i : Int) < (cl.length : Int)) = true := decide_eq_true (by omega)
      cases gk with
      | zero => omega
      | succ k =>
        obtain ⟨bk, o, hA, hx⟩ := HRD.out.at_ i hlt
        subst hA
        have htk := List.take_succ_eq_append_getElem hlt
        have h1 := starts_le 1099511627776 (cl.take (i + 1)) (fun s hs => HF.out s (List.mem_of_mem_take hs))
        have h2 := total_take cl (i + 1)
        have hl3 : (cl.take (i + 1)).length ≤ 4000 := by rw [List.length_take]; omega
        have h1 : starts (cl.take (i + 1)) < 2 ^ 53 := by
          have := Nat.mul_le_mul_right 1099511627776 hl3
          omega
        rw [htk, starts_snoc] at h1
        rw [htk, total_snoc] at h2
        have hs1 : starts (cl.take (i + 1)) = starts (cl.take i) + cl[i].1 := by rw [htk, starts_snoc]
        have hs2 : total (cl.take (i + 1)) = total (cl.take i) + cl[i].2 := by rw [htk, total_snoc]
        have a1 := add_val (val_fb (starts (cl.take i)) (by omega)) (val_fb cl[i].1 (by omega)) (by omega)
        have a2 := add_val (val_fb (total (cl.take i)) (by omega)) (val_fb cl[i].2 (by omega)) (by omega)
        rw [← hs1] at a1
        rw [← hs2] at a2
        rw [show eP cl[i] = .complex .f64 (fb cl[i].1) (fb cl[i].2) from rfl] at hx
        have a3 := fun W => run_complex_sum (P := Try.prog) (w := W) .add (.inl rfl) 26 .f64 (fb (starts (cl.take i))) (fb (total (cl.take i))) (fb cl[i].1) (fb cl[i].2) (fb (starts (cl.take (i + 1)))) (fb (total (cl.take (i + 1)))) (by
          unfold cSumBits
          show (do let x ← Ieee.double.add _ _; let y ← Ieee.double.add _ _; pure (x, y)) = _
          rw [a1, a2]; rfl)
        have HS : Hid (sp (starts (cl.take (i + 1))) (total (cl.take (i + 1))) = .complex .f64 (fb (starts (cl.take (i + 1)))) (fb (total (cl.take (i + 1))))) := Lib.hid rfl
        unfold sp
        clear a1 a2 h1 h2 hl3 htk hs1 hs2
        generalize fb (starts (cl.take (i + 1))) = r1 at *
        generalize fb (total (cl.take (i + 1))) = r2 at *
        generalize fb (starts (cl.take i)) = x1 at *
        generalize fb (total (cl.take i)) = x2 at *
        generalize fb cl[i].1 = y1 at *
        generalize fb cl[i].2 = y2 at *
        go_wp2_with fail
        go_roundg k
        case measure => omega
        case rel => exact ⟨i + 1, by omega, by congr 1, HS.out.symm, rfl⟩
    · obtain rfl : gk = 0 := by omega
      obtain rfl : i = cl.length := by omega
      have hd : decide ((cl.length : Int) < (cl.length : Int)) = false := decide_eq_false (by omega)
      rw [List.take_of_length_le (Nat.le_refl _)]
      have hcv := conv_fi (x := fb (total cl)) (n := (total cl : Nat)) (toInt_val (val_fb _ (by omega))) (by omega) (by omega)
      unfold sp
      generalize fb (total cl) = f2 at *
      generalize fb (starts cl) = f1 at *
      go_wp2_with fail
      go_ret
      exact ⟨rfl, HB.out⟩
end Go.Proofs.Ytnoognbnkopdnaa
