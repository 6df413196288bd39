/- Layer 9, walked: the reference's Unlike; the laws' row; DataPieces. -/
import Derived.Test.YtiiljkinekjkbaaDatT
import Derived.Deep.QuietTactic
import Derived.BigQuiet
set_option linter.unusedVariables false
set_option linter.unusedSimpArgs false
set_option exponentiation.threshold 2000
namespace Go.Proofs.Ytiiljkinekjkbaa
open Go.RowKit Go.Shelf Go.Lib Go.Sort Go.Proofs.YtiiljkinekjkbaaW.PrintWords Flt Math Clean

/-- Do two texts differ at a place of theirs? -/
def dx (a b : ByteArray) (i : Nat) : Bool := decide (i < max a.size b.size) && dl a b i
/-- The runs of places where they differ, up to a place; where the last one began. -/
def runS (a b : ByteArray) : Nat → List Sp × Option Nat
  | 0 => ([], none)
  | i + 1 => if dx a b i then ((runS a b i).1, some ((runS a b i).2.getD i)) else
    match (runS a b i).2 with
    | none => ((runS a b i).1, none)
    | some x => ((runS a b i).1 ++ [(x, i - x)], none)
def opn (f : Option Nat) (i p : Nat) : Bool := match f with
  | none => false
  | some x => decide (x ≤ p) && decide (p < i)
structure RunI (a b : ByteArray) (i : Nat) (l : List Sp) (f : Option Nat) : Prop where
  cl : Cl l
  cv : ∀ p, (cov l p || opn f i p) = (decide (p < i) && dx a b p)
  none_ : f = none → ∀ s ∈ l, s.1 + s.2 < i
  some_ : ∀ x, f = some x → x < i ∧ ∀ s ∈ l, s.1 + s.2 < x
theorem run_inv (a b : ByteArray) : ∀ i, RunI a b i (runS a b i).1 (runS a b i).2
  | 0 => ⟨cl_nil, fun p => by simp [runS, cov_nil, opn], fun _ s hs => (by cases hs), fun x hx => (by cases hx)⟩
  | i + 1 => by
    have ih := run_inv a b i
    have key : ∀ p, (decide (p < i + 1) && dx a b p) = ((decide (p < i) && dx a b p) || (decide (p = i) && dx a b i)) := by
      intro p
      by_cases h : p = i
      · subst h
        rw [decide_eq_true (show p < p + 1 by omega), decide_eq_false (show ¬ p < p by omega), decide_eq_true (rfl : p = p)]
        cases dx a b p <;> rfl
      · rw [decide_eq_false h]
        by_cases h2 : p < i
        · rw [decide_eq_true h2, decide_eq_true (show p < i + 1 by omega)]
          cases dx a b p <;> rfl
        · rw [decide_eq_false h2, decide_eq_false (show ¬ p < i + 1 by omega)]; rfl
    unfold runS
    cases hd : dx a b i with
    | true =>
      rw [if_pos rfl]
      refine ⟨ih.cl, fun p => ?_, fun h => (by cases h), fun x hx => ?_⟩
      · rw [key p, ← ih.cv p, hd, Bool.and_true]
        cases hf : (runS a b i).2 with
        | none =>
          show (cov _ p || (decide (i ≤ p) && decide (p < i + 1))) = ((cov _ p || false) || decide (p = i))
          rw [Bool.or_false]
          congr 1
          by_cases h : p = i
          · rw [decide_eq_true h, decide_eq_true (show i ≤ p by omega), decide_eq_true (show p < i + 1 by omega)]; rfl
          · rw [decide_eq_false h]
            by_cases h2 : i ≤ p
            · rw [decide_eq_false (show ¬ p < i + 1 by omega), Bool.and_false]
            · rw [decide_eq_false h2, Bool.false_and]
        | some x =>
          have hx := (ih.some_ x hf).1
          show (cov _ p || (decide (x ≤ p) && decide (p < i + 1))) = ((cov _ p || (decide (x ≤ p) && decide (p < i))) || decide (p = i))
          rw [Bool.or_assoc]
          congr 1
          by_cases h : p = i
          · rw [decide_eq_true h, decide_eq_true (show x ≤ p by omega), decide_eq_true (show p < i + 1 by omega), Bool.or_true]; rfl
          · rw [decide_eq_false h, Bool.or_false]
            congr 1
            by_cases h2 : p < i
            · rw [decide_eq_true h2, decide_eq_true (show p < i + 1 by omega)]
            · rw [decide_eq_false h2, decide_eq_false (show ¬ p < i + 1 by omega)]
      · cases hf : (runS a b i).2 with
        | none =>
          rw [hf] at hx
          obtain rfl : i = x := Option.some.inj hx
          exact ⟨by omega, ih.none_ hf⟩
        | some y =>
          rw [hf] at hx
          obtain rfl : y = x := Option.some.inj hx
          exact ⟨by have := (ih.some_ y hf).1; omega, (ih.some_ y hf).2⟩
    | false =>
      rw [if_neg (by decide)]
      cases hf : (runS a b i).2 with
      | none =>
        refine ⟨ih.cl, fun p => ?_, fun _ s hs => (by have := ih.none_ hf s hs; omega), fun x hx => (by cases hx)⟩
        rw [key p, ← ih.cv p, hd, hf, Bool.and_false, Bool.or_false]; rfl
      | some x =>
        obtain ⟨h1, h2⟩ := ih.some_ x hf
        refine ⟨⟨?_, ?_⟩, fun p => ?_, fun _ s hs => ?_, fun y hy => (by cases hy)⟩
        · refine List.pairwise_append.2 ⟨ih.cl.rise, List.pairwise_singleton _ _, fun s hs t ht => ?_⟩
          rw [List.mem_singleton.1 ht]
          exact h2 s hs
        · intro s hs
          rcases List.mem_append.1 hs with hs | hs
          · exact ih.cl.some s hs
          · rw [List.mem_singleton.1 hs]
            show 1 ≤ i - x
            omega
        · rw [key p, ← ih.cv p, hd, hf, Bool.and_false, Bool.or_false, cov_append]
          show ((cov _ p || cov [(x, i - x)] p) || false) = (cov _ p || (decide (x ≤ p) && decide (p < i)))
          rw [Bool.or_false, cov_cons, cov_nil, Bool.or_false]
          unfold has
          dsimp only
          rw [show x + (i - x) = i by omega]
        · rcases List.mem_append.1 hs with hs | hs
          · have := h2 s hs; omega
          · rw [List.mem_singleton.1 hs]
            show x + (i - x) < i + 1
            omega
theorem dx_end (a b : ByteArray) : dx a b (max a.size b.size) = false := by
  unfold dx
  rw [decide_eq_false (Nat.lt_irrefl _), Bool.false_and]
theorem run_end (a b : ByteArray) : (runS a b (max a.size b.size + 1)).1 = cleanF (unl a b (max a.size b.size)) := by
  have h := run_inv a b (max a.size b.size + 1)
  have hn : (runS a b (max a.size b.size + 1)).2 = none := by
    unfold runS
    rw [dx_end, if_neg (by decide)]
    split <;> rfl
  refine cl_unique _ _ h.cl (cleanF_spec _).1 fun p => ?_
  have hc := h.cv p
  rw [hn] at hc
  rw [(cleanF_spec _).2, unl_cov]
  rw [show opn none (max a.size b.size + 1) p = false from rfl, Bool.or_false] at hc
  rw [hc]
  unfold dx
  by_cases h1 : p < max a.size b.size
  · rw [decide_eq_true h1, decide_eq_true (show p < max a.size b.size + 1 by omega)]; simp
  · rw [decide_eq_false h1]; simp
theorem run_len (a b : ByteArray) : ∀ i, (runS a b i).1.length ≤ i
  | 0 => Nat.le_refl _
  | i + 1 => by
    have := run_len a b i
    unfold runS
    split
    · show (runS a b i).1.length ≤ i + 1; omega
    · split
      · show (runS a b i).1.length ≤ i + 1; omega
      · show ((runS a b i).1 ++ _).length ≤ i + 1
        rw [List.length_append, List.length_singleton]; omega
def fromV : Option Nat → Int
  | none => -1
  | some x => (x : Int)
set_option maxHeartbeats 8000000 in
set_option maxRecDepth 1000000 in
theorem ref_unlike_calls (a b : ByteArray) (ha : a.size ≤ 100000) (hb : b.size ≤ 100000) (w : World) :
    Calls Try.prog 23 #[.string a, .string b] w fun e w' => ∃ A' c', e = .returned (.slice A' (cleanF (unl a b (max a.size b.size))).length c') ∧ RdP w' A' (cleanF (unl a b (max a.size b.size))) ∧ (cleanF (unl a b (max a.size b.size))).length ≤ c' ∧ Below w.heap.size w w' := by
  obtain ⟨i0, hi0, hz0, hz1, hz2⟩ := info_parts info_span
  rw [← run_end]
  obtain ⟨N, hN⟩ : ∃ N, N = max a.size b.size := ⟨_, rfl⟩
  rw [← hN]
  have hNl : N ≤ 100000 := by omega
  have HN := Lib.hid hN
  clear hN
  go_enter Try.func23, Try.ntmps23
  go_wp2_with fail
  go_loopg [5, 6, 7] (N + 1) (fun gk v5 v6 v7 wx => ∃ i : Nat, i + gk = N + 1 ∧ v7 = .int .i64 i ∧ v6 = .int .i64 (fromV (runS a b i).2) ∧ Hid (wx.ownsRow w.heap.size 57 1 v5 (runS a b i).1.length ((runS a b i).1.map eP)) ∧ Hid (Below w.heap.size w wx))
  case atStart => exact ⟨0, by omega, rfl, rfl, Lib.hid (World.ownsRow_nil _ _ _ _), Lib.hid (Below.refl _ _)⟩
  case round =>
    obtain ⟨i, hi, rfl, rfl, HO, HW⟩ := hrel
    have hle := run_len a b i
    have hinv := run_inv a b i
    cases gk with
    | zero =>
      obtain rfl : i = N + 1 := by omega
      have hN := HN.out
      have t1 : decide (((N + 1 : Nat) : Int) ≤ (a.size : Int)) = false := decide_eq_false (by omega)
      have t1b : decide ((N : Int) + 1 ≤ (a.size : Int)) = false := decide_eq_false (by omega)
      have t1c : decide (N + 1 ≤ a.size) = false := decide_eq_false (by omega)
      have t2 : decide (((N + 1 : Nat) : Int) ≤ (b.size : Int)) = false := decide_eq_false (by omega)
      have t2b : decide ((N : Int) + 1 ≤ (b.size : Int)) = false := decide_eq_false (by omega)
      have t2c : decide (N + 1 ≤ b.size) = false := decide_eq_false (by omega)
      obtain ⟨A', c', e1, h2, h3⟩ := own_read HO.out
      subst e1
      have H2 := Lib.hid h2
      clear h2 HO hinv hN
      go_wp2_with fail
      go_ret
      exact ⟨A', c', rfl, H2.out, h3, HW.out⟩
    | succ k =>
      have hiN : i ≤ N := by omega
      have hN := HN.out
      cases hdx : dx a b i with
      | true =>
        have hst : runS a b (i + 1) = ((runS a b i).1, some ((runS a b i).2.getD i)) := by
          show (if dx a b i then _ else _) = _
          rw [hdx]; rfl
        have hlt : i < N := by
          unfold dx at hdx
          rw [Bool.and_eq_true, decide_eq_true_eq] at hdx
          omega
        have hfv : (fromV (runS a b i).2 < 0 ∧ fromV (some ((runS a b i).2.getD i)) = (i : Int)) ∨ (0 ≤ fromV (runS a b i).2 ∧ fromV (some ((runS a b i).2.getD i)) = fromV (runS a b i).2) := by
          cases (runS a b i).2 with
          | none => exact .inl ⟨by decide, rfl⟩
          | some x => exact .inr ⟨by show (0 : Int) ≤ (x : Int); omega, rfl⟩
        have HST := Lib.hid hst
        have hcase : (i < a.size ∧ ∃ h : i < a.size, ∃ h2 : i < b.size, (((a[i]'h).toNat : Int) == ((b[i]'h2).toNat : Int)) = false) ∨ (i < a.size ∧ ¬ i < b.size) ∨ (¬ i < a.size ∧ i < b.size) := by
          by_cases c1 : i < a.size
          · by_cases c2 : i < b.size
            · refine .inl ⟨c1, c1, c2, ?_⟩
              unfold dx at hdx
              rw [Bool.and_eq_true] at hdx
              have h2 := hdx.2
              rw [dl_at a b i c1 c2, getD_at a i c1, getD_at b i c2] at h2
              rw [beq_eq_false_iff_ne]
              intro e
              have : a[i] = b[i] := UInt8.toNat_inj.1 (Int.ofNat_inj.1 e)
              rw [this] at h2
              simp at h2
            · exact .inr (.inl ⟨c1, c2⟩)
          · exact .inr (.inr ⟨c1, by omega⟩)
        obtain ⟨F, hF⟩ : ∃ F, F = fromV (runS a b i).2 := ⟨_, rfl⟩
        obtain ⟨G, hG⟩ : ∃ G, G = fromV (some ((runS a b i).2.getD i)) := ⟨_, rfl⟩
        rw [← hF, ← hG] at hfv
        rw [← hF]
        have HG := Lib.hid hG
        clear hst hinv hdx hF hG hN
        rcases hfv with ⟨f1, rfl⟩ | ⟨f1, rfl⟩
        · have g1 : decide (F < 0) = true := decide_eq_true (by omega)
          rcases hcase with ⟨_, c1, c2, e0⟩ | ⟨c1, c2⟩ | ⟨c1, c2⟩
          · have u1 : decide ((i : Int) < (a.size : Int)) = true := decide_eq_true (by omega)
            have u1n : decide (i < a.size) = true := decide_eq_true (by omega)
            have u2 : decide ((i : Int) < (b.size : Int)) = true := decide_eq_true (by omega)
            have u2n : decide (i < b.size) = true := decide_eq_true (by omega)
            have t1 : decide ((i : Int) ≤ (a.size : Int)) = true := decide_eq_true (by omega)
            have t1n : decide (i ≤ a.size) = true := decide_eq_true (by omega)
            go_wp2_with fail
            go_quiet (fail)
            go_wp2_with fail
            go_roundg k
            case measure => omega
            case rel => exact ⟨i + 1, by omega, by congr 1, by rw [HST.out]; first | rfl | exact congrArg _ HG.out | exact congrArg _ HG.out.symm, by rw [HST.out]; exact Lib.hid (pw_own_drewN HO.out _), Lib.hid (pw_below_drewN HW.out _)⟩
          · have u1 : decide ((i : Int) < (a.size : Int)) = true := decide_eq_true (by omega)
            have u1n : decide (i < a.size) = true := decide_eq_true (by omega)
            have u2 : decide ((i : Int) < (b.size : Int)) = false := decide_eq_false (by omega)
            have u2n : decide (i < b.size) = false := decide_eq_false (by omega)
            have t1 : decide ((i : Int) ≤ (a.size : Int)) = true := decide_eq_true (by omega)
            have t1n : decide (i ≤ a.size) = true := decide_eq_true (by omega)
            go_wp2_with fail
            go_quiet (fail)
            go_wp2_with fail
            go_roundg k
            case measure => omega
            case rel => exact ⟨i + 1, by omega, by congr 1, by rw [HST.out]; first | rfl | exact congrArg _ HG.out | exact congrArg _ HG.out.symm, by rw [HST.out]; exact Lib.hid (pw_own_drewN HO.out _), Lib.hid (pw_below_drewN HW.out _)⟩
          · by_cases c3 : i ≤ a.size
            · have u1 : decide ((i : Int) < (a.size : Int)) = false := decide_eq_false (by omega)
              have u1n : decide (i < a.size) = false := decide_eq_false (by omega)
              have u2 : decide ((i : Int) < (b.size : Int)) = true := decide_eq_true (by omega)
              have u2n : decide (i < b.size) = true := decide_eq_true (by omega)
              have t1 : decide ((i : Int) ≤ (a.size : Int)) = true := decide_eq_true (by omega)
              have t1n : decide (i ≤ a.size) = true := decide_eq_true (by omega)
              go_wp2_with fail
              go_quiet (fail)
              go_wp2_with fail
              go_roundg k
              case measure => omega
              case rel => exact ⟨i + 1, by omega, by congr 1, by rw [HST.out]; first | rfl | exact congrArg _ HG.out | exact congrArg _ HG.out.symm, by rw [HST.out]; exact Lib.hid (pw_own_drewN HO.out _), Lib.hid (pw_below_drewN HW.out _)⟩
            · have u1 : decide ((i : Int) < (a.size : Int)) = false := decide_eq_false (by omega)
              have u1n : decide (i < a.size) = false := decide_eq_false (by omega)
              have u2 : decide ((i : Int) < (b.size : Int)) = true := decide_eq_true (by omega)
              have u2n : decide (i < b.size) = true := decide_eq_true (by omega)
              have t1 : decide ((i : Int) ≤ (a.size : Int)) = false := decide_eq_false (by omega)
              have t1n : decide (i ≤ a.size) = false := decide_eq_false (by omega)
              have t2 : decide ((i : Int) ≤ (b.size : Int)) = true := decide_eq_true (by omega)
              have t2n : decide (i ≤ b.size) = true := decide_eq_true (by omega)
              go_wp2_with fail
              go_quiet (fail)
              go_wp2_with fail
              go_roundg k
              case measure => omega
              case rel => exact ⟨i + 1, by omega, by congr 1, by rw [HST.out]; first | rfl | exact congrArg _ HG.out | exact congrArg _ HG.out.symm, by rw [HST.out]; exact Lib.hid (pw_own_drewN HO.out _), Lib.hid (pw_below_drewN HW.out _)⟩
        · have g1 : decide (G < 0) = false := decide_eq_false (by omega)
          rcases hcase with ⟨_, c1, c2, e0⟩ | ⟨c1, c2⟩ | ⟨c1, c2⟩
          · have u1 : decide ((i : Int) < (a.size : Int)) = true := decide_eq_true (by omega)
            have u1n : decide (i < a.size) = true := decide_eq_true (by omega)
            have u2 : decide ((i : Int) < (b.size : Int)) = true := decide_eq_true (by omega)
            have u2n : decide (i < b.size) = true := decide_eq_true (by omega)
            have t1 : decide ((i : Int) ≤ (a.size : Int)) = true := decide_eq_true (by omega)
            have t1n : decide (i ≤ a.size) = true := decide_eq_true (by omega)
            go_wp2_with fail
            go_quiet (fail)
            go_wp2_with fail
            go_roundg k
            case measure => omega
            case rel => exact ⟨i + 1, by omega, by congr 1, by rw [HST.out]; first | rfl | exact congrArg _ HG.out | exact congrArg _ HG.out.symm, by rw [HST.out]; exact Lib.hid (pw_own_drewN HO.out _), Lib.hid (pw_below_drewN HW.out _)⟩
          · have u1 : decide ((i : Int) < (a.size : Int)) = true := decide_eq_true (by omega)
            have u1n : decide (i < a.size) = true := decide_eq_true (by omega)
            have u2 : decide ((i : Int) < (b.size : Int)) = false := decide_eq_false (by omega)
            have u2n : decide (i < b.size) = false := decide_eq_false (by omega)
            have t1 : decide ((i : Int) ≤ (a.size : Int)) = true := decide_eq_true (by omega)
            have t1n : decide (i ≤ a.size) = true := decide_eq_true (by omega)
            go_wp2_with fail
            go_quiet (fail)
            go_wp2_with fail
            go_roundg k
            case measure => omega
            case rel => exact ⟨i + 1, by omega, by congr 1, by rw [HST.out]; first | rfl | exact congrArg _ HG.out | exact congrArg _ HG.out.symm, by rw [HST.out]; exact Lib.hid (pw_own_drewN HO.out _), Lib.hid (pw_below_drewN HW.out _)⟩
          · by_cases c3 : i ≤ a.size
            · have u1 : decide ((i : Int) < (a.size : Int)) = false := decide_eq_false (by omega)
              have u1n : decide (i < a.size) = false := decide_eq_false (by omega)
              have u2 : decide ((i : Int) < (b.size : Int)) = true := decide_eq_true (by omega)
              have u2n : decide (i < b.size) = true := decide_eq_true (by omega)
              have t1 : decide ((i : Int) ≤ (a.size : Int)) = true := decide_eq_true (by omega)
              have t1n : decide (i ≤ a.size) = true := decide_eq_true (by omega)
              go_wp2_with fail
              go_quiet (fail)
              go_wp2_with fail
              go_roundg k
              case measure => omega
              case rel => exact ⟨i + 1, by omega, by congr 1, by rw [HST.out]; first | rfl | exact congrArg _ HG.out | exact congrArg _ HG.out.symm, by rw [HST.out]; exact Lib.hid (pw_own_drewN HO.out _), Lib.hid (pw_below_drewN HW.out _)⟩
            · have u1 : decide ((i : Int) < (a.size : Int)) = false := decide_eq_false (by omega)
              have u1n : decide (i < a.size) = false := decide_eq_false (by omega)
              have u2 : decide ((i : Int) < (b.size : Int)) = true := decide_eq_true (by omega)
              have u2n : decide (i < b.size) = true := decide_eq_true (by omega)
              have t1 : decide ((i : Int) ≤ (a.size : Int)) = false := decide_eq_false (by omega)
              have t1n : decide (i ≤ a.size) = false := decide_eq_false (by omega)
              have t2 : decide ((i : Int) ≤ (b.size : Int)) = true := decide_eq_true (by omega)
              have t2n : decide (i ≤ b.size) = true := decide_eq_true (by omega)
              go_wp2_with fail
              go_quiet (fail)
              go_wp2_with fail
              go_roundg k
              case measure => omega
              case rel => exact ⟨i + 1, by omega, by congr 1, by rw [HST.out]; first | rfl | exact congrArg _ HG.out | exact congrArg _ HG.out.symm, by rw [HST.out]; exact Lib.hid (pw_own_drewN HO.out _), Lib.hid (pw_below_drewN HW.out _)⟩
      | false =>
        have hcase : (∃ h : i < a.size, ∃ h2 : i < b.size, (((a[i]'h).toNat : Int) == ((b[i]'h2).toNat : Int)) = true) ∨ (i = N ∧ ¬ i < a.size ∧ ¬ i < b.size) := by
          by_cases c : i < N
          · unfold dx at hdx
            rw [← hN, decide_eq_true c, Bool.true_and] at hdx
            have hd := hdx
            unfold dl at hdx
            simp only [Bool.or_eq_false_iff, decide_eq_false_iff_not] at hdx
            have c1 : i < a.size := by omega
            have c2 : i < b.size := by omega
            refine .inl ⟨c1, c2, ?_⟩
            rw [dl_at a b i c1 c2, getD_at a i c1, getD_at b i c2] at hd
            have : a[i] = b[i] := by simpa using hd
            rw [this, beq_self_eq_true]
          · exact .inr ⟨by omega, by omega, by omega⟩
        cases hf : (runS a b i).2 with
        | none =>
          have hst : runS a b (i + 1) = ((runS a b i).1, none) := by
            show (if dx a b i then _ else _) = _
            rw [hdx, if_neg (by decide), hf]
          rw [show fromV none = -1 from rfl]
          have HST := Lib.hid hst
          clear hst hinv hdx hf
          rcases hcase with ⟨c1, c2, e0⟩ | ⟨rfl, c1, c2⟩
          · have u1 : decide ((i : Int) < (a.size : Int)) = true := decide_eq_true (by omega)
            have u1n : decide (i < a.size) = true := decide_eq_true (by omega)
            have u2 : decide ((i : Int) < (b.size : Int)) = true := decide_eq_true (by omega)
            have u2n : decide (i < b.size) = true := decide_eq_true (by omega)
            have t1 : decide ((i : Int) ≤ (a.size : Int)) = true := decide_eq_true (by omega)
            have t1n : decide (i ≤ a.size) = true := decide_eq_true (by omega)
            (try clear hN)
            go_wp2_with fail
            go_quiet (fail)
            go_wp2_with fail
            go_roundg k
            case measure => omega
            case rel => exact ⟨i + 1, by omega, by congr 1, by rw [HST.out]; rfl, by rw [HST.out]; exact Lib.hid (pw_own_drewN HO.out _), Lib.hid (pw_below_drewN HW.out _)⟩
          · by_cases c3 : i ≤ a.size
            · have u1 : decide ((i : Int) < (a.size : Int)) = false := decide_eq_false (by omega)
              have u1n : decide (i < a.size) = false := decide_eq_false (by omega)
              have u2 : decide ((i : Int) < (b.size : Int)) = false := decide_eq_false (by omega)
              have u2n : decide (i < b.size) = false := decide_eq_false (by omega)
              have t1 : decide ((i : Int) ≤ (a.size : Int)) = true := decide_eq_true (by omega)
              have t1n : decide (i ≤ a.size) = true := decide_eq_true (by omega)
              (try clear hN)
              go_wp2_with fail
              go_quiet (fail)
              go_wp2_with fail
              go_roundg k
              case measure => omega
              case rel => exact ⟨i + 1, by omega, by congr 1, by rw [HST.out]; rfl, by rw [HST.out]; exact Lib.hid (pw_own_drewN HO.out _), Lib.hid (pw_below_drewN HW.out _)⟩
            · have u1 : decide ((i : Int) < (a.size : Int)) = false := decide_eq_false (by omega)
              have u1n : decide (i < a.size) = false := decide_eq_false (by omega)
              have u2 : decide ((i : Int) < (b.size : Int)) = false := decide_eq_false (by omega)
              have u2n : decide (i < b.size) = false := decide_eq_false (by omega)
              have t1 : decide ((i : Int) ≤ (a.size : Int)) = false := decide_eq_false (by omega)
              have t1n : decide (i ≤ a.size) = false := decide_eq_false (by omega)
              have t2 : decide ((i : Int) ≤ (b.size : Int)) = true := decide_eq_true (by omega)
              have t2n : decide (i ≤ b.size) = true := decide_eq_true (by omega)
              (try clear hN)
              go_wp2_with fail
              go_quiet (fail)
              go_wp2_with fail
              go_roundg k
              case measure => omega
              case rel => exact ⟨i + 1, by omega, by congr 1, by rw [HST.out]; rfl, by rw [HST.out]; exact Lib.hid (pw_own_drewN HO.out _), Lib.hid (pw_below_drewN HW.out _)⟩
        | some x =>
          have hst : runS a b (i + 1) = ((runS a b i).1 ++ [(x, i - x)], none) := by
            show (if dx a b i then _ else _) = _
            rw [hdx, if_neg (by decide), hf]
          have hx := (hinv.some_ x hf).1
          have hof := (of_good x (i - x) (by omega)).2
          rw [show ((i - x : Nat) : Int) = (i : Int) - (x : Int) by omega] at hof
          have hxe : (runS a b i).1.map eP ++ [eP (x, i - x)] = (runS a b (i + 1)).1.map eP := by rw [hst, List.map_append]; rfl
          have hll : (runS a b (i + 1)).1.length = (runS a b i).1.length + 1 := by rw [hst]; show (_ ++ [_]).length = _; rw [List.length_append]; rfl
          have hs2 : (runS a b (i + 1)).2 = none := by rw [hst]
          have hrow := HO.out
          unfold sp at hof
          rw [show eP (x, i - x) = .complex .f64 (fb x) (fb (i - x)) from rfl] at hxe
          rw [show fromV (some x) = (x : Int) from rfl]
          obtain ⟨xs, hxs⟩ : ∃ xs, xs = (runS a b i).1.map eP := ⟨_, rfl⟩
          obtain ⟨L, hL⟩ : ∃ L, L = (runS a b i).1.length := ⟨_, rfl⟩
          rw [← hxs] at hxe hrow
          rw [← hL] at hll hrow hle
          have HOX := Lib.hid hrow; have HXE := Lib.hid hxe; have HLL := Lib.hid hll; have HS2 := Lib.hid hs2; have HOF := Lib.hid hof
          clear hrow hxe hll hxs hL hst hinv hdx hf hs2 hof HO
          generalize fb x = f1 at *
          generalize fb (i - x) = f2 at *
          have g1 : decide ((x : Int) < 0) = false := decide_eq_false (by omega)
          have g2 : decide ((0 : Int) ≤ (x : Int)) = true := decide_eq_true (by omega)
          rcases hcase with ⟨c1, c2, e0⟩ | ⟨rfl, c1, c2⟩
          · have u1 : decide ((i : Int) < (a.size : Int)) = true := decide_eq_true (by omega)
            have u1n : decide (i < a.size) = true := decide_eq_true (by omega)
            have u2 : decide ((i : Int) < (b.size : Int)) = true := decide_eq_true (by omega)
            have u2n : decide (i < b.size) = true := decide_eq_true (by omega)
            have t1 : decide ((i : Int) ≤ (a.size : Int)) = true := decide_eq_true (by omega)
            have t1n : decide (i ≤ a.size) = true := decide_eq_true (by omega)
            (try clear hN)
            go_wp2_with fail
            go_quiet (fail)
            go_wp2_with fail
            refine (HOF.out _).mono ?_
            rintro e w3 ⟨rfl, hw3⟩
            subst hw3
            go_wp2_with (at_builtin; refine wpList_append_own _ rfl _ _ 35 rfl w.heap.size 57 i0 _ 1 16 Try.underlying35 hi0 hz0 hz1 hz2 rfl (by decide) u5 L xs rfl ((pw_own_drewN HOX.out _).alloc _) ⟨(wr.drewN nq).heap.size, 0, none⟩ 1 1 [.complex .f64 f1 f2] rfl rfl (World.news_of_block (cs := #[.complex .f64 f1 f2]) (t := 57) (fr := (0, 0)) (heap_alloc_new _ _)) (by intro u hu; rw [List.mem_singleton.1 hu]; rfl) (by unfold maxLen; omega) (by omega) (by rw [World.size_alloc]; exact Nat.le_succ_of_le HW.out.size) ?_)
            intro v' w5 hown hgrow _
            rw [HXE.out] at hown
            have HO5 := Lib.hid hown
            have HB0 : Hid (Below w.heap.size w (wr.drewN nq)) := Lib.hid (pw_below_drewN HW.out nq)
            have HW5 := Lib.hid ((HB0.out.alloc HB0.out.size (.cells #[.complex .f64 f1 f2] 57)).grown hgrow (by rw [World.size_alloc]; exact Nat.le_succ_of_le HB0.out.size) (fun k hk => (HOX.out.lt k hk).1))
            clear hown hgrow
            go_wp2_with fail
            go_roundg k
            case measure => omega
            case rel => exact ⟨i + 1, by omega, by congr 1, by rw [HS2.out]; rfl, by rw [HLL.out]; exact HO5, HW5⟩
          · by_cases c3 : i ≤ a.size
            · have u1 : decide ((i : Int) < (a.size : Int)) = false := decide_eq_false (by omega)
              have u1n : decide (i < a.size) = false := decide_eq_false (by omega)
              have u2 : decide ((i : Int) < (b.size : Int)) = false := decide_eq_false (by omega)
              have u2n : decide (i < b.size) = false := decide_eq_false (by omega)
              have t1 : decide ((i : Int) ≤ (a.size : Int)) = true := decide_eq_true (by omega)
              have t1n : decide (i ≤ a.size) = true := decide_eq_true (by omega)
              (try clear hN)
              go_wp2_with fail
              go_quiet (fail)
              go_wp2_with fail
              refine (HOF.out _).mono ?_
              rintro e w3 ⟨rfl, hw3⟩
              subst hw3
              go_wp2_with (at_builtin; refine wpList_append_own _ rfl _ _ 35 rfl w.heap.size 57 i0 _ 1 16 Try.underlying35 hi0 hz0 hz1 hz2 rfl (by decide) u5 L xs rfl ((pw_own_drewN HOX.out _).alloc _) ⟨(wr.drewN nq).heap.size, 0, none⟩ 1 1 [.complex .f64 f1 f2] rfl rfl (World.news_of_block (cs := #[.complex .f64 f1 f2]) (t := 57) (fr := (0, 0)) (heap_alloc_new _ _)) (by intro u hu; rw [List.mem_singleton.1 hu]; rfl) (by unfold maxLen; omega) (by omega) (by rw [World.size_alloc]; exact Nat.le_succ_of_le HW.out.size) ?_)
              intro v' w5 hown hgrow _
              rw [HXE.out] at hown
              have HO5 := Lib.hid hown
              have HB0 : Hid (Below w.heap.size w (wr.drewN nq)) := Lib.hid (pw_below_drewN HW.out nq)
              have HW5 := Lib.hid ((HB0.out.alloc HB0.out.size (.cells #[.complex .f64 f1 f2] 57)).grown hgrow (by rw [World.size_alloc]; exact Nat.le_succ_of_le HB0.out.size) (fun k hk => (HOX.out.lt k hk).1))
              clear hown hgrow
              go_wp2_with fail
              go_roundg k
              case measure => omega
              case rel => exact ⟨i + 1, by omega, by congr 1, by rw [HS2.out]; rfl, by rw [HLL.out]; exact HO5, HW5⟩
            · have u1 : decide ((i : Int) < (a.size : Int)) = false := decide_eq_false (by omega)
              have u1n : decide (i < a.size) = false := decide_eq_false (by omega)
              have u2 : decide ((i : Int) < (b.size : Int)) = false := decide_eq_false (by omega)
              have u2n : decide (i < b.size) = false := decide_eq_false (by omega)
              have t1 : decide ((i : Int) ≤ (a.size : Int)) = false := decide_eq_false (by omega)
              have t1n : decide (i ≤ a.size) = false := decide_eq_false (by omega)
              have t2 : decide ((i : Int) ≤ (b.size : Int)) = true := decide_eq_true (by omega)
              have t2n : decide (i ≤ b.size) = true := decide_eq_true (by omega)
              (try clear hN)
              go_wp2_with fail
              go_quiet (fail)
              go_wp2_with fail
              refine (HOF.out _).mono ?_
              rintro e w3 ⟨rfl, hw3⟩
              subst hw3
              go_wp2_with (at_builtin; refine wpList_append_own _ rfl _ _ 35 rfl w.heap.size 57 i0 _ 1 16 Try.underlying35 hi0 hz0 hz1 hz2 rfl (by decide) u5 L xs rfl ((pw_own_drewN HOX.out _).alloc _) ⟨(wr.drewN nq).heap.size, 0, none⟩ 1 1 [.complex .f64 f1 f2] rfl rfl (World.news_of_block (cs := #[.complex .f64 f1 f2]) (t := 57) (fr := (0, 0)) (heap_alloc_new _ _)) (by intro u hu; rw [List.mem_singleton.1 hu]; rfl) (by unfold maxLen; omega) (by omega) (by rw [World.size_alloc]; exact Nat.le_succ_of_le HW.out.size) ?_)
              intro v' w5 hown hgrow _
              rw [HXE.out] at hown
              have HO5 := Lib.hid hown
              have HB0 : Hid (Below w.heap.size w (wr.drewN nq)) := Lib.hid (pw_below_drewN HW.out nq)
              have HW5 := Lib.hid ((HB0.out.alloc HB0.out.size (.cells #[.complex .f64 f1 f2] 57)).grown hgrow (by rw [World.size_alloc]; exact Nat.le_succ_of_le HB0.out.size) (fun k hk => (HOX.out.lt k hk).1))
              clear hown hgrow
              go_wp2_with fail
              go_roundg k
              case measure => omega
              case rel => exact ⟨i + 1, by omega, by congr 1, by rw [HS2.out]; rfl, by rw [HLL.out]; exact HO5, HW5⟩
end Go.Proofs.Ytiiljkinekjkbaa
