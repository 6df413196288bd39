/- SpanBoths, walked. -/
import Derived.Test.YtnoognbnkopdnaaSpanHas3
set_option linter.unusedVariables false
set_option linter.unusedSimpArgs false
set_option exponentiation.threshold 2000
namespace Go.Proofs.Ytnoognbnkopdnaa
open Go.RowKit Go.Proofs.YtnoognbnkopdnaaW.PrintWords Flt Math

theorem inS_iff (U : Int) (x n : Nat) : inS U x n = decide ((x : Int) * 2 ^ 1074 ≤ U ∧ U < ((x + n : Nat) : Int) * 2 ^ 1074) := by
  unfold inS; rw [Bool.decide_and]
theorem mul_le_k {K : Int} (hK : 0 < K) {a b : Nat} (h : a ≤ b) : (a : Int) * K ≤ (b : Int) * K := Int.mul_le_mul_of_nonneg_right (by omega) (by omega)
/-- A place is in what both have just if it is in both; what is around both has all of both. -/
theorem inS_both (U : Int) (x n y m : Nat) (h : ¬ min (x + n) (y + m) ≤ max x y) : inS U (max x y) (min (x + n) (y + m) - max x y) = (inS U x n && inS U y m) := by
  rw [inS_iff, inS_iff, inS_iff, ← Bool.decide_and]
  have hK : (0 : Int) < 2 ^ 1074 := Int.pow_pos (by decide)
  have e : max x y + (min (x + n) (y + m) - max x y) = min (x + n) (y + m) := by omega
  rw [e]
  clear e
  generalize (2 : Int) ^ 1074 = K at *
  have h1 := fun a b => @mul_le_k K hK a b
  apply decide_eq_decide.2
  rcases Nat.le_total x y with a | a <;> rcases Nat.le_total (x + n) (y + m) with b | b
  all_goals
    first | rw [Nat.max_eq_right a] | rw [Nat.max_eq_left a]
    first | rw [Nat.min_eq_left b] | rw [Nat.min_eq_right b]
    have h2 := h1 _ _ a
    have h3 := h1 _ _ b
    clear h1 h a b
    generalize (x : Int) * K = X at *
    generalize (y : Int) * K = Y at *
    generalize ((x + n : Nat) : Int) * K = XE at *
    generalize ((y + m : Nat) : Int) * K = YE at *
    omega
theorem inS_none (U : Int) (x n y m : Nat) (h : min (x + n) (y + m) ≤ max x y) : (inS U x n && inS U y m) = false := by
  rw [inS_iff, inS_iff, ← Bool.decide_and]
  have hK : (0 : Int) < 2 ^ 1074 := Int.pow_pos (by decide)
  generalize (2 : Int) ^ 1074 = K at *
  have h1 := fun a b => @mul_le_k K hK a b
  apply decide_eq_false
  rcases Nat.le_total x y with a | a <;> rcases Nat.le_total (x + n) (y + m) with b | b
  all_goals
    first | rw [Nat.max_eq_right a] at h | rw [Nat.max_eq_left a] at h
    first | rw [Nat.min_eq_left b] at h | rw [Nat.min_eq_right b] at h
    have h2 := h1 _ _ a
    have h3 := h1 _ _ b
    have h4 := h1 _ _ h
    clear h1 h a b
    generalize (x : Int) * K = X at *
    generalize (y : Int) * K = Y at *
    generalize ((x + n : Nat) : Int) * K = XE at *
    generalize ((y + m : Nat) : Int) * K = YE at *
    omega
theorem inS_nought (U : Int) (x : Nat) : inS U x 0 = false := by
  rw [inS_iff, Nat.add_zero]
  exact decide_eq_false (by omega)
theorem inS_around (U : Int) (x n y m : Nat) (h : (inS U x n || inS U y m) = true) : inS U (aroundX x n y m) (aroundN x n y m) = true := by
  unfold aroundX aroundN
  by_cases hm : m = 0
  · subst hm
    rw [inS_nought, Bool.or_false] at h
    simpa using h
  · rw [if_neg hm, if_neg hm]
    by_cases hn : n = 0
    · subst hn
      rw [inS_nought, Bool.false_or] at h
      simpa using h
    · rw [if_neg hn, if_neg hn]
      rw [inS_iff, inS_iff, ← Bool.decide_or] at h
      rw [inS_iff]
      have hK : (0 : Int) < 2 ^ 1074 := Int.pow_pos (by decide)
      have e : min x y + (max (x + n) (y + m) - min x y) = max (x + n) (y + m) := by omega
      rw [e]
      clear e
      generalize (2 : Int) ^ 1074 = K at *
      have h1 := fun a b => @mul_le_k K hK a b
      have h := of_decide_eq_true h
      apply decide_eq_true
      rcases Nat.le_total x y with a | a <;> rcases Nat.le_total (x + n) (y + m) with b | b
      all_goals
        first | rw [Nat.min_eq_left a] | rw [Nat.min_eq_right a]
        first | rw [Nat.max_eq_right b] | rw [Nat.max_eq_left b]
        have h2 := h1 _ _ a
        have h3 := h1 _ _ b
        clear h1 a b
        generalize (x : Int) * K = X at *
        generalize (y : Int) * K = Y at *
        generalize ((x + n : Nat) : Int) * K = XE at *
        generalize ((y + m : Nat) : Int) * K = YE at *
        omega
/-- Has, at one span and at two, told by what is in them. -/
def HasIs (at_ : Int) (vs : List Value) (b : Bool) : Prop := ∀ (bk : Nat) (W : World), bk < W.heap.size → (∀ (j : Nat) (hj : j < vs.length), W.cell? ⟨bk, j, none⟩ = some vs[j]) →
  Calls Try.prog 24 #[.slice (some ⟨bk, 0, none⟩) vs.length vs.length, .int .i64 at_] W fun e w' => e = .returned (.bool b) ∧ Below W.heap.size W w'
theorem has_one (at_ U : Int) (x n y m p q ax an : Nat) (hU : ∀ (ss : List (Nat × Nat)) (hs : ∀ s ∈ ss, s.1 + s.2 ≤ 1099511627776) (bk o c : Nat) (w : World), ss.length ≤ 140737488355328 → bk < w.heap.size →
    (∀ (j : Nat) (hj : j < ss.length), w.cell? ⟨bk, o + j, none⟩ = some (sp ss[j].1 ss[j].2)) →
    Calls Try.prog 24 #[.slice (some ⟨bk, o, none⟩) ss.length c, .int .i64 at_] w fun e w' => e = .returned (.bool (ss.any fun s => inS U s.1 s.2)) ∧ Below w.heap.size w w')
    (k1 : x + n ≤ 1099511627776) (k2 : y + m ≤ 1099511627776) :
    HasIs at_ [sp x n] (inS U x n) ∧ HasIs at_ [sp x n, sp y m] (inS U x n || inS U y m) := by
  refine ⟨fun bk W hb hc => ?_, fun bk W hb hc => ?_⟩
  · have h := hU [(x, n)] (by simpa using k1) bk 0 1 W (by simp) hb (fun j hj => by
      match j, hj with
      | 0, _ => exact hc 0 (by simp))
    rw [show ([(x, n)].any fun s => inS U s.1 s.2) = inS U x n by simp] at h
    exact h
  · have h := hU [(x, n), (y, m)] (by simpa using ⟨k1, k2⟩) bk 0 2 W (by simp) hb (fun j hj => by
      match j, hj with
      | 0, _ => exact hc 0 (by simp)
      | 1, _ => exact hc 1 (by simp))
    rw [show ([(x, n), (y, m)].any fun s => inS U s.1 s.2) = (inS U x n || inS U y m) by simp] at h
    exact h
theorem new1 (W : World) (v : Value) (t bk : Nat) (h : bk = W.heap.size) : ∀ (j : Nat) (hj : j < [v].length), (W.alloc (.cells #[v] t)).cell? ⟨bk, j, none⟩ = some [v][j] := by
  subst h
  intro j hj
  obtain rfl : j = 0 := by simpa using hj
  rw [cell_of_row _ _ 0 _ _ (0, 0) (heap_alloc_new _ _)]; rfl
theorem new2 (W : World) (v u : Value) (t bk : Nat) (h : bk = W.heap.size) : ∀ (j : Nat) (hj : j < [v, u].length), (W.alloc (.cells #[v, u] t)).cell? ⟨bk, j, none⟩ = some [v, u][j] := by
  subst h
  intro j hj
  match j, hj with
  | 0, _ => rw [cell_of_row _ _ 0 _ _ (0, 0) (heap_alloc_new _ _)]; rfl
  | 1, _ => rw [cell_of_row _ _ 1 _ _ (0, 0) (heap_alloc_new _ _)]; rfl
set_option maxRecDepth 100000 in
set_option maxHeartbeats 2000000 in
theorem boths_111 (a b c d at_ : Int) (x1 x2 y1 y2 z1 z2 c1 c2 : Nat) (X Y Z V : Value) (hX : X = .complex .f64 x1 x2) (hY : Y = .complex .f64 y1 y2) (hZ : Z = .complex .f64 z1 z2) (hV : V = .complex .f64 c1 c2) (q1 : FloatKind.f64.format.order c1 c1 = some .eq) (q2 : FloatKind.f64.format.order c2 c2 = some .eq) (s0 : Gives 10 #[] (.bool true)) (g1 : Gives 13 #[.int .i64 a, .int .i64 b] X) (g2 : Gives 13 #[.int .i64 c, .int .i64 d] Y) (a1 : Gives 17 #[X, Y] Z) (b1 : Gives 15 #[X, Y] (.tuple #[V, .bool true])) (b2 : Gives 15 #[Y, X] (.tuple #[V, .bool true])) (H1 : HasIs at_ [X] true) (H2 : HasIs at_ [Y] true) (H3 : HasIs at_ [X, Y] true) (H4 : HasIs at_ [Z] true) (H5 : HasIs at_ [V] true) (w : World) :
    Calls Try.prog 7 #[.agg #[.int .i64 a, .int .i64 b], .agg #[.int .i64 c, .int .i64 d], .int .i64 at_] w fun e w' => e = .returned (.bool true) ∧ Below w.heap.size w w' := by
  subst hX hY hZ hV
  have B0 := Lib.hid (((Below.refl _ w).alloc (Nat.le_refl _) (.cells #[.int .i64 a, .int .i64 b] 29)).alloc (by simp) (.cells #[.int .i64 c, .int .i64 d] 29))
  go_enter Try.func7, Try.ntmps7
  go_wp2_with fail
  refine (s0 _).mono ?_
  rintro e w1 ⟨rfl, rfl⟩
  go_wp2_with fail
  refine (g1 _).mono ?_
  rintro e w1 ⟨rfl, rfl⟩
  go_wp2_with fail
  refine (g2 _).mono ?_
  rintro e w1 ⟨rfl, rfl⟩
  go_wp2_with fail
  refine (b1 _).mono ?_
  rintro e w1 ⟨rfl, rfl⟩
  go_wp2_with fail
  refine (b2 _).mono ?_
  rintro e w1 ⟨rfl, rfl⟩
  go_wp2_with fail
  refine (H1 _ _ (by simp) (new1 _ _ _ _ (by simp))).mono ?_
  rintro e w2 ⟨rfl, hb⟩
  have B1 := Lib.hid ((B0.out.alloc B0.out.size _).trans (hb.mono (by have := B0.out.size; simp; omega)))
  clear hb B0
  go_wp2_with fail
  refine (H2 _ _ (by simp) (new1 _ _ _ _ (by simp))).mono ?_
  rintro e w3 ⟨rfl, hb⟩
  have B2 := Lib.hid ((B1.out.alloc B1.out.size _).trans (hb.mono (by have := B1.out.size; simp; omega)))
  clear hb B1
  go_wp2_with fail
  refine (a1 _).mono ?_
  rintro e w1 ⟨rfl, rfl⟩
  go_wp2_with fail
  refine (H3 _ _ (by simp) (new2 _ _ _ _ _ (by simp))).mono ?_
  rintro e w4 ⟨rfl, hb⟩
  have B3 := Lib.hid ((B2.out.alloc B2.out.size _).trans (hb.mono (by have := B2.out.size; simp; omega)))
  clear hb B2
  go_wp2_with fail
  refine (H5 _ _ (by simp) (new1 _ _ _ _ (by simp))).mono ?_
  rintro e w5 ⟨rfl, hb⟩
  have B4 := Lib.hid ((B3.out.alloc B3.out.size _).trans (hb.mono (by have := B3.out.size; simp; omega)))
  clear hb B3
  go_wp2_with fail
  refine (H4 _ _ (by simp) (new1 _ _ _ _ (by simp))).mono ?_
  rintro e w6 ⟨rfl, hb⟩
  have B5 := Lib.hid ((B4.out.alloc B4.out.size _).trans (hb.mono (by have := B4.out.size; simp; omega)))
  clear hb B4
  go_wp2_with fail
  go_ret
  exact ⟨rfl, B5.out⟩
set_option maxRecDepth 100000 in
set_option maxHeartbeats 2000000 in
theorem boths_101 (a b c d at_ : Int) (x1 x2 y1 y2 z1 z2 c1 c2 : Nat) (X Y Z V : Value) (hX : X = .complex .f64 x1 x2) (hY : Y = .complex .f64 y1 y2) (hZ : Z = .complex .f64 z1 z2) (hV : V = .complex .f64 c1 c2) (q1 : FloatKind.f64.format.order c1 c1 = some .eq) (q2 : FloatKind.f64.format.order c2 c2 = some .eq) (s0 : Gives 10 #[] (.bool true)) (g1 : Gives 13 #[.int .i64 a, .int .i64 b] X) (g2 : Gives 13 #[.int .i64 c, .int .i64 d] Y) (a1 : Gives 17 #[X, Y] Z) (b1 : Gives 15 #[X, Y] (.tuple #[V, .bool true])) (b2 : Gives 15 #[Y, X] (.tuple #[V, .bool true])) (H1 : HasIs at_ [X] true) (H2 : HasIs at_ [Y] false) (H3 : HasIs at_ [X, Y] true) (H4 : HasIs at_ [Z] true) (H5 : HasIs at_ [V] false) (w : World) :
    Calls Try.prog 7 #[.agg #[.int .i64 a, .int .i64 b], .agg #[.int .i64 c, .int .i64 d], .int .i64 at_] w fun e w' => e = .returned (.bool true) ∧ Below w.heap.size w w' := by
  subst hX hY hZ hV
  have B0 := Lib.hid (((Below.refl _ w).alloc (Nat.le_refl _) (.cells #[.int .i64 a, .int .i64 b] 29)).alloc (by simp) (.cells #[.int .i64 c, .int .i64 d] 29))
  go_enter Try.func7, Try.ntmps7
  go_wp2_with fail
  refine (s0 _).mono ?_
  rintro e w1 ⟨rfl, rfl⟩
  go_wp2_with fail
  refine (g1 _).mono ?_
  rintro e w1 ⟨rfl, rfl⟩
  go_wp2_with fail
  refine (g2 _).mono ?_
  rintro e w1 ⟨rfl, rfl⟩
  go_wp2_with fail
  refine (b1 _).mono ?_
  rintro e w1 ⟨rfl, rfl⟩
  go_wp2_with fail
  refine (b2 _).mono ?_
  rintro e w1 ⟨rfl, rfl⟩
  go_wp2_with fail
  refine (H1 _ _ (by simp) (new1 _ _ _ _ (by simp))).mono ?_
  rintro e w2 ⟨rfl, hb⟩
  have B1 := Lib.hid ((B0.out.alloc B0.out.size _).trans (hb.mono (by have := B0.out.size; simp; omega)))
  clear hb B0
  go_wp2_with fail
  refine (H2 _ _ (by simp) (new1 _ _ _ _ (by simp))).mono ?_
  rintro e w3 ⟨rfl, hb⟩
  have B2 := Lib.hid ((B1.out.alloc B1.out.size _).trans (hb.mono (by have := B1.out.size; simp; omega)))
  clear hb B1
  go_wp2_with fail
  refine (a1 _).mono ?_
  rintro e w1 ⟨rfl, rfl⟩
  go_wp2_with fail
  refine (H3 _ _ (by simp) (new2 _ _ _ _ _ (by simp))).mono ?_
  rintro e w4 ⟨rfl, hb⟩
  have B3 := Lib.hid ((B2.out.alloc B2.out.size _).trans (hb.mono (by have := B2.out.size; simp; omega)))
  clear hb B2
  go_wp2_with fail
  refine (H5 _ _ (by simp) (new1 _ _ _ _ (by simp))).mono ?_
  rintro e w5 ⟨rfl, hb⟩
  have B4 := Lib.hid ((B3.out.alloc B3.out.size _).trans (hb.mono (by have := B3.out.size; simp; omega)))
  clear hb B3
  go_wp2_with fail
  refine (H4 _ _ (by simp) (new1 _ _ _ _ (by simp))).mono ?_
  rintro e w6 ⟨rfl, hb⟩
  have B5 := Lib.hid ((B4.out.alloc B4.out.size _).trans (hb.mono (by have := B4.out.size; simp; omega)))
  clear hb B4
  go_wp2_with fail
  go_ret
  exact ⟨rfl, B5.out⟩
set_option maxRecDepth 100000 in
set_option maxHeartbeats 2000000 in
theorem boths_100 (a b c d at_ : Int) (x1 x2 y1 y2 z1 z2 c1 c2 : Nat) (X Y Z V : Value) (hX : X = .complex .f64 x1 x2) (hY : Y = .complex .f64 y1 y2) (hZ : Z = .complex .f64 z1 z2) (hV : V = .complex .f64 c1 c2) (q1 : FloatKind.f64.format.order c1 c1 = some .eq) (q2 : FloatKind.f64.format.order c2 c2 = some .eq) (s0 : Gives 10 #[] (.bool true)) (g1 : Gives 13 #[.int .i64 a, .int .i64 b] X) (g2 : Gives 13 #[.int .i64 c, .int .i64 d] Y) (a1 : Gives 17 #[X, Y] Z) (b1 : Gives 15 #[X, Y] (.tuple #[V, .bool false])) (b2 : Gives 15 #[Y, X] (.tuple #[V, .bool false])) (H1 : HasIs at_ [X] true) (H2 : HasIs at_ [Y] false) (H3 : HasIs at_ [X, Y] true) (H4 : HasIs at_ [Z] true) (w : World) :
    Calls Try.prog 7 #[.agg #[.int .i64 a, .int .i64 b], .agg #[.int .i64 c, .int .i64 d], .int .i64 at_] w fun e w' => e = .returned (.bool true) ∧ Below w.heap.size w w' := by
  subst hX hY hZ hV
  have B0 := Lib.hid (((Below.refl _ w).alloc (Nat.le_refl _) (.cells #[.int .i64 a, .int .i64 b] 29)).alloc (by simp) (.cells #[.int .i64 c, .int .i64 d] 29))
  go_enter Try.func7, Try.ntmps7
  go_wp2_with fail
  refine (s0 _).mono ?_
  rintro e w1 ⟨rfl, rfl⟩
  go_wp2_with fail
  refine (g1 _).mono ?_
  rintro e w1 ⟨rfl, rfl⟩
  go_wp2_with fail
  refine (g2 _).mono ?_
  rintro e w1 ⟨rfl, rfl⟩
  go_wp2_with fail
  refine (b1 _).mono ?_
  rintro e w1 ⟨rfl, rfl⟩
  go_wp2_with fail
  refine (b2 _).mono ?_
  rintro e w1 ⟨rfl, rfl⟩
  go_wp2_with fail
  refine (H1 _ _ (by simp) (new1 _ _ _ _ (by simp))).mono ?_
  rintro e w2 ⟨rfl, hb⟩
  have B1 := Lib.hid ((B0.out.alloc B0.out.size _).trans (hb.mono (by have := B0.out.size; simp; omega)))
  clear hb B0
  go_wp2_with fail
  refine (H2 _ _ (by simp) (new1 _ _ _ _ (by simp))).mono ?_
  rintro e w3 ⟨rfl, hb⟩
  have B2 := Lib.hid ((B1.out.alloc B1.out.size _).trans (hb.mono (by have := B1.out.size; simp; omega)))
  clear hb B1
  go_wp2_with fail
  refine (a1 _).mono ?_
  rintro e w1 ⟨rfl, rfl⟩
  go_wp2_with fail
  refine (H3 _ _ (by simp) (new2 _ _ _ _ _ (by simp))).mono ?_
  rintro e w4 ⟨rfl, hb⟩
  have B3 := Lib.hid ((B2.out.alloc B2.out.size _).trans (hb.mono (by have := B2.out.size; simp; omega)))
  clear hb B2
  go_wp2_with fail
  refine (H4 _ _ (by simp) (new1 _ _ _ _ (by simp))).mono ?_
  rintro e w5 ⟨rfl, hb⟩
  have B4 := Lib.hid ((B3.out.alloc B3.out.size _).trans (hb.mono (by have := B3.out.size; simp; omega)))
  clear hb B3
  go_wp2_with fail
  go_ret
  exact ⟨rfl, B4.out⟩
set_option maxRecDepth 100000 in
set_option maxHeartbeats 2000000 in
theorem boths_011 (a b c d at_ : Int) (x1 x2 y1 y2 z1 z2 c1 c2 : Nat) (X Y Z V : Value) (hX : X = .complex .f64 x1 x2) (hY : Y = .complex .f64 y1 y2) (hZ : Z = .complex .f64 z1 z2) (hV : V = .complex .f64 c1 c2) (q1 : FloatKind.f64.format.order c1 c1 = some .eq) (q2 : FloatKind.f64.format.order c2 c2 = some .eq) (s0 : Gives 10 #[] (.bool true)) (g1 : Gives 13 #[.int .i64 a, .int .i64 b] X) (g2 : Gives 13 #[.int .i64 c, .int .i64 d] Y) (a1 : Gives 17 #[X, Y] Z) (b1 : Gives 15 #[X, Y] (.tuple #[V, .bool true])) (b2 : Gives 15 #[Y, X] (.tuple #[V, .bool true])) (H1 : HasIs at_ [X] false) (H2 : HasIs at_ [Y] true) (H3 : HasIs at_ [X, Y] true) (H4 : HasIs at_ [Z] true) (H5 : HasIs at_ [V] false) (w : World) :
    Calls Try.prog 7 #[.agg #[.int .i64 a, .int .i64 b], .agg #[.int .i64 c, .int .i64 d], .int .i64 at_] w fun e w' => e = .returned (.bool true) ∧ Below w.heap.size w w' := by
  subst hX hY hZ hV
  have B0 := Lib.hid (((Below.refl _ w).alloc (Nat.le_refl _) (.cells #[.int .i64 a, .int .i64 b] 29)).alloc (by simp) (.cells #[.int .i64 c, .int .i64 d] 29))
  go_enter Try.func7, Try.ntmps7
  go_wp2_with fail
  refine (s0 _).mono ?_
  rintro e w1 ⟨rfl, rfl⟩
  go_wp2_with fail
  refine (g1 _).mono ?_
  rintro e w1 ⟨rfl, rfl⟩
  go_wp2_with fail
  refine (g2 _).mono ?_
  rintro e w1 ⟨rfl, rfl⟩
  go_wp2_with fail
  refine (b1 _).mono ?_
  rintro e w1 ⟨rfl, rfl⟩
  go_wp2_with fail
  refine (b2 _).mono ?_
  rintro e w1 ⟨rfl, rfl⟩
  go_wp2_with fail
  refine (H1 _ _ (by simp) (new1 _ _ _ _ (by simp))).mono ?_
  rintro e w2 ⟨rfl, hb⟩
  have B1 := Lib.hid ((B0.out.alloc B0.out.size _).trans (hb.mono (by have := B0.out.size; simp; omega)))
  clear hb B0
  go_wp2_with fail
  refine (a1 _).mono ?_
  rintro e w1 ⟨rfl, rfl⟩
  go_wp2_with fail
  refine (H3 _ _ (by simp) (new2 _ _ _ _ _ (by simp))).mono ?_
  rintro e w3 ⟨rfl, hb⟩
  have B2 := Lib.hid ((B1.out.alloc B1.out.size _).trans (hb.mono (by have := B1.out.size; simp; omega)))
  clear hb B1
  go_wp2_with fail
  refine (H5 _ _ (by simp) (new1 _ _ _ _ (by simp))).mono ?_
  rintro e w4 ⟨rfl, hb⟩
  have B3 := Lib.hid ((B2.out.alloc B2.out.size _).trans (hb.mono (by have := B2.out.size; simp; omega)))
  clear hb B2
  go_wp2_with fail
  refine (H4 _ _ (by simp) (new1 _ _ _ _ (by simp))).mono ?_
  rintro e w5 ⟨rfl, hb⟩
  have B4 := Lib.hid ((B3.out.alloc B3.out.size _).trans (hb.mono (by have := B3.out.size; simp; omega)))
  clear hb B3
  go_wp2_with fail
  go_ret
  exact ⟨rfl, B4.out⟩
set_option maxRecDepth 100000 in
set_option maxHeartbeats 2000000 in
theorem boths_010 (a b c d at_ : Int) (x1 x2 y1 y2 z1 z2 c1 c2 : Nat) (X Y Z V : Value) (hX : X = .complex .f64 x1 x2) (hY : Y = .complex .f64 y1 y2) (hZ : Z = .complex .f64 z1 z2) (hV : V = .complex .f64 c1 c2) (q1 : FloatKind.f64.format.order c1 c1 = some .eq) (q2 : FloatKind.f64.format.order c2 c2 = some .eq) (s0 : Gives 10 #[] (.bool true)) (g1 : Gives 13 #[.int .i64 a, .int .i64 b] X) (g2 : Gives 13 #[.int .i64 c, .int .i64 d] Y) (a1 : Gives 17 #[X, Y] Z) (b1 : Gives 15 #[X, Y] (.tuple #[V, .bool false])) (b2 : Gives 15 #[Y, X] (.tuple #[V, .bool false])) (H1 : HasIs at_ [X] false) (H2 : HasIs at_ [Y] true) (H3 : HasIs at_ [X, Y] true) (H4 : HasIs at_ [Z] true) (w : World) :
    Calls Try.prog 7 #[.agg #[.int .i64 a, .int .i64 b], .agg #[.int .i64 c, .int .i64 d], .int .i64 at_] w fun e w' => e = .returned (.bool true) ∧ Below w.heap.size w w' := by
  subst hX hY hZ hV
  have B0 := Lib.hid (((Below.refl _ w).alloc (Nat.le_refl _) (.cells #[.int .i64 a, .int .i64 b] 29)).alloc (by simp) (.cells #[.int .i64 c, .int .i64 d] 29))
  go_enter Try.func7, Try.ntmps7
  go_wp2_with fail
  refine (s0 _).mono ?_
  rintro e w1 ⟨rfl, rfl⟩
  go_wp2_with fail
  refine (g1 _).mono ?_
  rintro e w1 ⟨rfl, rfl⟩
  go_wp2_with fail
  refine (g2 _).mono ?_
  rintro e w1 ⟨rfl, rfl⟩
  go_wp2_with fail
  refine (b1 _).mono ?_
  rintro e w1 ⟨rfl, rfl⟩
  go_wp2_with fail
  refine (b2 _).mono ?_
  rintro e w1 ⟨rfl, rfl⟩
  go_wp2_with fail
  refine (H1 _ _ (by simp) (new1 _ _ _ _ (by simp))).mono ?_
  rintro e w2 ⟨rfl, hb⟩
  have B1 := Lib.hid ((B0.out.alloc B0.out.size _).trans (hb.mono (by have := B0.out.size; simp; omega)))
  clear hb B0
  go_wp2_with fail
  refine (a1 _).mono ?_
  rintro e w1 ⟨rfl, rfl⟩
  go_wp2_with fail
  refine (H3 _ _ (by simp) (new2 _ _ _ _ _ (by simp))).mono ?_
  rintro e w3 ⟨rfl, hb⟩
  have B2 := Lib.hid ((B1.out.alloc B1.out.size _).trans (hb.mono (by have := B1.out.size; simp; omega)))
  clear hb B1
  go_wp2_with fail
  refine (H4 _ _ (by simp) (new1 _ _ _ _ (by simp))).mono ?_
  rintro e w4 ⟨rfl, hb⟩
  have B3 := Lib.hid ((B2.out.alloc B2.out.size _).trans (hb.mono (by have := B2.out.size; simp; omega)))
  clear hb B2
  go_wp2_with fail
  go_ret
  exact ⟨rfl, B3.out⟩
set_option maxRecDepth 100000 in
set_option maxHeartbeats 2000000 in
theorem boths_001 (a b c d at_ : Int) (x1 x2 y1 y2 z1 z2 c1 c2 : Nat) (X Y Z V : Value) (hX : X = .complex .f64 x1 x2) (hY : Y = .complex .f64 y1 y2) (hZ : Z = .complex .f64 z1 z2) (hV : V = .complex .f64 c1 c2) (q1 : FloatKind.f64.format.order c1 c1 = some .eq) (q2 : FloatKind.f64.format.order c2 c2 = some .eq) (s0 : Gives 10 #[] (.bool true)) (g1 : Gives 13 #[.int .i64 a, .int .i64 b] X) (g2 : Gives 13 #[.int .i64 c, .int .i64 d] Y) (a1 : Gives 17 #[X, Y] Z) (b1 : Gives 15 #[X, Y] (.tuple #[V, .bool true])) (b2 : Gives 15 #[Y, X] (.tuple #[V, .bool true])) (H1 : HasIs at_ [X] false) (H2 : HasIs at_ [Y] false) (H3 : HasIs at_ [X, Y] false) (H5 : HasIs at_ [V] false) (w : World) :
    Calls Try.prog 7 #[.agg #[.int .i64 a, .int .i64 b], .agg #[.int .i64 c, .int .i64 d], .int .i64 at_] w fun e w' => e = .returned (.bool true) ∧ Below w.heap.size w w' := by
  subst hX hY hZ hV
  have B0 := Lib.hid (((Below.refl _ w).alloc (Nat.le_refl _) (.cells #[.int .i64 a, .int .i64 b] 29)).alloc (by simp) (.cells #[.int .i64 c, .int .i64 d] 29))
  go_enter Try.func7, Try.ntmps7
  go_wp2_with fail
  refine (s0 _).mono ?_
  rintro e w1 ⟨rfl, rfl⟩
  go_wp2_with fail
  refine (g1 _).mono ?_
  rintro e w1 ⟨rfl, rfl⟩
  go_wp2_with fail
  refine (g2 _).mono ?_
  rintro e w1 ⟨rfl, rfl⟩
  go_wp2_with fail
  refine (b1 _).mono ?_
  rintro e w1 ⟨rfl, rfl⟩
  go_wp2_with fail
  refine (b2 _).mono ?_
  rintro e w1 ⟨rfl, rfl⟩
  go_wp2_with fail
  refine (H1 _ _ (by simp) (new1 _ _ _ _ (by simp))).mono ?_
  rintro e w2 ⟨rfl, hb⟩
  have B1 := Lib.hid ((B0.out.alloc B0.out.size _).trans (hb.mono (by have := B0.out.size; simp; omega)))
  clear hb B0
  go_wp2_with fail
  refine (a1 _).mono ?_
  rintro e w1 ⟨rfl, rfl⟩
  go_wp2_with fail
  refine (H3 _ _ (by simp) (new2 _ _ _ _ _ (by simp))).mono ?_
  rintro e w3 ⟨rfl, hb⟩
  have B2 := Lib.hid ((B1.out.alloc B1.out.size _).trans (hb.mono (by have := B1.out.size; simp; omega)))
  clear hb B1
  go_wp2_with fail
  refine (H5 _ _ (by simp) (new1 _ _ _ _ (by simp))).mono ?_
  rintro e w4 ⟨rfl, hb⟩
  have B3 := Lib.hid ((B2.out.alloc B2.out.size _).trans (hb.mono (by have := B2.out.size; simp; omega)))
  clear hb B2
  go_wp2_with fail
  go_ret
  exact ⟨rfl, B3.out⟩
set_option maxRecDepth 100000 in
set_option maxHeartbeats 2000000 in
theorem boths_000 (a b c d at_ : Int) (x1 x2 y1 y2 z1 z2 c1 c2 : Nat) (X Y Z V : Value) (hX : X = .complex .f64 x1 x2) (hY : Y = .complex .f64 y1 y2) (hZ : Z = .complex .f64 z1 z2) (hV : V = .complex .f64 c1 c2) (q1 : FloatKind.f64.format.order c1 c1 = some .eq) (q2 : FloatKind.f64.format.order c2 c2 = some .eq) (s0 : Gives 10 #[] (.bool true)) (g1 : Gives 13 #[.int .i64 a, .int .i64 b] X) (g2 : Gives 13 #[.int .i64 c, .int .i64 d] Y) (a1 : Gives 17 #[X, Y] Z) (b1 : Gives 15 #[X, Y] (.tuple #[V, .bool false])) (b2 : Gives 15 #[Y, X] (.tuple #[V, .bool false])) (H1 : HasIs at_ [X] false) (H2 : HasIs at_ [Y] false) (H3 : HasIs at_ [X, Y] false) (w : World) :
    Calls Try.prog 7 #[.agg #[.int .i64 a, .int .i64 b], .agg #[.int .i64 c, .int .i64 d], .int .i64 at_] w fun e w' => e = .returned (.bool true) ∧ Below w.heap.size w w' := by
  subst hX hY hZ hV
  have B0 := Lib.hid (((Below.refl _ w).alloc (Nat.le_refl _) (.cells #[.int .i64 a, .int .i64 b] 29)).alloc (by simp) (.cells #[.int .i64 c, .int .i64 d] 29))
  go_enter Try.func7, Try.ntmps7
  go_wp2_with fail
  refine (s0 _).mono ?_
  rintro e w1 ⟨rfl, rfl⟩
  go_wp2_with fail
  refine (g1 _).mono ?_
  rintro e w1 ⟨rfl, rfl⟩
  go_wp2_with fail
  refine (g2 _).mono ?_
  rintro e w1 ⟨rfl, rfl⟩
  go_wp2_with fail
  refine (b1 _).mono ?_
  rintro e w1 ⟨rfl, rfl⟩
  go_wp2_with fail
  refine (b2 _).mono ?_
  rintro e w1 ⟨rfl, rfl⟩
  go_wp2_with fail
  refine (H1 _ _ (by simp) (new1 _ _ _ _ (by simp))).mono ?_
  rintro e w2 ⟨rfl, hb⟩
  have B1 := Lib.hid ((B0.out.alloc B0.out.size _).trans (hb.mono (by have := B0.out.size; simp; omega)))
  clear hb B0
  go_wp2_with fail
  refine (a1 _).mono ?_
  rintro e w1 ⟨rfl, rfl⟩
  go_wp2_with fail
  refine (H3 _ _ (by simp) (new2 _ _ _ _ _ (by simp))).mono ?_
  rintro e w3 ⟨rfl, hb⟩
  have B2 := Lib.hid ((B1.out.alloc B1.out.size _).trans (hb.mono (by have := B1.out.size; simp; omega)))
  clear hb B1
  go_wp2_with fail
  go_ret
  exact ⟨rfl, B2.out⟩
set_option maxRecDepth 100000 in
set_option maxHeartbeats 8000000 in
theorem span_boths_calls (a b c d at_ : Int) (w : World) : Calls Try.prog 7 #[.agg #[.int .i64 a, .int .i64 b], .agg #[.int .i64 c, .int .i64 d], .int .i64 at_] w fun e w' => e = .returned (.bool true) ∧ Below w.heap.size w w' := by
  have s0 := shown_gives
  have g1 := given_gives a b
  have g2 := given_gives c d
  have k1 := giv_ok a b
  have k2 := giv_ok c d
  generalize givX a b = x at *
  generalize givN a b = n at *
  generalize givX c d = y at *
  generalize givN c d = m at *
  obtain ⟨U, hU⟩ := has_calls at_
  have a1 := around_good x n y m k1 k2
  have ak := around_ok x n y m k1 k2
  have hE := inS_around U x n y m
  have H1 := (has_one at_ U x n y m 0 0 0 0 hU k1 k2).1
  have H2 := (has_one at_ U y m x n 0 0 0 0 hU k2 k1).1
  have H3 := (has_one at_ U x n y m 0 0 0 0 hU k1 k2).2
  have H4 := (has_one at_ U _ _ y m 0 0 0 0 hU ak k2).1
  obtain ⟨p, q, bb, hpq, hb1, hb2, h5, h6⟩ : ∃ p q : Nat, ∃ bb : Bool, p + q ≤ 1099511627776 ∧ Gives 15 #[sp x n, sp y m] (.tuple #[sp p q, .bool bb]) ∧ Gives 15 #[sp y m, sp x n] (.tuple #[sp p q, .bool bb]) ∧ (bb = true → inS U p q = (inS U x n && inS U y m)) ∧ (bb = false → (inS U x n && inS U y m) = false) := by
    have h1 := both_good x n y m k1 k2
    have h2 := both_good y m x n k2 k1
    unfold bothV at h1 h2
    rw [Nat.min_comm (y + m), Nat.max_comm y] at h2
    by_cases hc : min (x + n) (y + m) ≤ max x y
    · rw [if_pos hc] at h1 h2
      exact ⟨0, 0, false, by decide, h1, h2, fun h => by (cases h), fun _ => inS_none U x n y m hc⟩
    · rw [if_neg hc] at h1 h2
      exact ⟨_, _, true, by omega, h1, h2, fun _ => inS_both U x n y m hc, fun h => by (cases h)⟩
  have H5 := (has_one at_ U p q y m 0 0 0 0 hU hpq k2).1
  have z3 := order_self p (by omega)
  have z4 := order_self q (by omega)
  clear hU k1 k2 ak hpq
  generalize inS U x n = A at *
  generalize inS U y m = B at *
  generalize inS U p q = C at *
  generalize inS U (aroundX x n y m) (aroundN x n y m) = E at *
  cases A <;> cases B <;> cases bb
  · skip
    exact boths_000 a b c d at_ _ _ _ _ _ _ _ _ _ _ _ _ rfl rfl rfl rfl z3 z4 s0 g1 g2 a1 hb1 hb2 H1 H2 H3 w
  · skip
    obtain rfl : C = false := h5 rfl
    exact boths_001 a b c d at_ _ _ _ _ _ _ _ _ _ _ _ _ rfl rfl rfl rfl z3 z4 s0 g1 g2 a1 hb1 hb2 H1 H2 H3 H5 w
  · obtain rfl := hE rfl
    exact boths_010 a b c d at_ _ _ _ _ _ _ _ _ _ _ _ _ rfl rfl rfl rfl z3 z4 s0 g1 g2 a1 hb1 hb2 H1 H2 H3 H4 w
  · obtain rfl := hE rfl
    obtain rfl : C = false := h5 rfl
    exact boths_011 a b c d at_ _ _ _ _ _ _ _ _ _ _ _ _ rfl rfl rfl rfl z3 z4 s0 g1 g2 a1 hb1 hb2 H1 H2 H3 H4 H5 w
  · obtain rfl := hE rfl
    exact boths_100 a b c d at_ _ _ _ _ _ _ _ _ _ _ _ _ rfl rfl rfl rfl z3 z4 s0 g1 g2 a1 hb1 hb2 H1 H2 H3 H4 w
  · obtain rfl := hE rfl
    obtain rfl : C = false := h5 rfl
    exact boths_101 a b c d at_ _ _ _ _ _ _ _ _ _ _ _ _ rfl rfl rfl rfl z3 z4 s0 g1 g2 a1 hb1 hb2 H1 H2 H3 H4 H5 w
  · exact absurd (h6 rfl) (by decide)
  · obtain rfl := hE rfl
    obtain rfl : C = true := h5 rfl
    exact boths_111 a b c d at_ _ _ _ _ _ _ _ _ _ _ _ _ rfl rfl rfl rfl z3 z4 s0 g1 g2 a1 hb1 hb2 H1 H2 H3 H4 H5 w
def copyholdlaw03_SpanBoths.f (a0_0 a0_1 a1_0 a1_1 a2 : Int) : Option Bool := some true
theorem copyholdlaw03_SpanBoths.calls (a0_0 a0_1 a1_0 a1_1 a2 : Int) (r : Bool) (w : World) (h : copyholdlaw03_SpanBoths.f a0_0 a0_1 a1_0 a1_1 a2 = some r) :
    Calls Try.prog 7 #[.agg #[.int .i64 a0_0, .int .i64 a0_1], .agg #[.int .i64 a1_0, .int .i64 a1_1], .int .i64 a2] w fun e w' => e = .returned (.bool r) ∧ Below w.heap.size w w' := by
  obtain rfl := Option.some.inj h
  exact span_boths_calls _ _ _ _ _ w
end Go.Proofs.Ytnoognbnkopdnaa
