import Derived.Test.YtgnmhbkialgeaaaZWireCalls1
import Derived.Test.YtgnmhbkialgeaaaRows
import Derived.Test.YtgnmhbkialgeaaaWWords
import Derived.ProofKit
import Derived.SizedLaws
section
/- The machine's side of laws of this seat: Go functions as Lean functions, and the proof that a call of each comes to what its function says (written by a program of this session, px.py, that runs the kit's print). -/
namespace Go.Proofs.Ytgnmhbkialgeaaa.Q
open Go.RowKit Go.Proofs.YtgnmhbkialgeaaaW.PrintWords Go.Proofs.YtgnmhbkialgeaaaW.PrintLast Go.Proofs.YtgnmhbkialgeaaaW.PrintMore
attribute [local go_sem] max2_int min2_int max_two min_two max_three min_three max_four min_four   -- for this text's walks alone
attribute [local go_sem high] Go.Proofs.Ytgnmhbkialgeaaa.px_xor_u8 Go.Proofs.Ytgnmhbkialgeaaa.px_xor_u16 Go.Proofs.Ytgnmhbkialgeaaa.px_xor_u32 Go.Proofs.Ytgnmhbkialgeaaa.px_xor_u64
set_option linter.unusedVariables false
set_option linter.unusedSimpArgs false

attribute [local go_sem high] eqA23
/-! ### copyholdlaw15_WireCalls: function 3 -/
mutual
def copyholdlaw15_WireCalls.j0 : Nat → Int → Bool → Bool → Int → Int → Int → Int → Int → ByteArray → ByteArray → ByteArray → Int → Int → Int → Int → Int → ByteArray → ByteArray → ByteArray → Option (Bool)
  | 0, _, _, _, _, _, _, _, _, _, _, _, _, _, _, _, _, _, _, _ => none
  | k + 1, x2, x7, x26, x136000, x136001, x136002, x136003, x136004, x136005, x136006, x136007, x137000, x137001, x137002, x137003, x137004, x137005, x137006, x137007 => if x26 = true then (some x7) else ((wire_Call.f x136000 x136001 x136002 x136003 x136004 x136005 x136006 x136007).bind fun t140 => ((wire_Call.f x137000 x137001 x137002 x137003 x137004 x137005 x137006 x137007).bind fun t141 => (if t140.size + t141.size ≤ 9223372036854775807 then ((wire_TakeCall.f (t140 ++ t141)).bind fun bt142 => ((wire_TakeCall.f bt142.2.2.2.2.2.2.2.2.1).bind fun bt153 => (if bt142.2.2.2.2.2.2.2.2.2 = 0 then (if bt153.2.2.2.2.2.2.2.2.2 = 0 then (if (!(bt142.1 == x136000) || (!(bt142.2.1 == x136001) || (!(bt142.2.2.1 == x136002) || (!(bt142.2.2.2.1 == x136003) || (!(bt142.2.2.2.2.1 == x136004) || (!(bt142.2.2.2.2.2.1.toList == x136005.toList) || (!(bt142.2.2.2.2.2.2.1.toList == x136006.toList) || (!(bt142.2.2.2.2.2.2.2.1.toList == x136007.toList))))))))) = true then (copyholdlaw15_WireCalls.j1 k x2 x7 t140 true) else (if (!(bt153.1 == x137000) || (!(bt153.2.1 == x137001) || (!(bt153.2.2.1 == x137002) || (!(bt153.2.2.2.1 == x137003) || (!(bt153.2.2.2.2.1 == x137004) || (!(bt153.2.2.2.2.2.1.toList == x137005.toList) || (!(bt153.2.2.2.2.2.2.1.toList == x137006.toList) || (!(bt153.2.2.2.2.2.2.2.1.toList == x137007.toList))))))))) = true then (copyholdlaw15_WireCalls.j1 k x2 x7 t140 true) else (copyholdlaw15_WireCalls.j1 k x2 x7 t140 (bt153.2.2.2.2.2.2.2.2.1.toList != ([] : List UInt8))))) else (copyholdlaw15_WireCalls.j1 k x2 x7 t140 true)) else (copyholdlaw15_WireCalls.j1 k x2 x7 t140 true)))) else (none))))
def copyholdlaw15_WireCalls.j1 : Nat → Int → Bool → ByteArray → Bool → Option (Bool)
  | 0, _, _, _, _ => none
  | k + 1, x2, x7, x8, x64 => if x64 = true then (some false) else (if x2 < 0 then (some x7) else (if x2 ≥ (x8.size : Int) then (some x7) else (if 0 ≤ x2 then (if x2 ≤ (x8.size : Int) then ((wire_TakeCall.f (x8.extract 0 (x2 : Int).toNat)).bind fun bt164 => (if x7 = true then (some (bt164.2.2.2.2.2.2.2.2.2 == 2)) else (some false))) else (none)) else (none))))
end
def copyholdlaw15_WireCalls.f (k : Nat) (a0_0 : Int) (a0_1 : Int) (a0_2 : Int) (a0_3 : Int) (a0_4 : Int) (a0_5 : ByteArray) (a0_6 : ByteArray) (a0_7 : ByteArray) (a1_0 : Int) (a1_1 : Int) (a1_2 : Int) (a1_3 : Int) (a1_4 : Int) (a1_5 : ByteArray) (a1_6 : ByteArray) (a1_7 : ByteArray) (a2 : Int) : Option (Bool) := (copyholdlaw15_shown.f).bind fun t137 => ((copyholdlaw15_short.f a0_0 a0_1 a0_2 a0_3 a0_4 a0_5 a0_6 a0_7).bind fun t138 => (if t138 = true then ((copyholdlaw15_short.f a1_0 a1_1 a1_2 a1_3 a1_4 a1_5 a1_6 a1_7).bind fun t139 => (copyholdlaw15_WireCalls.j0 k a2 t137 (!t139) a0_0 a0_1 a0_2 a0_3 a0_4 a0_5 a0_6 a0_7 a1_0 a1_1 a1_2 a1_3 a1_4 a1_5 a1_6 a1_7)) else (copyholdlaw15_WireCalls.j0 k a2 t137 true a0_0 a0_1 a0_2 a0_3 a0_4 a0_5 a0_6 a0_7 a1_0 a1_1 a1_2 a1_3 a1_4 a1_5 a1_6 a1_7)))
theorem copyholdlaw15_WireCalls.mono_l : ∀ k, (∀ y0 y1 y2 y3 y4 y5 y6 y7 y8 y9 y10 y11 y12 y13 y14 y15 y16 y17 y18, LeO (copyholdlaw15_WireCalls.j0 k y0 y1 y2 y3 y4 y5 y6 y7 y8 y9 y10 y11 y12 y13 y14 y15 y16 y17 y18) (copyholdlaw15_WireCalls.j0 (k + 1) y0 y1 y2 y3 y4 y5 y6 y7 y8 y9 y10 y11 y12 y13 y14 y15 y16 y17 y18)) ∧ (∀ y0 y1 y2 y3, LeO (copyholdlaw15_WireCalls.j1 k y0 y1 y2 y3) (copyholdlaw15_WireCalls.j1 (k + 1) y0 y1 y2 y3))
  | 0 => ⟨fun _ _ _ _ _ _ _ _ _ _ _ _ _ _ _ _ _ _ _ r h => by simp [copyholdlaw15_WireCalls.j0] at h, fun _ _ _ _ r h => by simp [copyholdlaw15_WireCalls.j1] at h⟩
  | k + 1 => by
    obtain ⟨ih0, ih1⟩ := copyholdlaw15_WireCalls.mono_l k
    refine ⟨?_, ?_⟩
    · intro y0 y1 y2 y3 y4 y5 y6 y7 y8 y9 y10 y11 y12 y13 y14 y15 y16 y17 y18
      unfold copyholdlaw15_WireCalls.j0
      repeat' first
      | (with_reducible exact ih0 _ _ _ _ _ _ _ _ _ _ _ _ _ _ _ _ _ _ _)
      | (with_reducible exact ih1 _ _ _ _)
      | (with_reducible exact LeO.refl _)
      | (with_reducible exact LeO.none _)
      | (with_reducible refine LeO.ite ?_ ?_)
      | (with_reducible refine LeO.bind ?_ (fun _ => ?_))
      | exact ih0 _ _ _ _ _ _ _ _ _ _ _ _ _ _ _ _ _ _ _
      | exact ih1 _ _ _ _
      | exact LeO.none _
      | refine LeO.ite ?_ ?_
      | refine LeO.bind ?_ (fun _ => ?_)
    · intro y0 y1 y2 y3
      unfold copyholdlaw15_WireCalls.j1
      repeat' first
      | (with_reducible exact ih0 _ _ _ _ _ _ _ _ _ _ _ _ _ _ _ _ _ _ _)
      | (with_reducible exact ih1 _ _ _ _)
      | (with_reducible exact LeO.refl _)
      | (with_reducible exact LeO.none _)
      | (with_reducible refine LeO.ite ?_ ?_)
      | (with_reducible refine LeO.bind ?_ (fun _ => ?_))
      | exact ih0 _ _ _ _ _ _ _ _ _ _ _ _ _ _ _ _ _ _ _
      | exact ih1 _ _ _ _
      | exact LeO.none _
      | refine LeO.ite ?_ ?_
      | refine LeO.bind ?_ (fun _ => ?_)
theorem copyholdlaw15_WireCalls.mono : ∀ a0 a1 a2 a3 a4 a5 a6 a7 a8 a9 a10 a11 a12 a13 a14 a15 a16 k, LeO (copyholdlaw15_WireCalls.f k a0 a1 a2 a3 a4 a5 a6 a7 a8 a9 a10 a11 a12 a13 a14 a15 a16) (copyholdlaw15_WireCalls.f (k + 1) a0 a1 a2 a3 a4 a5 a6 a7 a8 a9 a10 a11 a12 a13 a14 a15 a16) := by
  intro a0 a1 a2 a3 a4 a5 a6 a7 a8 a9 a10 a11 a12 a13 a14 a15 a16 k
  obtain ⟨ih0, ih1⟩ := copyholdlaw15_WireCalls.mono_l k
  unfold copyholdlaw15_WireCalls.f
  repeat' first
      | (with_reducible exact ih0 _ _ _ _ _ _ _ _ _ _ _ _ _ _ _ _ _ _ _)
      | (with_reducible exact ih1 _ _ _ _)
      | (with_reducible exact LeO.refl _)
      | (with_reducible exact LeO.none _)
      | (with_reducible refine LeO.ite ?_ ?_)
      | (with_reducible refine LeO.bind ?_ (fun _ => ?_))
      | exact ih0 _ _ _ _ _ _ _ _ _ _ _ _ _ _ _ _ _ _ _
      | exact ih1 _ _ _ _
      | exact LeO.none _
      | refine LeO.ite ?_ ?_
      | refine LeO.bind ?_ (fun _ => ?_)
set_option maxHeartbeats 8000000 in
set_option maxRecDepth 100000 in
theorem copyholdlaw15_WireCalls.calls (k : Nat) (a0_0 : Int) (a0_1 : Int) (a0_2 : Int) (a0_3 : Int) (a0_4 : Int) (a0_5 : ByteArray) (a0_6 : ByteArray) (a0_7 : ByteArray) (a1_0 : Int) (a1_1 : Int) (a1_2 : Int) (a1_3 : Int) (a1_4 : Int) (a1_5 : ByteArray) (a1_6 : ByteArray) (a1_7 : ByteArray) (a2 : Int) (r : Bool) (w : World) (h : copyholdlaw15_WireCalls.f k a0_0 a0_1 a0_2 a0_3 a0_4 a0_5 a0_6 a0_7 a1_0 a1_1 a1_2 a1_3 a1_4 a1_5 a1_6 a1_7 a2 = some r) :
    Calls Try.prog 3 #[.agg #[.int .i64 a0_0, .int .i64 a0_1, .int .i64 a0_2, .int .i64 a0_3, .int .i64 a0_4, .string a0_5, .string a0_6, .string a0_7], .agg #[.int .i64 a1_0, .int .i64 a1_1, .int .i64 a1_2, .int .i64 a1_3, .int .i64 a1_4, .string a1_5, .string a1_6, .string a1_7], .int .i64 a2] w fun e w' => e = .returned (.bool r) ∧ Below w.heap.size w w' := by
  have hu23 := Try.underlying23
  have HB := Aside0.mk (Below.refl w.heap.size w)
  have H : ((copyholdlaw15_shown.f).bind fun t137 => ((copyholdlaw15_short.f a0_0 a0_1 a0_2 a0_3 a0_4 a0_5 a0_6 a0_7).bind fun t138 => (if t138 = true then ((copyholdlaw15_short.f a1_0 a1_1 a1_2 a1_3 a1_4 a1_5 a1_6 a1_7).bind fun t139 => (copyholdlaw15_WireCalls.j0 k a2 t137 (!t139) a0_0 a0_1 a0_2 a0_3 a0_4 a0_5 a0_6 a0_7 a1_0 a1_1 a1_2 a1_3 a1_4 a1_5 a1_6 a1_7)) else (copyholdlaw15_WireCalls.j0 k a2 t137 true a0_0 a0_1 a0_2 a0_3 a0_4 a0_5 a0_6 a0_7 a1_0 a1_1 a1_2 a1_3 a1_4 a1_5 a1_6 a1_7)))) = some r := h
  clear h
  replace H := Option.bind_eq_some_iff.mp H
  obtain ⟨t137, A40, H⟩ := H
  replace H : ((copyholdlaw15_short.f a0_0 a0_1 a0_2 a0_3 a0_4 a0_5 a0_6 a0_7).bind fun t138 => (if t138 = true then ((copyholdlaw15_short.f a1_0 a1_1 a1_2 a1_3 a1_4 a1_5 a1_6 a1_7).bind fun t139 => (copyholdlaw15_WireCalls.j0 k a2 t137 (!t139) a0_0 a0_1 a0_2 a0_3 a0_4 a0_5 a0_6 a0_7 a1_0 a1_1 a1_2 a1_3 a1_4 a1_5 a1_6 a1_7)) else (copyholdlaw15_WireCalls.j0 k a2 t137 true a0_0 a0_1 a0_2 a0_3 a0_4 a0_5 a0_6 a0_7 a1_0 a1_1 a1_2 a1_3 a1_4 a1_5 a1_6 a1_7))) = some r := H
  have A4 := Aside0.mk A40
  clear A40
  have HC5 := Aside0.mk H
  clear H
  go_enter Try.func3, Try.ntmps3
  go_upto_region 2 with (first | ((with_reducible refine gate_dst (N := 3) rfl ?_); (try (refine gate_guard (by rfl) ?_; dsimp only)); refine box_event ?hg (N := 3) ?hd (cs := #[.int .i64 a0_0, .int .i64 a0_1, .int .i64 a0_2, .int .i64 a0_3, .int .i64 a0_4, .string a0_5, .string a0_6, .string a0_7]) (t := 23) ?hr ?_; (case hd => rfl); (case hg => rfl); (case hr => first | (go_simp; done) | (go_simp; rfl)); intro gb135 hg w6 hbox hb; have n0_ := Aside0.mk (below_step (by repeat (first | (with_reducible first | exact HB.out | apply below_alloc | apply pw_below_drewN | apply below_drew1) | exact HB.out)) hb); have n1_ := Aside0.mk (hbox); have n2_ := Aside0.mk ((by rw [hg]; exact (below_size (by repeat (first | (with_reducible first | exact HB.out | apply below_alloc | apply pw_below_drewN | apply below_drew1) | exact HB.out))) : w.heap.size ≤ gb135)); have n3_ := Aside0.mk ((by rw [hg]; exact (below_size (by repeat (first | (with_reducible first | exact HB.out | apply below_alloc | apply pw_below_drewN | apply below_drew1) | exact HB.out))) : w.heap.size ≤ gb135)); clear HB; have HB := n0_; have BK135 := n1_; have GW135 := n2_; have GE135 := n3_; clear n0_ n1_ n2_ n3_; clear hb hbox hg) | ((with_reducible refine gate_dst (N := 4) rfl ?_); (try (refine gate_guard (by rfl) ?_; dsimp only)); refine box_event ?hg (N := 4) ?hd (cs := #[.int .i64 a1_0, .int .i64 a1_1, .int .i64 a1_2, .int .i64 a1_3, .int .i64 a1_4, .string a1_5, .string a1_6, .string a1_7]) (t := 23) ?hr ?_; (case hd => rfl); (case hg => rfl); (case hr => first | (go_simp; done) | (go_simp; rfl)); intro gb136 hg w7 hbox hb; have n0_ := Aside0.mk (blk_below (g := gb135) (o := .cells #[.int .i64 a0_0, .int .i64 a0_1, .int .i64 a0_2, .int .i64 a0_3, .int .i64 a0_4, .string a0_5, .string a0_6, .string a0_7] 23 (0, 0)) (by (with_reducible repeat (first | refine blk_drewN ?_ _ | refine blk_drew ?_ | refine blk_alloc ?_ _)); exact BK135.out) hb); have n1_ := Aside0.mk (below_step (by repeat (first | (with_reducible first | exact HB.out | apply below_alloc | apply pw_below_drewN | apply below_drew1 | refine below_set ?_ GE135.out) | exact HB.out)) hb); have n2_ := Aside0.mk (hbox); have n3_ := Aside0.mk ((by rw [hg]; exact (below_size (by repeat (first | (with_reducible first | exact HB.out | apply below_alloc | apply pw_below_drewN | apply below_drew1 | refine below_set ?_ GE135.out) | exact HB.out))) : w.heap.size ≤ gb136)); have n4_ := Aside0.mk ((by rw [hg]; exact (below_size (by repeat (first | (with_reducible first | exact HB.out | apply below_alloc | apply pw_below_drewN | apply below_drew1 | refine below_set ?_ GE135.out) | exact HB.out))) : w.heap.size ≤ gb136)); have n5_ := Aside0.mk ((by rw [hg]; exact Nat.ne_of_lt (blk_lt (g := gb135) (o := .cells #[.int .i64 a0_0, .int .i64 a0_1, .int .i64 a0_2, .int .i64 a0_3, .int .i64 a0_4, .string a0_5, .string a0_6, .string a0_7] 23 (0, 0)) (by (with_reducible repeat (first | refine blk_drewN ?_ _ | refine blk_drew ?_ | refine blk_alloc ?_ _)); exact BK135.out)) : gb135 ≠ gb136)); have n6_ := Aside0.mk ((by rw [hg]; exact Nat.ne_of_gt (blk_lt (g := gb135) (o := .cells #[.int .i64 a0_0, .int .i64 a0_1, .int .i64 a0_2, .int .i64 a0_3, .int .i64 a0_4, .string a0_5, .string a0_6, .string a0_7] 23 (0, 0)) (by (with_reducible repeat (first | refine blk_drewN ?_ _ | refine blk_drew ?_ | refine blk_alloc ?_ _)); exact BK135.out)) : gb136 ≠ gb135)); clear BK135; clear HB; have BK135 := n0_; have HB := n1_; have BK136 := n2_; have GW136 := n3_; have GE136 := n4_; have NB135_136 := n5_; have NB136_135 := n6_; clear n0_ n1_ n2_ n3_ n4_ n5_ n6_; clear hb hbox hg) | ((with_reducible refine gate_callee (f := 10) rfl ?_); refine goesL_ (some 18) rfl rfl Try.func10 (by kernel_rfl) rfl #[] rfl (by (try simp only [List.map_toArray, List.map_cons, List.map_nil]); first | done | rfl | (simp only [List.length_drop, List.length_take]; rfl)) ?_; (with_reducible refine (copyholdlaw15_shown.calls  t137 _ A4.out).mono ?_); rintro e w8 ⟨rfl, hb⟩; refine ⟨_, rfl, ?_⟩; have n0_ := Aside0.mk (blk_below (g := gb135) (o := .cells #[.int .i64 a0_0, .int .i64 a0_1, .int .i64 a0_2, .int .i64 a0_3, .int .i64 a0_4, .string a0_5, .string a0_6, .string a0_7] 23 (0, 0)) (by (with_reducible repeat (first | refine blk_drewN ?_ _ | refine blk_drew ?_ | refine blk_alloc ?_ _)); exact BK135.out) hb); have n1_ := Aside0.mk (blk_below (g := gb136) (o := .cells #[.int .i64 a1_0, .int .i64 a1_1, .int .i64 a1_2, .int .i64 a1_3, .int .i64 a1_4, .string a1_5, .string a1_6, .string a1_7] 23 (0, 0)) (by (with_reducible repeat (first | refine blk_drewN ?_ _ | refine blk_drew ?_ | refine blk_alloc ?_ _)); exact BK136.out) hb); have n2_ := Aside0.mk (below_step (by repeat (first | (with_reducible first | exact HB.out | apply below_alloc | apply pw_below_drewN | apply below_drew1 | refine below_set ?_ GE135.out | refine below_set ?_ GE136.out) | exact HB.out)) hb); clear BK135; clear BK136; clear HB; have BK135 := n0_; have BK136 := n1_; have HB := n2_; clear n0_ n1_ n2_; (try clear hb); (try clear hb2); (try clear hk); (try clear hi)))
  (try simp only [Act.put, List.setIfInBounds_toArray, List.set_cons_zero, List.set_cons_succ])
  go_cut [26] (fun v26 wc => ∃ (kq : Nat) (x26_4 : Bool), v26 = .bool x26_4 ∧ Aside0 (copyholdlaw15_WireCalls.j0 kq a2 t137 x26_4 a0_0 a0_1 a0_2 a0_3 a0_4 a0_5 a0_6 a0_7 a1_0 a1_1 a1_2 a1_3 a1_4 a1_5 a1_6 a1_7 = some r) ∧ Aside0 (kq ≤ k) ∧ Aside0 (wc.heap[gb135]? = some (.cells #[.int .i64 a0_0, .int .i64 a0_1, .int .i64 a0_2, .int .i64 a0_3, .int .i64 a0_4, .string a0_5, .string a0_6, .string a0_7] 23 (0, 0))) ∧ Aside0 (wc.heap[gb136]? = some (.cells #[.int .i64 a1_0, .int .i64 a1_1, .int .i64 a1_2, .int .i64 a1_3, .int .i64 a1_4, .string a1_5, .string a1_6, .string a1_7] 23 (0, 0))) ∧ Aside0 (Below w.heap.size w wc))
  case first =>
    have H := HC5.out
    clear HC5
    replace H := Option.bind_eq_some_iff.mp H
    obtain ⟨t138, A90, H⟩ := H
    replace H : (if t138 = true then ((copyholdlaw15_short.f a1_0 a1_1 a1_2 a1_3 a1_4 a1_5 a1_6 a1_7).bind fun t139 => (copyholdlaw15_WireCalls.j0 k a2 t137 (!t139) a0_0 a0_1 a0_2 a0_3 a0_4 a0_5 a0_6 a0_7 a1_0 a1_1 a1_2 a1_3 a1_4 a1_5 a1_6 a1_7)) else (copyholdlaw15_WireCalls.j0 k a2 t137 true a0_0 a0_1 a0_2 a0_3 a0_4 a0_5 a0_6 a0_7 a1_0 a1_1 a1_2 a1_3 a1_4 a1_5 a1_6 a1_7)) = some r := H
    have A9 := Aside0.mk A90
    clear A90
    by_cases c10 : t138 = true
    · subst c10
      have H1 : ((copyholdlaw15_short.f a1_0 a1_1 a1_2 a1_3 a1_4 a1_5 a1_6 a1_7).bind fun t139 => (copyholdlaw15_WireCalls.j0 k a2 t137 (!t139) a0_0 a0_1 a0_2 a0_3 a0_4 a0_5 a0_6 a0_7 a1_0 a1_1 a1_2 a1_3 a1_4 a1_5 a1_6 a1_7)) = some r := by rw [if_pos rfl] at H; exact H
      clear H
      have H := H1
      clear H1
      replace H := Option.bind_eq_some_iff.mp H
      obtain ⟨t139, A110, H⟩ := H
      replace H : (copyholdlaw15_WireCalls.j0 k a2 t137 (!t139) a0_0 a0_1 a0_2 a0_3 a0_4 a0_5 a0_6 a0_7 a1_0 a1_1 a1_2 a1_3 a1_4 a1_5 a1_6 a1_7) = some r := H
      have A11 := Aside0.mk A110
      clear A110
      have H' := Aside0.mk H
      clear H
      have hnb12 := NB135_136.out
      have hnc12 := NB136_135.out
      have hcz13_0 : w8.cell? ⟨gb135, 0, none⟩ = some (.int .i64 a0_0) := (blk_cell BK135.out 0).trans rfl
      have hcz13_1 : w8.cell? ⟨gb135, 1, none⟩ = some (.int .i64 a0_1) := (blk_cell BK135.out 1).trans rfl
      have hcz13_2 : w8.cell? ⟨gb135, 2, none⟩ = some (.int .i64 a0_2) := (blk_cell BK135.out 2).trans rfl
      have hcz13_3 : w8.cell? ⟨gb135, 3, none⟩ = some (.int .i64 a0_3) := (blk_cell BK135.out 3).trans rfl
      have hcz13_4 : w8.cell? ⟨gb135, 4, none⟩ = some (.int .i64 a0_4) := (blk_cell BK135.out 4).trans rfl
      have hcz13_5 : w8.cell? ⟨gb135, 5, none⟩ = some (.string a0_5) := (blk_cell BK135.out 5).trans rfl
      have hcz13_6 : w8.cell? ⟨gb135, 6, none⟩ = some (.string a0_6) := (blk_cell BK135.out 6).trans rfl
      have hcz13_7 : w8.cell? ⟨gb135, 7, none⟩ = some (.string a0_7) := (blk_cell BK135.out 7).trans rfl
      have hfz13_0 := blk_frozen BK135.out 0
      have hfz13_1 := blk_frozen BK135.out 1
      have hfz13_2 := blk_frozen BK135.out 2
      have hfz13_3 := blk_frozen BK135.out 3
      have hfz13_4 := blk_frozen BK135.out 4
      have hfz13_5 := blk_frozen BK135.out 5
      have hfz13_6 := blk_frozen BK135.out 6
      have hfz13_7 := blk_frozen BK135.out 7
      go_wp2_with (first | ((with_reducible refine gate_callee (f := 11) rfl ?_); refine goesL_ (some 20) rfl rfl Try.func11 (by kernel_rfl) rfl #[.agg #[.int .i64 a0_0, .int .i64 a0_1, .int .i64 a0_2, .int .i64 a0_3, .int .i64 a0_4, .string a0_5, .string a0_6, .string a0_7]] rfl (by (try simp only [List.map_toArray, List.map_cons, List.map_nil]); first | done | rfl | (simp only [List.length_drop, List.length_take]; rfl)) ?_; (with_reducible refine (copyholdlaw15_short.calls a0_0 a0_1 a0_2 a0_3 a0_4 a0_5 a0_6 a0_7 true _ A9.out).mono ?_); rintro e w14 ⟨rfl, hb⟩; refine ⟨_, rfl, ?_⟩; have n0_ := Aside0.mk (blk_below (g := gb135) (o := .cells #[.int .i64 a0_0, .int .i64 a0_1, .int .i64 a0_2, .int .i64 a0_3, .int .i64 a0_4, .string a0_5, .string a0_6, .string a0_7] 23 (0, 0)) (by (with_reducible repeat (first | refine blk_drewN ?_ _ | refine blk_drew ?_ | refine blk_alloc ?_ _)); exact BK135.out) hb); have n1_ := Aside0.mk (blk_below (g := gb136) (o := .cells #[.int .i64 a1_0, .int .i64 a1_1, .int .i64 a1_2, .int .i64 a1_3, .int .i64 a1_4, .string a1_5, .string a1_6, .string a1_7] 23 (0, 0)) (by (with_reducible repeat (first | refine blk_drewN ?_ _ | refine blk_drew ?_ | refine blk_alloc ?_ _)); exact BK136.out) hb); have n2_ := Aside0.mk (below_step (by repeat (first | (with_reducible first | exact HB.out | apply below_alloc | apply pw_below_drewN | apply below_drew1 | refine below_set ?_ GE135.out | refine below_set ?_ GE136.out) | exact HB.out)) hb); clear BK135; clear BK136; clear HB; have BK135 := n0_; have BK136 := n1_; have HB := n2_; clear n0_ n1_ n2_; (try clear hb); (try clear hb2); (try clear hk); (try clear hi); have hcz15_0 : w14.cell? ⟨gb136, 0, none⟩ = some (.int .i64 a1_0) := (blk_cell BK136.out 0).trans rfl; have hcz15_1 : w14.cell? ⟨gb136, 1, none⟩ = some (.int .i64 a1_1) := (blk_cell BK136.out 1).trans rfl; have hcz15_2 : w14.cell? ⟨gb136, 2, none⟩ = some (.int .i64 a1_2) := (blk_cell BK136.out 2).trans rfl; have hcz15_3 : w14.cell? ⟨gb136, 3, none⟩ = some (.int .i64 a1_3) := (blk_cell BK136.out 3).trans rfl; have hcz15_4 : w14.cell? ⟨gb136, 4, none⟩ = some (.int .i64 a1_4) := (blk_cell BK136.out 4).trans rfl; have hcz15_5 : w14.cell? ⟨gb136, 5, none⟩ = some (.string a1_5) := (blk_cell BK136.out 5).trans rfl; have hcz15_6 : w14.cell? ⟨gb136, 6, none⟩ = some (.string a1_6) := (blk_cell BK136.out 6).trans rfl; have hcz15_7 : w14.cell? ⟨gb136, 7, none⟩ = some (.string a1_7) := (blk_cell BK136.out 7).trans rfl; have hfz15_0 := blk_frozen BK136.out 0; have hfz15_1 := blk_frozen BK136.out 1; have hfz15_2 := blk_frozen BK136.out 2; have hfz15_3 := blk_frozen BK136.out 3; have hfz15_4 := blk_frozen BK136.out 4; have hfz15_5 := blk_frozen BK136.out 5; have hfz15_6 := blk_frozen BK136.out 6; have hfz15_7 := blk_frozen BK136.out 7) | (go_at_call 11; (with_reducible refine (copyholdlaw15_short.calls a1_0 a1_1 a1_2 a1_3 a1_4 a1_5 a1_6 a1_7 t139 _ A11.out).mono ?_); rintro e w16 ⟨rfl, hb⟩; have n0_ := Aside0.mk (blk_below (g := gb135) (o := .cells #[.int .i64 a0_0, .int .i64 a0_1, .int .i64 a0_2, .int .i64 a0_3, .int .i64 a0_4, .string a0_5, .string a0_6, .string a0_7] 23 (0, 0)) (by (with_reducible repeat (first | refine blk_drewN ?_ _ | refine blk_drew ?_ | refine blk_alloc ?_ _)); exact BK135.out) hb); have n1_ := Aside0.mk (blk_below (g := gb136) (o := .cells #[.int .i64 a1_0, .int .i64 a1_1, .int .i64 a1_2, .int .i64 a1_3, .int .i64 a1_4, .string a1_5, .string a1_6, .string a1_7] 23 (0, 0)) (by (with_reducible repeat (first | refine blk_drewN ?_ _ | refine blk_drew ?_ | refine blk_alloc ?_ _)); exact BK136.out) hb); have n2_ := Aside0.mk (below_step (by repeat (first | (with_reducible first | exact HB.out | apply below_alloc | apply pw_below_drewN | apply below_drew1 | refine below_set ?_ GE135.out | refine below_set ?_ GE136.out) | exact HB.out)) hb); clear BK135; clear BK136; clear HB; have BK135 := n0_; have BK136 := n1_; have HB := n2_; clear n0_ n1_ n2_; (try clear hb); (try clear hb2); (try clear hk); (try clear hi)))
      go_meet
      case rel => exact ⟨_, (!t139), (by first | rfl | (simp; done) | (simp [*]; done)), H', ⟨by first | omega | exact Nat.le_refl _⟩, ⟨by (with_reducible repeat (first | refine blk_drewN ?_ _ | refine blk_drew ?_ | refine blk_alloc ?_ _)); exact BK135.out⟩, ⟨by (with_reducible repeat (first | refine blk_drewN ?_ _ | refine blk_drew ?_ | refine blk_alloc ?_ _)); exact BK136.out⟩, ⟨by repeat (first | (with_reducible first | exact HB.out | apply below_alloc | apply pw_below_drewN | apply below_drew1 | refine below_set ?_ GE135.out | refine below_set ?_ GE136.out) | exact HB.out)⟩⟩
    · replace c10 := Bool.eq_false_iff.mpr c10
      subst c10
      have H1 : (copyholdlaw15_WireCalls.j0 k a2 t137 true a0_0 a0_1 a0_2 a0_3 a0_4 a0_5 a0_6 a0_7 a1_0 a1_1 a1_2 a1_3 a1_4 a1_5 a1_6 a1_7) = some r := by rw [if_neg (show ¬ (false = true) by decide)] at H; exact H
      clear H
      have H := H1
      clear H1
      have H' := Aside0.mk H
      clear H
      have hnb17 := NB135_136.out
      have hnc17 := NB136_135.out
      have hcz18_0 : w8.cell? ⟨gb135, 0, none⟩ = some (.int .i64 a0_0) := (blk_cell BK135.out 0).trans rfl
      have hcz18_1 : w8.cell? ⟨gb135, 1, none⟩ = some (.int .i64 a0_1) := (blk_cell BK135.out 1).trans rfl
      have hcz18_2 : w8.cell? ⟨gb135, 2, none⟩ = some (.int .i64 a0_2) := (blk_cell BK135.out 2).trans rfl
      have hcz18_3 : w8.cell? ⟨gb135, 3, none⟩ = some (.int .i64 a0_3) := (blk_cell BK135.out 3).trans rfl
      have hcz18_4 : w8.cell? ⟨gb135, 4, none⟩ = some (.int .i64 a0_4) := (blk_cell BK135.out 4).trans rfl
      have hcz18_5 : w8.cell? ⟨gb135, 5, none⟩ = some (.string a0_5) := (blk_cell BK135.out 5).trans rfl
      have hcz18_6 : w8.cell? ⟨gb135, 6, none⟩ = some (.string a0_6) := (blk_cell BK135.out 6).trans rfl
      have hcz18_7 : w8.cell? ⟨gb135, 7, none⟩ = some (.string a0_7) := (blk_cell BK135.out 7).trans rfl
      have hfz18_0 := blk_frozen BK135.out 0
      have hfz18_1 := blk_frozen BK135.out 1
      have hfz18_2 := blk_frozen BK135.out 2
      have hfz18_3 := blk_frozen BK135.out 3
      have hfz18_4 := blk_frozen BK135.out 4
      have hfz18_5 := blk_frozen BK135.out 5
      have hfz18_6 := blk_frozen BK135.out 6
      have hfz18_7 := blk_frozen BK135.out 7
      go_wp2_with (first | ((with_reducible refine gate_callee (f := 11) rfl ?_); refine goesL_ (some 20) rfl rfl Try.func11 (by kernel_rfl) rfl #[.agg #[.int .i64 a0_0, .int .i64 a0_1, .int .i64 a0_2, .int .i64 a0_3, .int .i64 a0_4, .string a0_5, .string a0_6, .string a0_7]] rfl (by (try simp only [List.map_toArray, List.map_cons, List.map_nil]); first | done | rfl | (simp only [List.length_drop, List.length_take]; rfl)) ?_; (with_reducible refine (copyholdlaw15_short.calls a0_0 a0_1 a0_2 a0_3 a0_4 a0_5 a0_6 a0_7 false _ A9.out).mono ?_); rintro e w19 ⟨rfl, hb⟩; refine ⟨_, rfl, ?_⟩; have n0_ := Aside0.mk (blk_below (g := gb135) (o := .cells #[.int .i64 a0_0, .int .i64 a0_1, .int .i64 a0_2, .int .i64 a0_3, .int .i64 a0_4, .string a0_5, .string a0_6, .string a0_7] 23 (0, 0)) (by (with_reducible repeat (first | refine blk_drewN ?_ _ | refine blk_drew ?_ | refine blk_alloc ?_ _)); exact BK135.out) hb); have n1_ := Aside0.mk (blk_below (g := gb136) (o := .cells #[.int .i64 a1_0, .int .i64 a1_1, .int .i64 a1_2, .int .i64 a1_3, .int .i64 a1_4, .string a1_5, .string a1_6, .string a1_7] 23 (0, 0)) (by (with_reducible repeat (first | refine blk_drewN ?_ _ | refine blk_drew ?_ | refine blk_alloc ?_ _)); exact BK136.out) hb); have n2_ := Aside0.mk (below_step (by repeat (first | (with_reducible first | exact HB.out | apply below_alloc | apply pw_below_drewN | apply below_drew1 | refine below_set ?_ GE135.out | refine below_set ?_ GE136.out) | exact HB.out)) hb); clear BK135; clear BK136; clear HB; have BK135 := n0_; have BK136 := n1_; have HB := n2_; clear n0_ n1_ n2_; (try clear hb); (try clear hb2); (try clear hk); (try clear hi)))
      go_meet
      case rel => exact ⟨_, (true), (by first | rfl | (simp; done) | (simp [*]; done)), H', ⟨by first | omega | exact Nat.le_refl _⟩, ⟨by (with_reducible repeat (first | refine blk_drewN ?_ _ | refine blk_drew ?_ | refine blk_alloc ?_ _)); exact BK135.out⟩, ⟨by (with_reducible repeat (first | refine blk_drewN ?_ _ | refine blk_drew ?_ | refine blk_alloc ?_ _)); exact BK136.out⟩, ⟨by repeat (first | (with_reducible first | exact HB.out | apply below_alloc | apply pw_below_drewN | apply below_drew1 | refine below_set ?_ GE135.out | refine below_set ?_ GE136.out) | exact HB.out)⟩⟩
  case rest =>
    clear HC5
    try clear c1
    try clear p2
    try clear c3
    try clear c10
    try clear c11
    try clear c12
    try clear c17
    try clear hcz13_0
    try clear hcz13_1
    try clear hcz13_2
    try clear hcz13_3
    try clear hcz13_4
    try clear hcz13_5
    try clear hcz13_6
    try clear hcz13_7
    try clear hcz15_0
    try clear hcz15_1
    try clear hcz15_2
    try clear hcz15_3
    try clear hcz15_4
    try clear hcz15_5
    try clear hcz15_6
    try clear hcz15_7
    try clear hcz18_0
    try clear hcz18_1
    try clear hcz18_2
    try clear hcz18_3
    try clear hcz18_4
    try clear hcz18_5
    try clear hcz18_6
    try clear hcz18_7
    try clear hfz13_0
    try clear hfz13_1
    try clear hfz13_2
    try clear hfz13_3
    try clear hfz13_4
    try clear hfz13_5
    try clear hfz13_6
    try clear hfz13_7
    try clear hfz15_0
    try clear hfz15_1
    try clear hfz15_2
    try clear hfz15_3
    try clear hfz15_4
    try clear hfz15_5
    try clear hfz15_6
    try clear hfz15_7
    try clear hfz18_0
    try clear hfz18_1
    try clear hfz18_2
    try clear hfz18_3
    try clear hfz18_4
    try clear hfz18_5
    try clear hfz18_6
    try clear hfz18_7
    obtain ⟨kq, x26_4, rfl, HA, HJ4, BK135, BK136, HB⟩ := hcut
    cases kq with
    | zero => exact absurd HA.out (by simp [copyholdlaw15_WireCalls.j0])
    | succ kj4 =>
      have H := HA.out
      clear HA
      simp only [copyholdlaw15_WireCalls.j0] at H
      by_cases c20 : x26_4 = true
      · subst c20
        have H1 : (some t137) = some r := by rw [if_pos rfl] at H; exact H
        clear H
        have H := H1
        clear H1
        obtain rfl := Option.some.inj H
        go_wp2
        go_ret
        exact ⟨by first | rfl | (simp [errW_none, errW_some] <;> rfl) | (simp [*, errW_none, errW_some] <;> rfl), by repeat (first | (with_reducible first | exact HB.out | apply below_alloc | apply pw_below_drewN | apply below_drew1 | refine below_set ?_ GE135.out | refine below_set ?_ GE136.out) | exact HB.out)⟩
      · replace c20 := Bool.eq_false_iff.mpr c20
        subst c20
        have H1 : ((wire_Call.f a0_0 a0_1 a0_2 a0_3 a0_4 a0_5 a0_6 a0_7).bind fun t140 => ((wire_Call.f a1_0 a1_1 a1_2 a1_3 a1_4 a1_5 a1_6 a1_7).bind fun t141 => (if t140.size + t141.size ≤ 9223372036854775807 then ((wire_TakeCall.f (t140 ++ t141)).bind fun bt142 => ((wire_TakeCall.f bt142.2.2.2.2.2.2.2.2.1).bind fun bt153 => (if bt142.2.2.2.2.2.2.2.2.2 = 0 then (if bt153.2.2.2.2.2.2.2.2.2 = 0 then (if (!(bt142.1 == a0_0) || (!(bt142.2.1 == a0_1) || (!(bt142.2.2.1 == a0_2) || (!(bt142.2.2.2.1 == a0_3) || (!(bt142.2.2.2.2.1 == a0_4) || (!(bt142.2.2.2.2.2.1.toList == a0_5.toList) || (!(bt142.2.2.2.2.2.2.1.toList == a0_6.toList) || (!(bt142.2.2.2.2.2.2.2.1.toList == a0_7.toList))))))))) = true then (copyholdlaw15_WireCalls.j1 kj4 a2 t137 t140 true) else (if (!(bt153.1 == a1_0) || (!(bt153.2.1 == a1_1) || (!(bt153.2.2.1 == a1_2) || (!(bt153.2.2.2.1 == a1_3) || (!(bt153.2.2.2.2.1 == a1_4) || (!(bt153.2.2.2.2.2.1.toList == a1_5.toList) || (!(bt153.2.2.2.2.2.2.1.toList == a1_6.toList) || (!(bt153.2.2.2.2.2.2.2.1.toList == a1_7.toList))))))))) = true then (copyholdlaw15_WireCalls.j1 kj4 a2 t137 t140 true) else (copyholdlaw15_WireCalls.j1 kj4 a2 t137 t140 (bt153.2.2.2.2.2.2.2.2.1.toList != ([] : List UInt8))))) else (copyholdlaw15_WireCalls.j1 kj4 a2 t137 t140 true)) else (copyholdlaw15_WireCalls.j1 kj4 a2 t137 t140 true)))) else (none)))) = some r := by rw [if_neg (show ¬ (false = true) by decide)] at H; exact H
        clear H
        have H := H1
        clear H1
        replace H := Option.bind_eq_some_iff.mp H
        obtain ⟨t140, A210, H⟩ := H
        replace H : ((wire_Call.f a1_0 a1_1 a1_2 a1_3 a1_4 a1_5 a1_6 a1_7).bind fun t141 => (if t140.size + t141.size ≤ 9223372036854775807 then ((wire_TakeCall.f (t140 ++ t141)).bind fun bt142 => ((wire_TakeCall.f bt142.2.2.2.2.2.2.2.2.1).bind fun bt153 => (if bt142.2.2.2.2.2.2.2.2.2 = 0 then (if bt153.2.2.2.2.2.2.2.2.2 = 0 then (if (!(bt142.1 == a0_0) || (!(bt142.2.1 == a0_1) || (!(bt142.2.2.1 == a0_2) || (!(bt142.2.2.2.1 == a0_3) || (!(bt142.2.2.2.2.1 == a0_4) || (!(bt142.2.2.2.2.2.1.toList == a0_5.toList) || (!(bt142.2.2.2.2.2.2.1.toList == a0_6.toList) || (!(bt142.2.2.2.2.2.2.2.1.toList == a0_7.toList))))))))) = true then (copyholdlaw15_WireCalls.j1 kj4 a2 t137 t140 true) else (if (!(bt153.1 == a1_0) || (!(bt153.2.1 == a1_1) || (!(bt153.2.2.1 == a1_2) || (!(bt153.2.2.2.1 == a1_3) || (!(bt153.2.2.2.2.1 == a1_4) || (!(bt153.2.2.2.2.2.1.toList == a1_5.toList) || (!(bt153.2.2.2.2.2.2.1.toList == a1_6.toList) || (!(bt153.2.2.2.2.2.2.2.1.toList == a1_7.toList))))))))) = true then (copyholdlaw15_WireCalls.j1 kj4 a2 t137 t140 true) else (copyholdlaw15_WireCalls.j1 kj4 a2 t137 t140 (bt153.2.2.2.2.2.2.2.2.1.toList != ([] : List UInt8))))) else (copyholdlaw15_WireCalls.j1 kj4 a2 t137 t140 true)) else (copyholdlaw15_WireCalls.j1 kj4 a2 t137 t140 true)))) else (none))) = some r := H
        have A21 := Aside0.mk A210
        clear A210
        replace H := Option.bind_eq_some_iff.mp H
        obtain ⟨t141, A220, H⟩ := H
        replace H : (if t140.size + t141.size ≤ 9223372036854775807 then ((wire_TakeCall.f (t140 ++ t141)).bind fun bt142 => ((wire_TakeCall.f bt142.2.2.2.2.2.2.2.2.1).bind fun bt153 => (if bt142.2.2.2.2.2.2.2.2.2 = 0 then (if bt153.2.2.2.2.2.2.2.2.2 = 0 then (if (!(bt142.1 == a0_0) || (!(bt142.2.1 == a0_1) || (!(bt142.2.2.1 == a0_2) || (!(bt142.2.2.2.1 == a0_3) || (!(bt142.2.2.2.2.1 == a0_4) || (!(bt142.2.2.2.2.2.1.toList == a0_5.toList) || (!(bt142.2.2.2.2.2.2.1.toList == a0_6.toList) || (!(bt142.2.2.2.2.2.2.2.1.toList == a0_7.toList))))))))) = true then (copyholdlaw15_WireCalls.j1 kj4 a2 t137 t140 true) else (if (!(bt153.1 == a1_0) || (!(bt153.2.1 == a1_1) || (!(bt153.2.2.1 == a1_2) || (!(bt153.2.2.2.1 == a1_3) || (!(bt153.2.2.2.2.1 == a1_4) || (!(bt153.2.2.2.2.2.1.toList == a1_5.toList) || (!(bt153.2.2.2.2.2.2.1.toList == a1_6.toList) || (!(bt153.2.2.2.2.2.2.2.1.toList == a1_7.toList))))))))) = true then (copyholdlaw15_WireCalls.j1 kj4 a2 t137 t140 true) else (copyholdlaw15_WireCalls.j1 kj4 a2 t137 t140 (bt153.2.2.2.2.2.2.2.2.1.toList != ([] : List UInt8))))) else (copyholdlaw15_WireCalls.j1 kj4 a2 t137 t140 true)) else (copyholdlaw15_WireCalls.j1 kj4 a2 t137 t140 true)))) else (none)) = some r := H
        have A22 := Aside0.mk A220
        clear A220
        by_cases c23 : t140.size + t141.size ≤ 9223372036854775807
        · rw [if_pos c23] at H
          have c23b0 := eq_true c23
          have c23b1 : decide (t140.size + t141.size ≤ 9223372036854775807) = true := decide_eq_true c23
          try have c23b2 : (9223372036854775807 < t140.size + t141.size) = False := eq_false (Nat.not_lt.2 c23)
          replace H := Option.bind_eq_some_iff.mp H
          obtain ⟨⟨t142, t143, t144, t145, t146, t147, t148, t149, t150, t151⟩, A240, H⟩ := H
          replace H : ((wire_TakeCall.f t150).bind fun bt153 => (if t151 = 0 then (if bt153.2.2.2.2.2.2.2.2.2 = 0 then (if (!(t142 == a0_0) || (!(t143 == a0_1) || (!(t144 == a0_2) || (!(t145 == a0_3) || (!(t146 == a0_4) || (!(t147.toList == a0_5.toList) || (!(t148.toList == a0_6.toList) || (!(t149.toList == a0_7.toList))))))))) = true then (copyholdlaw15_WireCalls.j1 kj4 a2 t137 t140 true) else (if (!(bt153.1 == a1_0) || (!(bt153.2.1 == a1_1) || (!(bt153.2.2.1 == a1_2) || (!(bt153.2.2.2.1 == a1_3) || (!(bt153.2.2.2.2.1 == a1_4) || (!(bt153.2.2.2.2.2.1.toList == a1_5.toList) || (!(bt153.2.2.2.2.2.2.1.toList == a1_6.toList) || (!(bt153.2.2.2.2.2.2.2.1.toList == a1_7.toList))))))))) = true then (copyholdlaw15_WireCalls.j1 kj4 a2 t137 t140 true) else (copyholdlaw15_WireCalls.j1 kj4 a2 t137 t140 (bt153.2.2.2.2.2.2.2.2.1.toList != ([] : List UInt8))))) else (copyholdlaw15_WireCalls.j1 kj4 a2 t137 t140 true)) else (copyholdlaw15_WireCalls.j1 kj4 a2 t137 t140 true))) = some r := H
          have A24 := Aside0.mk A240
          clear A240
          replace H := Option.bind_eq_some_iff.mp H
          obtain ⟨⟨t153, t154, t155, t156, t157, t158, t159, t160, t161, t162⟩, A250, H⟩ := H
          replace H : (if t151 = 0 then (if t162 = 0 then (if (!(t142 == a0_0) || (!(t143 == a0_1) || (!(t144 == a0_2) || (!(t145 == a0_3) || (!(t146 == a0_4) || (!(t147.toList == a0_5.toList) || (!(t148.toList == a0_6.toList) || (!(t149.toList == a0_7.toList))))))))) = true then (copyholdlaw15_WireCalls.j1 kj4 a2 t137 t140 true) else (if (!(t153 == a1_0) || (!(t154 == a1_1) || (!(t155 == a1_2) || (!(t156 == a1_3) || (!(t157 == a1_4) || (!(t158.toList == a1_5.toList) || (!(t159.toList == a1_6.toList) || (!(t160.toList == a1_7.toList))))))))) = true then (copyholdlaw15_WireCalls.j1 kj4 a2 t137 t140 true) else (copyholdlaw15_WireCalls.j1 kj4 a2 t137 t140 (t161.toList != ([] : List UInt8))))) else (copyholdlaw15_WireCalls.j1 kj4 a2 t137 t140 true)) else (copyholdlaw15_WireCalls.j1 kj4 a2 t137 t140 true)) = some r := H
          have A25 := Aside0.mk A250
          clear A250
          have HC26 := Aside0.mk H
          clear H
          have hnb27 := NB135_136.out
          have hnc27 := NB136_135.out
          have hcz28_0 : wc.cell? ⟨gb135, 0, none⟩ = some (.int .i64 a0_0) := (blk_cell BK135.out 0).trans rfl
          have hcz28_1 : wc.cell? ⟨gb135, 1, none⟩ = some (.int .i64 a0_1) := (blk_cell BK135.out 1).trans rfl
          have hcz28_2 : wc.cell? ⟨gb135, 2, none⟩ = some (.int .i64 a0_2) := (blk_cell BK135.out 2).trans rfl
          have hcz28_3 : wc.cell? ⟨gb135, 3, none⟩ = some (.int .i64 a0_3) := (blk_cell BK135.out 3).trans rfl
          have hcz28_4 : wc.cell? ⟨gb135, 4, none⟩ = some (.int .i64 a0_4) := (blk_cell BK135.out 4).trans rfl
          have hcz28_5 : wc.cell? ⟨gb135, 5, none⟩ = some (.string a0_5) := (blk_cell BK135.out 5).trans rfl
          have hcz28_6 : wc.cell? ⟨gb135, 6, none⟩ = some (.string a0_6) := (blk_cell BK135.out 6).trans rfl
          have hcz28_7 : wc.cell? ⟨gb135, 7, none⟩ = some (.string a0_7) := (blk_cell BK135.out 7).trans rfl
          have hfz28_0 := blk_frozen BK135.out 0
          have hfz28_1 := blk_frozen BK135.out 1
          have hfz28_2 := blk_frozen BK135.out 2
          have hfz28_3 := blk_frozen BK135.out 3
          have hfz28_4 := blk_frozen BK135.out 4
          have hfz28_5 := blk_frozen BK135.out 5
          have hfz28_6 := blk_frozen BK135.out 6
          have hfz28_7 := blk_frozen BK135.out 7
          go_upto_region 7 with (first | ((with_reducible refine gate_callee (f := 12) rfl ?_); refine goesL_ (some 29) rfl rfl Try.func12 (by kernel_rfl) rfl #[.agg #[.int .i64 a0_0, .int .i64 a0_1, .int .i64 a0_2, .int .i64 a0_3, .int .i64 a0_4, .string a0_5, .string a0_6, .string a0_7]] rfl (by (try simp only [List.map_toArray, List.map_cons, List.map_nil]); first | done | rfl | (simp only [List.length_drop, List.length_take]; rfl)) ?_; (with_reducible refine (wire_Call.calls a0_0 a0_1 a0_2 a0_3 a0_4 a0_5 a0_6 a0_7 t140 _ A21.out).mono ?_); rintro e w29 ⟨rfl, hb⟩; refine ⟨_, rfl, ?_⟩; have n0_ := Aside0.mk (blk_below (g := gb135) (o := .cells #[.int .i64 a0_0, .int .i64 a0_1, .int .i64 a0_2, .int .i64 a0_3, .int .i64 a0_4, .string a0_5, .string a0_6, .string a0_7] 23 (0, 0)) (by (with_reducible repeat (first | refine blk_drewN ?_ _ | refine blk_drew ?_ | refine blk_alloc ?_ _)); exact BK135.out) hb); have n1_ := Aside0.mk (blk_below (g := gb136) (o := .cells #[.int .i64 a1_0, .int .i64 a1_1, .int .i64 a1_2, .int .i64 a1_3, .int .i64 a1_4, .string a1_5, .string a1_6, .string a1_7] 23 (0, 0)) (by (with_reducible repeat (first | refine blk_drewN ?_ _ | refine blk_drew ?_ | refine blk_alloc ?_ _)); exact BK136.out) hb); have n2_ := Aside0.mk (below_step (by repeat (first | (with_reducible first | exact HB.out | apply below_alloc | apply pw_below_drewN | apply below_drew1 | refine below_set ?_ GE135.out | refine below_set ?_ GE136.out) | exact HB.out)) hb); clear BK135; clear BK136; clear HB; have BK135 := n0_; have BK136 := n1_; have HB := n2_; clear n0_ n1_ n2_; (try clear hb); (try clear hb2); (try clear hk); (try clear hi); have hcz30_0 : w29.cell? ⟨gb136, 0, none⟩ = some (.int .i64 a1_0) := (blk_cell BK136.out 0).trans rfl; have hcz30_1 : w29.cell? ⟨gb136, 1, none⟩ = some (.int .i64 a1_1) := (blk_cell BK136.out 1).trans rfl; have hcz30_2 : w29.cell? ⟨gb136, 2, none⟩ = some (.int .i64 a1_2) := (blk_cell BK136.out 2).trans rfl; have hcz30_3 : w29.cell? ⟨gb136, 3, none⟩ = some (.int .i64 a1_3) := (blk_cell BK136.out 3).trans rfl; have hcz30_4 : w29.cell? ⟨gb136, 4, none⟩ = some (.int .i64 a1_4) := (blk_cell BK136.out 4).trans rfl; have hcz30_5 : w29.cell? ⟨gb136, 5, none⟩ = some (.string a1_5) := (blk_cell BK136.out 5).trans rfl; have hcz30_6 : w29.cell? ⟨gb136, 6, none⟩ = some (.string a1_6) := (blk_cell BK136.out 6).trans rfl; have hcz30_7 : w29.cell? ⟨gb136, 7, none⟩ = some (.string a1_7) := (blk_cell BK136.out 7).trans rfl; have hfz30_0 := blk_frozen BK136.out 0; have hfz30_1 := blk_frozen BK136.out 1; have hfz30_2 := blk_frozen BK136.out 2; have hfz30_3 := blk_frozen BK136.out 3; have hfz30_4 := blk_frozen BK136.out 4; have hfz30_5 := blk_frozen BK136.out 5; have hfz30_6 := blk_frozen BK136.out 6; have hfz30_7 := blk_frozen BK136.out 7) | ((with_reducible refine gate_callee (f := 12) rfl ?_); refine goesL_ (some 33) rfl rfl Try.func12 (by kernel_rfl) rfl #[.agg #[.int .i64 a1_0, .int .i64 a1_1, .int .i64 a1_2, .int .i64 a1_3, .int .i64 a1_4, .string a1_5, .string a1_6, .string a1_7]] rfl (by (try simp only [List.map_toArray, List.map_cons, List.map_nil]); first | done | rfl | (simp only [List.length_drop, List.length_take]; rfl)) ?_; (with_reducible refine (wire_Call.calls a1_0 a1_1 a1_2 a1_3 a1_4 a1_5 a1_6 a1_7 t141 _ A22.out).mono ?_); rintro e w31 ⟨rfl, hb⟩; refine ⟨_, rfl, ?_⟩; have n0_ := Aside0.mk (blk_below (g := gb135) (o := .cells #[.int .i64 a0_0, .int .i64 a0_1, .int .i64 a0_2, .int .i64 a0_3, .int .i64 a0_4, .string a0_5, .string a0_6, .string a0_7] 23 (0, 0)) (by (with_reducible repeat (first | refine blk_drewN ?_ _ | refine blk_drew ?_ | refine blk_alloc ?_ _)); exact BK135.out) hb); have n1_ := Aside0.mk (blk_below (g := gb136) (o := .cells #[.int .i64 a1_0, .int .i64 a1_1, .int .i64 a1_2, .int .i64 a1_3, .int .i64 a1_4, .string a1_5, .string a1_6, .string a1_7] 23 (0, 0)) (by (with_reducible repeat (first | refine blk_drewN ?_ _ | refine blk_drew ?_ | refine blk_alloc ?_ _)); exact BK136.out) hb); have n2_ := Aside0.mk (below_step (by repeat (first | (with_reducible first | exact HB.out | apply below_alloc | apply pw_below_drewN | apply below_drew1 | refine below_set ?_ GE135.out | refine below_set ?_ GE136.out) | exact HB.out)) hb); clear BK135; clear BK136; clear HB; have BK135 := n0_; have BK136 := n1_; have HB := n2_; clear n0_ n1_ n2_; (try clear hb); (try clear hb2); (try clear hk); (try clear hi)) | ((with_reducible refine gate_callee (f := 13) rfl ?_); refine goesL_ (some 35) rfl rfl Try.func13 (by kernel_rfl) rfl #[.string (t140 ++ t141)] rfl (by (try simp only [List.map_toArray, List.map_cons, List.map_nil]); first | done | rfl | (simp only [List.length_drop, List.length_take]; rfl)) ?_; (with_reducible refine (wire_TakeCall.calls (t140 ++ t141) t142 t143 t144 t145 t146 t147 t148 t149 t150 t151 _ A24.out).mono ?_); rintro e w32 ⟨rfl, hb⟩; refine ⟨_, rfl, ?_⟩; have n0_ := Aside0.mk (blk_below (g := gb135) (o := .cells #[.int .i64 a0_0, .int .i64 a0_1, .int .i64 a0_2, .int .i64 a0_3, .int .i64 a0_4, .string a0_5, .string a0_6, .string a0_7] 23 (0, 0)) (by (with_reducible repeat (first | refine blk_drewN ?_ _ | refine blk_drew ?_ | refine blk_alloc ?_ _)); exact BK135.out) hb); have n1_ := Aside0.mk (blk_below (g := gb136) (o := .cells #[.int .i64 a1_0, .int .i64 a1_1, .int .i64 a1_2, .int .i64 a1_3, .int .i64 a1_4, .string a1_5, .string a1_6, .string a1_7] 23 (0, 0)) (by (with_reducible repeat (first | refine blk_drewN ?_ _ | refine blk_drew ?_ | refine blk_alloc ?_ _)); exact BK136.out) hb); have n2_ := Aside0.mk (below_step (by repeat (first | (with_reducible first | exact HB.out | apply below_alloc | apply pw_below_drewN | apply below_drew1 | refine below_set ?_ GE135.out | refine below_set ?_ GE136.out) | exact HB.out)) hb); clear BK135; clear BK136; clear HB; have BK135 := n0_; have BK136 := n1_; have HB := n2_; clear n0_ n1_ n2_; (try clear hb); (try clear hb2); (try clear hk); (try clear hi)) | ((with_reducible refine gate_dst (N := 9) rfl ?_); (try (refine gate_guard (by rfl) ?_; dsimp only)); refine box_event ?hg (N := 9) ?hd (cs := #[.int .i64 0, .int .i64 0, .int .i64 0, .int .i64 0, .int .i64 0, .string (⟨#[]⟩ : ByteArray), .string (⟨#[]⟩ : ByteArray), .string (⟨#[]⟩ : ByteArray)]) (t := 23) ?hr ?_; (case hd => rfl); (case hg => rfl); (case hr => first | (go_simp; done) | (go_simp; rfl)); intro gb152 hg w33 hbox hb; have n0_ := Aside0.mk (blk_below (g := gb135) (o := .cells #[.int .i64 a0_0, .int .i64 a0_1, .int .i64 a0_2, .int .i64 a0_3, .int .i64 a0_4, .string a0_5, .string a0_6, .string a0_7] 23 (0, 0)) (by (with_reducible repeat (first | refine blk_drewN ?_ _ | refine blk_drew ?_ | refine blk_alloc ?_ _)); exact BK135.out) hb); have n1_ := Aside0.mk (blk_below (g := gb136) (o := .cells #[.int .i64 a1_0, .int .i64 a1_1, .int .i64 a1_2, .int .i64 a1_3, .int .i64 a1_4, .string a1_5, .string a1_6, .string a1_7] 23 (0, 0)) (by (with_reducible repeat (first | refine blk_drewN ?_ _ | refine blk_drew ?_ | refine blk_alloc ?_ _)); exact BK136.out) hb); have n2_ := Aside0.mk (below_step (by repeat (first | (with_reducible first | exact HB.out | apply below_alloc | apply pw_below_drewN | apply below_drew1 | refine below_set ?_ GE135.out | refine below_set ?_ GE136.out) | exact HB.out)) hb); have n3_ := Aside0.mk (hbox); have n4_ := Aside0.mk ((by rw [hg]; exact (below_size (by repeat (first | (with_reducible first | exact HB.out | apply below_alloc | apply pw_below_drewN | apply below_drew1 | refine below_set ?_ GE135.out | refine below_set ?_ GE136.out) | exact HB.out))) : w.heap.size ≤ gb152)); have n5_ := Aside0.mk ((by rw [hg]; exact (below_size (by repeat (first | (with_reducible first | exact HB.out | apply below_alloc | apply pw_below_drewN | apply below_drew1 | refine below_set ?_ GE135.out | refine below_set ?_ GE136.out) | exact HB.out))) : w.heap.size ≤ gb152)); have n6_ := Aside0.mk ((by rw [hg]; exact Nat.ne_of_lt (blk_lt (g := gb135) (o := .cells #[.int .i64 a0_0, .int .i64 a0_1, .int .i64 a0_2, .int .i64 a0_3, .int .i64 a0_4, .string a0_5, .string a0_6, .string a0_7] 23 (0, 0)) (by (with_reducible repeat (first | refine blk_drewN ?_ _ | refine blk_drew ?_ | refine blk_alloc ?_ _)); exact BK135.out)) : gb135 ≠ gb152)); have n7_ := Aside0.mk ((by rw [hg]; exact Nat.ne_of_gt (blk_lt (g := gb135) (o := .cells #[.int .i64 a0_0, .int .i64 a0_1, .int .i64 a0_2, .int .i64 a0_3, .int .i64 a0_4, .string a0_5, .string a0_6, .string a0_7] 23 (0, 0)) (by (with_reducible repeat (first | refine blk_drewN ?_ _ | refine blk_drew ?_ | refine blk_alloc ?_ _)); exact BK135.out)) : gb152 ≠ gb135)); have n8_ := Aside0.mk ((by rw [hg]; exact Nat.ne_of_lt (blk_lt (g := gb136) (o := .cells #[.int .i64 a1_0, .int .i64 a1_1, .int .i64 a1_2, .int .i64 a1_3, .int .i64 a1_4, .string a1_5, .string a1_6, .string a1_7] 23 (0, 0)) (by (with_reducible repeat (first | refine blk_drewN ?_ _ | refine blk_drew ?_ | refine blk_alloc ?_ _)); exact BK136.out)) : gb136 ≠ gb152)); have n9_ := Aside0.mk ((by rw [hg]; exact Nat.ne_of_gt (blk_lt (g := gb136) (o := .cells #[.int .i64 a1_0, .int .i64 a1_1, .int .i64 a1_2, .int .i64 a1_3, .int .i64 a1_4, .string a1_5, .string a1_6, .string a1_7] 23 (0, 0)) (by (with_reducible repeat (first | refine blk_drewN ?_ _ | refine blk_drew ?_ | refine blk_alloc ?_ _)); exact BK136.out)) : gb152 ≠ gb136)); clear BK135; clear BK136; clear HB; have BK135 := n0_; have BK136 := n1_; have HB := n2_; have BK152 := n3_; have GW152 := n4_; have GE152 := n5_; have NB135_152 := n6_; have NB152_135 := n7_; have NB136_152 := n8_; have NB152_136 := n9_; clear n0_ n1_ n2_ n3_ n4_ n5_ n6_ n7_ n8_ n9_; clear hb hbox hg; have hnb34 := NB152_135.out; have hnc34 := NB135_152.out; have hnb35 := NB152_136.out; have hnc35 := NB136_152.out; have hcz36_0 : w33.cell? ⟨gb152, 0, none⟩ = some (.int .i64 0) := (blk_cell BK152.out 0).trans rfl; have hcz36_1 : w33.cell? ⟨gb152, 1, none⟩ = some (.int .i64 0) := (blk_cell BK152.out 1).trans rfl; have hcz36_2 : w33.cell? ⟨gb152, 2, none⟩ = some (.int .i64 0) := (blk_cell BK152.out 2).trans rfl; have hcz36_3 : w33.cell? ⟨gb152, 3, none⟩ = some (.int .i64 0) := (blk_cell BK152.out 3).trans rfl; have hcz36_4 : w33.cell? ⟨gb152, 4, none⟩ = some (.int .i64 0) := (blk_cell BK152.out 4).trans rfl; have hcz36_5 : w33.cell? ⟨gb152, 5, none⟩ = some (.string (⟨#[]⟩ : ByteArray)) := (blk_cell BK152.out 5).trans rfl; have hcz36_6 : w33.cell? ⟨gb152, 6, none⟩ = some (.string (⟨#[]⟩ : ByteArray)) := (blk_cell BK152.out 6).trans rfl; have hcz36_7 : w33.cell? ⟨gb152, 7, none⟩ = some (.string (⟨#[]⟩ : ByteArray)) := (blk_cell BK152.out 7).trans rfl; have hfz36_0 := blk_frozen BK152.out 0; have hfz36_1 := blk_frozen BK152.out 1; have hfz36_2 := blk_frozen BK152.out 2; have hfz36_3 := blk_frozen BK152.out 3; have hfz36_4 := blk_frozen BK152.out 4; have hfz36_5 := blk_frozen BK152.out 5; have hfz36_6 := blk_frozen BK152.out 6; have hfz36_7 := blk_frozen BK152.out 7) | ((with_reducible refine gate_callee (f := 13) rfl ?_); refine goesL_ (some 41) rfl rfl Try.func13 (by kernel_rfl) rfl #[.string t150] rfl (by (try simp only [List.map_toArray, List.map_cons, List.map_nil]); first | done | rfl | (simp only [List.length_drop, List.length_take]; rfl)) ?_; (with_reducible refine (wire_TakeCall.calls t150 t153 t154 t155 t156 t157 t158 t159 t160 t161 t162 _ A25.out).mono ?_); rintro e w37 ⟨rfl, hb⟩; refine ⟨_, rfl, ?_⟩; have n0_ := Aside0.mk (blk_below (g := gb135) (o := .cells #[.int .i64 a0_0, .int .i64 a0_1, .int .i64 a0_2, .int .i64 a0_3, .int .i64 a0_4, .string a0_5, .string a0_6, .string a0_7] 23 (0, 0)) (by (with_reducible repeat (first | refine blk_drewN ?_ _ | refine blk_drew ?_ | refine blk_alloc ?_ _)); refine blk_far ?_ NB135_152.out _; (with_reducible repeat (first | refine blk_drewN ?_ _ | refine blk_drew ?_ | refine blk_alloc ?_ _)); refine blk_far ?_ NB135_152.out _; (with_reducible repeat (first | refine blk_drewN ?_ _ | refine blk_drew ?_ | refine blk_alloc ?_ _)); refine blk_far ?_ NB135_152.out _; (with_reducible repeat (first | refine blk_drewN ?_ _ | refine blk_drew ?_ | refine blk_alloc ?_ _)); refine blk_far ?_ NB135_152.out _; (with_reducible repeat (first | refine blk_drewN ?_ _ | refine blk_drew ?_ | refine blk_alloc ?_ _)); refine blk_far ?_ NB135_152.out _; (with_reducible repeat (first | refine blk_drewN ?_ _ | refine blk_drew ?_ | refine blk_alloc ?_ _)); refine blk_far ?_ NB135_152.out _; (with_reducible repeat (first | refine blk_drewN ?_ _ | refine blk_drew ?_ | refine blk_alloc ?_ _)); refine blk_far ?_ NB135_152.out _; (with_reducible repeat (first | refine blk_drewN ?_ _ | refine blk_drew ?_ | refine blk_alloc ?_ _)); refine blk_far ?_ NB135_152.out _; (with_reducible repeat (first | refine blk_drewN ?_ _ | refine blk_drew ?_ | refine blk_alloc ?_ _)); exact BK135.out) hb); have n1_ := Aside0.mk (blk_below (g := gb136) (o := .cells #[.int .i64 a1_0, .int .i64 a1_1, .int .i64 a1_2, .int .i64 a1_3, .int .i64 a1_4, .string a1_5, .string a1_6, .string a1_7] 23 (0, 0)) (by (with_reducible repeat (first | refine blk_drewN ?_ _ | refine blk_drew ?_ | refine blk_alloc ?_ _)); refine blk_far ?_ NB136_152.out _; (with_reducible repeat (first | refine blk_drewN ?_ _ | refine blk_drew ?_ | refine blk_alloc ?_ _)); refine blk_far ?_ NB136_152.out _; (with_reducible repeat (first | refine blk_drewN ?_ _ | refine blk_drew ?_ | refine blk_alloc ?_ _)); refine blk_far ?_ NB136_152.out _; (with_reducible repeat (first | refine blk_drewN ?_ _ | refine blk_drew ?_ | refine blk_alloc ?_ _)); refine blk_far ?_ NB136_152.out _; (with_reducible repeat (first | refine blk_drewN ?_ _ | refine blk_drew ?_ | refine blk_alloc ?_ _)); refine blk_far ?_ NB136_152.out _; (with_reducible repeat (first | refine blk_drewN ?_ _ | refine blk_drew ?_ | refine blk_alloc ?_ _)); refine blk_far ?_ NB136_152.out _; (with_reducible repeat (first | refine blk_drewN ?_ _ | refine blk_drew ?_ | refine blk_alloc ?_ _)); refine blk_far ?_ NB136_152.out _; (with_reducible repeat (first | refine blk_drewN ?_ _ | refine blk_drew ?_ | refine blk_alloc ?_ _)); refine blk_far ?_ NB136_152.out _; (with_reducible repeat (first | refine blk_drewN ?_ _ | refine blk_drew ?_ | refine blk_alloc ?_ _)); exact BK136.out) hb); have n2_ := Aside0.mk (blk_below (g := gb152) (o := .cells #[.int .i64 t142, .int .i64 t143, .int .i64 t144, .int .i64 t145, .int .i64 t146, .string t147, .string t148, .string t149] 23 (0, 0)) (by (with_reducible repeat (first | refine blk_drewN ?_ _ | refine blk_drew ?_ | refine blk_alloc ?_ _)); refine blk_put (cs := #[.int .i64 t142, .int .i64 t143, .int .i64 t144, .int .i64 t145, .int .i64 t146, .string t147, .string t148, .string (⟨#[]⟩ : ByteArray)]) ?_ 7 _ rfl; (with_reducible repeat (first | refine blk_drewN ?_ _ | refine blk_drew ?_ | refine blk_alloc ?_ _)); refine blk_put (cs := #[.int .i64 t142, .int .i64 t143, .int .i64 t144, .int .i64 t145, .int .i64 t146, .string t147, .string (⟨#[]⟩ : ByteArray), .string (⟨#[]⟩ : ByteArray)]) ?_ 6 _ rfl; (with_reducible repeat (first | refine blk_drewN ?_ _ | refine blk_drew ?_ | refine blk_alloc ?_ _)); refine blk_put (cs := #[.int .i64 t142, .int .i64 t143, .int .i64 t144, .int .i64 t145, .int .i64 t146, .string (⟨#[]⟩ : ByteArray), .string (⟨#[]⟩ : ByteArray), .string (⟨#[]⟩ : ByteArray)]) ?_ 5 _ rfl; (with_reducible repeat (first | refine blk_drewN ?_ _ | refine blk_drew ?_ | refine blk_alloc ?_ _)); refine blk_put (cs := #[.int .i64 t142, .int .i64 t143, .int .i64 t144, .int .i64 t145, .int .i64 0, .string (⟨#[]⟩ : ByteArray), .string (⟨#[]⟩ : ByteArray), .string (⟨#[]⟩ : ByteArray)]) ?_ 4 _ rfl; (with_reducible repeat (first | refine blk_drewN ?_ _ | refine blk_drew ?_ | refine blk_alloc ?_ _)); refine blk_put (cs := #[.int .i64 t142, .int .i64 t143, .int .i64 t144, .int .i64 0, .int .i64 0, .string (⟨#[]⟩ : ByteArray), .string (⟨#[]⟩ : ByteArray), .string (⟨#[]⟩ : ByteArray)]) ?_ 3 _ rfl; (with_reducible repeat (first | refine blk_drewN ?_ _ | refine blk_drew ?_ | refine blk_alloc ?_ _)); refine blk_put (cs := #[.int .i64 t142, .int .i64 t143, .int .i64 0, .int .i64 0, .int .i64 0, .string (⟨#[]⟩ : ByteArray), .string (⟨#[]⟩ : ByteArray), .string (⟨#[]⟩ : ByteArray)]) ?_ 2 _ rfl; (with_reducible repeat (first | refine blk_drewN ?_ _ | refine blk_drew ?_ | refine blk_alloc ?_ _)); refine blk_put (cs := #[.int .i64 t142, .int .i64 0, .int .i64 0, .int .i64 0, .int .i64 0, .string (⟨#[]⟩ : ByteArray), .string (⟨#[]⟩ : ByteArray), .string (⟨#[]⟩ : ByteArray)]) ?_ 1 _ rfl; (with_reducible repeat (first | refine blk_drewN ?_ _ | refine blk_drew ?_ | refine blk_alloc ?_ _)); refine blk_put (cs := #[.int .i64 0, .int .i64 0, .int .i64 0, .int .i64 0, .int .i64 0, .string (⟨#[]⟩ : ByteArray), .string (⟨#[]⟩ : ByteArray), .string (⟨#[]⟩ : ByteArray)]) ?_ 0 _ rfl; (with_reducible repeat (first | refine blk_drewN ?_ _ | refine blk_drew ?_ | refine blk_alloc ?_ _)); exact BK152.out) hb); have n3_ := Aside0.mk (below_step (by repeat (first | (with_reducible first | exact HB.out | apply below_alloc | apply pw_below_drewN | apply below_drew1 | refine below_set ?_ GE135.out | refine below_set ?_ GE136.out | refine below_set ?_ GE152.out) | exact HB.out)) hb); clear BK135; clear BK136; clear BK152; clear HB; have BK135 := n0_; have BK136 := n1_; have BK152 := n2_; have HB := n3_; clear n0_ n1_ n2_ n3_; (try clear hb); (try clear hb2); (try clear hk); (try clear hi)) | ((with_reducible refine gate_dst (N := 12) rfl ?_); (try (refine gate_guard (by rfl) ?_; dsimp only)); refine box_event ?hg (N := 12) ?hd (cs := #[.int .i64 0, .int .i64 0, .int .i64 0, .int .i64 0, .int .i64 0, .string (⟨#[]⟩ : ByteArray), .string (⟨#[]⟩ : ByteArray), .string (⟨#[]⟩ : ByteArray)]) (t := 23) ?hr ?_; (case hd => rfl); (case hg => rfl); (case hr => first | (go_simp; done) | (go_simp; rfl)); intro gb163 hg w38 hbox hb; have n0_ := Aside0.mk (blk_below (g := gb135) (o := .cells #[.int .i64 a0_0, .int .i64 a0_1, .int .i64 a0_2, .int .i64 a0_3, .int .i64 a0_4, .string a0_5, .string a0_6, .string a0_7] 23 (0, 0)) (by (with_reducible repeat (first | refine blk_drewN ?_ _ | refine blk_drew ?_ | refine blk_alloc ?_ _)); exact BK135.out) hb); have n1_ := Aside0.mk (blk_below (g := gb136) (o := .cells #[.int .i64 a1_0, .int .i64 a1_1, .int .i64 a1_2, .int .i64 a1_3, .int .i64 a1_4, .string a1_5, .string a1_6, .string a1_7] 23 (0, 0)) (by (with_reducible repeat (first | refine blk_drewN ?_ _ | refine blk_drew ?_ | refine blk_alloc ?_ _)); exact BK136.out) hb); have n2_ := Aside0.mk (blk_below (g := gb152) (o := .cells #[.int .i64 t142, .int .i64 t143, .int .i64 t144, .int .i64 t145, .int .i64 t146, .string t147, .string t148, .string t149] 23 (0, 0)) (by (with_reducible repeat (first | refine blk_drewN ?_ _ | refine blk_drew ?_ | refine blk_alloc ?_ _)); exact BK152.out) hb); have n3_ := Aside0.mk (below_step (by repeat (first | (with_reducible first | exact HB.out | apply below_alloc | apply pw_below_drewN | apply below_drew1 | refine below_set ?_ GE135.out | refine below_set ?_ GE136.out | refine below_set ?_ GE152.out) | exact HB.out)) hb); have n4_ := Aside0.mk (hbox); have n5_ := Aside0.mk ((by rw [hg]; exact (below_size (by repeat (first | (with_reducible first | exact HB.out | apply below_alloc | apply pw_below_drewN | apply below_drew1 | refine below_set ?_ GE135.out | refine below_set ?_ GE136.out | refine below_set ?_ GE152.out) | exact HB.out))) : w.heap.size ≤ gb163)); have n6_ := Aside0.mk ((by rw [hg]; exact (below_size (by repeat (first | (with_reducible first | exact HB.out | apply below_alloc | apply pw_below_drewN | apply below_drew1 | refine below_set ?_ GE135.out | refine below_set ?_ GE136.out | refine below_set ?_ GE152.out) | exact HB.out))) : w.heap.size ≤ gb163)); have n7_ := Aside0.mk ((by rw [hg]; exact Nat.ne_of_lt (blk_lt (g := gb135) (o := .cells #[.int .i64 a0_0, .int .i64 a0_1, .int .i64 a0_2, .int .i64 a0_3, .int .i64 a0_4, .string a0_5, .string a0_6, .string a0_7] 23 (0, 0)) (by (with_reducible repeat (first | refine blk_drewN ?_ _ | refine blk_drew ?_ | refine blk_alloc ?_ _)); exact BK135.out)) : gb135 ≠ gb163)); have n8_ := Aside0.mk ((by rw [hg]; exact Nat.ne_of_gt (blk_lt (g := gb135) (o := .cells #[.int .i64 a0_0, .int .i64 a0_1, .int .i64 a0_2, .int .i64 a0_3, .int .i64 a0_4, .string a0_5, .string a0_6, .string a0_7] 23 (0, 0)) (by (with_reducible repeat (first | refine blk_drewN ?_ _ | refine blk_drew ?_ | refine blk_alloc ?_ _)); exact BK135.out)) : gb163 ≠ gb135)); have n9_ := Aside0.mk ((by rw [hg]; exact Nat.ne_of_lt (blk_lt (g := gb136) (o := .cells #[.int .i64 a1_0, .int .i64 a1_1, .int .i64 a1_2, .int .i64 a1_3, .int .i64 a1_4, .string a1_5, .string a1_6, .string a1_7] 23 (0, 0)) (by (with_reducible repeat (first | refine blk_drewN ?_ _ | refine blk_drew ?_ | refine blk_alloc ?_ _)); exact BK136.out)) : gb136 ≠ gb163)); have n10_ := Aside0.mk ((by rw [hg]; exact Nat.ne_of_gt (blk_lt (g := gb136) (o := .cells #[.int .i64 a1_0, .int .i64 a1_1, .int .i64 a1_2, .int .i64 a1_3, .int .i64 a1_4, .string a1_5, .string a1_6, .string a1_7] 23 (0, 0)) (by (with_reducible repeat (first | refine blk_drewN ?_ _ | refine blk_drew ?_ | refine blk_alloc ?_ _)); exact BK136.out)) : gb163 ≠ gb136)); have n11_ := Aside0.mk ((by rw [hg]; exact Nat.ne_of_lt (blk_lt (g := gb152) (o := .cells #[.int .i64 t142, .int .i64 t143, .int .i64 t144, .int .i64 t145, .int .i64 t146, .string t147, .string t148, .string t149] 23 (0, 0)) (by (with_reducible repeat (first | refine blk_drewN ?_ _ | refine blk_drew ?_ | refine blk_alloc ?_ _)); exact BK152.out)) : gb152 ≠ gb163)); have n12_ := Aside0.mk ((by rw [hg]; exact Nat.ne_of_gt (blk_lt (g := gb152) (o := .cells #[.int .i64 t142, .int .i64 t143, .int .i64 t144, .int .i64 t145, .int .i64 t146, .string t147, .string t148, .string t149] 23 (0, 0)) (by (with_reducible repeat (first | refine blk_drewN ?_ _ | refine blk_drew ?_ | refine blk_alloc ?_ _)); exact BK152.out)) : gb163 ≠ gb152)); clear BK135; clear BK136; clear BK152; clear HB; have BK135 := n0_; have BK136 := n1_; have BK152 := n2_; have HB := n3_; have BK163 := n4_; have GW163 := n5_; have GE163 := n6_; have NB135_163 := n7_; have NB163_135 := n8_; have NB136_163 := n9_; have NB163_136 := n10_; have NB152_163 := n11_; have NB163_152 := n12_; clear n0_ n1_ n2_ n3_ n4_ n5_ n6_ n7_ n8_ n9_ n10_ n11_ n12_; clear hb hbox hg; have hnb39 := NB163_135.out; have hnc39 := NB135_163.out; have hnb40 := NB163_136.out; have hnc40 := NB136_163.out; have hnb41 := NB163_152.out; have hnc41 := NB152_163.out; have hcz42_0 : w38.cell? ⟨gb163, 0, none⟩ = some (.int .i64 0) := (blk_cell BK163.out 0).trans rfl; have hcz42_1 : w38.cell? ⟨gb163, 1, none⟩ = some (.int .i64 0) := (blk_cell BK163.out 1).trans rfl; have hcz42_2 : w38.cell? ⟨gb163, 2, none⟩ = some (.int .i64 0) := (blk_cell BK163.out 2).trans rfl; have hcz42_3 : w38.cell? ⟨gb163, 3, none⟩ = some (.int .i64 0) := (blk_cell BK163.out 3).trans rfl; have hcz42_4 : w38.cell? ⟨gb163, 4, none⟩ = some (.int .i64 0) := (blk_cell BK163.out 4).trans rfl; have hcz42_5 : w38.cell? ⟨gb163, 5, none⟩ = some (.string (⟨#[]⟩ : ByteArray)) := (blk_cell BK163.out 5).trans rfl; have hcz42_6 : w38.cell? ⟨gb163, 6, none⟩ = some (.string (⟨#[]⟩ : ByteArray)) := (blk_cell BK163.out 6).trans rfl; have hcz42_7 : w38.cell? ⟨gb163, 7, none⟩ = some (.string (⟨#[]⟩ : ByteArray)) := (blk_cell BK163.out 7).trans rfl; have hfz42_0 := blk_frozen BK163.out 0; have hfz42_1 := blk_frozen BK163.out 1; have hfz42_2 := blk_frozen BK163.out 2; have hfz42_3 := blk_frozen BK163.out 3; have hfz42_4 := blk_frozen BK163.out 4; have hfz42_5 := blk_frozen BK163.out 5; have hfz42_6 := blk_frozen BK163.out 6; have hfz42_7 := blk_frozen BK163.out 7))
          (try simp only [Act.put, List.setIfInBounds_toArray, List.set_cons_zero, List.set_cons_succ])
          go_cut [64] (fun v64 wc => ∃ (kq : Nat) (x64_25 : Bool), v64 = .bool x64_25 ∧ Aside0 (copyholdlaw15_WireCalls.j1 kq a2 t137 t140 x64_25 = some r) ∧ Aside0 (kq ≤ kj4) ∧ Aside0 (wc.heap[gb135]? = some (.cells #[.int .i64 a0_0, .int .i64 a0_1, .int .i64 a0_2, .int .i64 a0_3, .int .i64 a0_4, .string a0_5, .string a0_6, .string a0_7] 23 (0, 0))) ∧ Aside0 (wc.heap[gb136]? = some (.cells #[.int .i64 a1_0, .int .i64 a1_1, .int .i64 a1_2, .int .i64 a1_3, .int .i64 a1_4, .string a1_5, .string a1_6, .string a1_7] 23 (0, 0))) ∧ Aside0 (wc.heap[gb152]? = some (.cells #[.int .i64 t142, .int .i64 t143, .int .i64 t144, .int .i64 t145, .int .i64 t146, .string t147, .string t148, .string t149] 23 (0, 0))) ∧ Aside0 (wc.heap[gb163]? = some (.cells #[.int .i64 t153, .int .i64 t154, .int .i64 t155, .int .i64 t156, .int .i64 t157, .string t158, .string t159, .string t160] 23 (0, 0))) ∧ Aside0 (Below w.heap.size w wc))
          case first =>
            have H := HC26.out
            clear HC26
            by_cases c43 : t151 = 0
            · rw [if_pos c43] at H
              have c43b0 : (t151 == 0) = true := beq_iff_eq.mpr c43
              have c43b1 : (t151 != 0) = false := bne_eq_false_iff_eq.mpr c43
              clear c43
              (first | rw [c43b0] | (simp only [i64_w, i32_w]; rw [c43b0]) | skip)
              by_cases c44 : t162 = 0
              · rw [if_pos c44] at H
                have c44b0 : (t162 == 0) = true := beq_iff_eq.mpr c44
                have c44b1 : (t162 != 0) = false := bne_eq_false_iff_eq.mpr c44
                clear c44
                by_cases c45 : (!(t142 == a0_0) || (!(t143 == a0_1) || (!(t144 == a0_2) || (!(t145 == a0_3) || (!(t146 == a0_4) || (!(t147.toList == a0_5.toList) || (!(t148.toList == a0_6.toList) || (!(t149.toList == a0_7.toList))))))))) = true
                · rw [if_pos c45] at H
                  have c45b0 : (!(t142 == a0_0) || (!(t143 == a0_1) || (!(t144 == a0_2) || (!(t145 == a0_3) || (!(t146 == a0_4) || (!(t147.toList == a0_5.toList) || (!(t148.toList == a0_6.toList) || (!(t149.toList == a0_7.toList))))))))) = true := c45
                  clear c45
                  have H' := Aside0.mk H
                  clear H
                  have hnb46 := NB152_135.out
                  have hnc46 := NB135_152.out
                  have hnb47 := NB152_136.out
                  have hnc47 := NB136_152.out
                  have hnb48 := NB152_163.out
                  have hnc48 := NB163_152.out
                  have hcz49_0 : w38.cell? ⟨gb152, 0, none⟩ = some (.int .i64 t142) := (blk_cell BK152.out 0).trans rfl
                  have hcz49_1 : w38.cell? ⟨gb152, 1, none⟩ = some (.int .i64 t143) := (blk_cell BK152.out 1).trans rfl
                  have hcz49_2 : w38.cell? ⟨gb152, 2, none⟩ = some (.int .i64 t144) := (blk_cell BK152.out 2).trans rfl
                  have hcz49_3 : w38.cell? ⟨gb152, 3, none⟩ = some (.int .i64 t145) := (blk_cell BK152.out 3).trans rfl
                  have hcz49_4 : w38.cell? ⟨gb152, 4, none⟩ = some (.int .i64 t146) := (blk_cell BK152.out 4).trans rfl
                  have hcz49_5 : w38.cell? ⟨gb152, 5, none⟩ = some (.string t147) := (blk_cell BK152.out 5).trans rfl
                  have hcz49_6 : w38.cell? ⟨gb152, 6, none⟩ = some (.string t148) := (blk_cell BK152.out 6).trans rfl
                  have hcz49_7 : w38.cell? ⟨gb152, 7, none⟩ = some (.string t149) := (blk_cell BK152.out 7).trans rfl
                  have hfz49_0 := blk_frozen BK152.out 0
                  have hfz49_1 := blk_frozen BK152.out 1
                  have hfz49_2 := blk_frozen BK152.out 2
                  have hfz49_3 := blk_frozen BK152.out 3
                  have hfz49_4 := blk_frozen BK152.out 4
                  have hfz49_5 := blk_frozen BK152.out 5
                  have hfz49_6 := blk_frozen BK152.out 6
                  have hfz49_7 := blk_frozen BK152.out 7
                  have hnb50 := NB135_136.out
                  have hnc50 := NB136_135.out
                  have hnb51 := NB135_163.out
                  have hnc51 := NB163_135.out
                  have hcz52_0 : w38.cell? ⟨gb135, 0, none⟩ = some (.int .i64 a0_0) := (blk_cell BK135.out 0).trans rfl
                  have hcz52_1 : w38.cell? ⟨gb135, 1, none⟩ = some (.int .i64 a0_1) := (blk_cell BK135.out 1).trans rfl
                  have hcz52_2 : w38.cell? ⟨gb135, 2, none⟩ = some (.int .i64 a0_2) := (blk_cell BK135.out 2).trans rfl
                  have hcz52_3 : w38.cell? ⟨gb135, 3, none⟩ = some (.int .i64 a0_3) := (blk_cell BK135.out 3).trans rfl
                  have hcz52_4 : w38.cell? ⟨gb135, 4, none⟩ = some (.int .i64 a0_4) := (blk_cell BK135.out 4).trans rfl
                  have hcz52_5 : w38.cell? ⟨gb135, 5, none⟩ = some (.string a0_5) := (blk_cell BK135.out 5).trans rfl
                  have hcz52_6 : w38.cell? ⟨gb135, 6, none⟩ = some (.string a0_6) := (blk_cell BK135.out 6).trans rfl
                  have hcz52_7 : w38.cell? ⟨gb135, 7, none⟩ = some (.string a0_7) := (blk_cell BK135.out 7).trans rfl
                  have hfz52_0 := blk_frozen BK135.out 0
                  have hfz52_1 := blk_frozen BK135.out 1
                  have hfz52_2 := blk_frozen BK135.out 2
                  have hfz52_3 := blk_frozen BK135.out 3
                  have hfz52_4 := blk_frozen BK135.out 4
                  have hfz52_5 := blk_frozen BK135.out 5
                  have hfz52_6 := blk_frozen BK135.out 6
                  have hfz52_7 := blk_frozen BK135.out 7
                  go_wp2
                  go_meet
                  case rel => exact ⟨_, (true), (by first | rfl | (simp; done) | (simp [*]; done)), H', ⟨by have := HJ4.out; first | omega | exact Nat.le_refl _⟩, ⟨by (with_reducible repeat (first | refine blk_drewN ?_ _ | refine blk_drew ?_ | refine blk_alloc ?_ _)); refine blk_far ?_ NB135_163.out _; (with_reducible repeat (first | refine blk_drewN ?_ _ | refine blk_drew ?_ | refine blk_alloc ?_ _)); refine blk_far ?_ NB135_163.out _; (with_reducible repeat (first | refine blk_drewN ?_ _ | refine blk_drew ?_ | refine blk_alloc ?_ _)); refine blk_far ?_ NB135_163.out _; (with_reducible repeat (first | refine blk_drewN ?_ _ | refine blk_drew ?_ | refine blk_alloc ?_ _)); refine blk_far ?_ NB135_163.out _; (with_reducible repeat (first | refine blk_drewN ?_ _ | refine blk_drew ?_ | refine blk_alloc ?_ _)); refine blk_far ?_ NB135_163.out _; (with_reducible repeat (first | refine blk_drewN ?_ _ | refine blk_drew ?_ | refine blk_alloc ?_ _)); refine blk_far ?_ NB135_163.out _; (with_reducible repeat (first | refine blk_drewN ?_ _ | refine blk_drew ?_ | refine blk_alloc ?_ _)); refine blk_far ?_ NB135_163.out _; (with_reducible repeat (first | refine blk_drewN ?_ _ | refine blk_drew ?_ | refine blk_alloc ?_ _)); refine blk_far ?_ NB135_163.out _; (with_reducible repeat (first | refine blk_drewN ?_ _ | refine blk_drew ?_ | refine blk_alloc ?_ _)); exact BK135.out⟩, ⟨by (with_reducible repeat (first | refine blk_drewN ?_ _ | refine blk_drew ?_ | refine blk_alloc ?_ _)); refine blk_far ?_ NB136_163.out _; (with_reducible repeat (first | refine blk_drewN ?_ _ | refine blk_drew ?_ | refine blk_alloc ?_ _)); refine blk_far ?_ NB136_163.out _; (with_reducible repeat (first | refine blk_drewN ?_ _ | refine blk_drew ?_ | refine blk_alloc ?_ _)); refine blk_far ?_ NB136_163.out _; (with_reducible repeat (first | refine blk_drewN ?_ _ | refine blk_drew ?_ | refine blk_alloc ?_ _)); refine blk_far ?_ NB136_163.out _; (with_reducible repeat (first | refine blk_drewN ?_ _ | refine blk_drew ?_ | refine blk_alloc ?_ _)); refine blk_far ?_ NB136_163.out _; (with_reducible repeat (first | refine blk_drewN ?_ _ | refine blk_drew ?_ | refine blk_alloc ?_ _)); refine blk_far ?_ NB136_163.out _; (with_reducible repeat (first | refine blk_drewN ?_ _ | refine blk_drew ?_ | refine blk_alloc ?_ _)); refine blk_far ?_ NB136_163.out _; (with_reducible repeat (first | refine blk_drewN ?_ _ | refine blk_drew ?_ | refine blk_alloc ?_ _)); refine blk_far ?_ NB136_163.out _; (with_reducible repeat (first | refine blk_drewN ?_ _ | refine blk_drew ?_ | refine blk_alloc ?_ _)); exact BK136.out⟩, ⟨by (with_reducible repeat (first | refine blk_drewN ?_ _ | refine blk_drew ?_ | refine blk_alloc ?_ _)); refine blk_far ?_ NB152_163.out _; (with_reducible repeat (first | refine blk_drewN ?_ _ | refine blk_drew ?_ | refine blk_alloc ?_ _)); refine blk_far ?_ NB152_163.out _; (with_reducible repeat (first | refine blk_drewN ?_ _ | refine blk_drew ?_ | refine blk_alloc ?_ _)); refine blk_far ?_ NB152_163.out _; (with_reducible repeat (first | refine blk_drewN ?_ _ | refine blk_drew ?_ | refine blk_alloc ?_ _)); refine blk_far ?_ NB152_163.out _; (with_reducible repeat (first | refine blk_drewN ?_ _ | refine blk_drew ?_ | refine blk_alloc ?_ _)); refine blk_far ?_ NB152_163.out _; (with_reducible repeat (first | refine blk_drewN ?_ _ | refine blk_drew ?_ | refine blk_alloc ?_ _)); refine blk_far ?_ NB152_163.out _; (with_reducible repeat (first | refine blk_drewN ?_ _ | refine blk_drew ?_ | refine blk_alloc ?_ _)); refine blk_far ?_ NB152_163.out _; (with_reducible repeat (first | refine blk_drewN ?_ _ | refine blk_drew ?_ | refine blk_alloc ?_ _)); refine blk_far ?_ NB152_163.out _; (with_reducible repeat (first | refine blk_drewN ?_ _ | refine blk_drew ?_ | refine blk_alloc ?_ _)); exact BK152.out⟩, ⟨by (with_reducible repeat (first | refine blk_drewN ?_ _ | refine blk_drew ?_ | refine blk_alloc ?_ _)); refine blk_put (cs := #[.int .i64 t153, .int .i64 t154, .int .i64 t155, .int .i64 t156, .int .i64 t157, .string t158, .string t159, .string (⟨#[]⟩ : ByteArray)]) ?_ 7 _ rfl; (with_reducible repeat (first | refine blk_drewN ?_ _ | refine blk_drew ?_ | refine blk_alloc ?_ _)); refine blk_put (cs := #[.int .i64 t153, .int .i64 t154, .int .i64 t155, .int .i64 t156, .int .i64 t157, .string t158, .string (⟨#[]⟩ : ByteArray), .string (⟨#[]⟩ : ByteArray)]) ?_ 6 _ rfl; (with_reducible repeat (first | refine blk_drewN ?_ _ | refine blk_drew ?_ | refine blk_alloc ?_ _)); refine blk_put (cs := #[.int .i64 t153, .int .i64 t154, .int .i64 t155, .int .i64 t156, .int .i64 t157, .string (⟨#[]⟩ : ByteArray), .string (⟨#[]⟩ : ByteArray), .string (⟨#[]⟩ : ByteArray)]) ?_ 5 _ rfl; (with_reducible repeat (first | refine blk_drewN ?_ _ | refine blk_drew ?_ | refine blk_alloc ?_ _)); refine blk_put (cs := #[.int .i64 t153, .int .i64 t154, .int .i64 t155, .int .i64 t156, .int .i64 0, .string (⟨#[]⟩ : ByteArray), .string (⟨#[]⟩ : ByteArray), .string (⟨#[]⟩ : ByteArray)]) ?_ 4 _ rfl; (with_reducible repeat (first | refine blk_drewN ?_ _ | refine blk_drew ?_ | refine blk_alloc ?_ _)); refine blk_put (cs := #[.int .i64 t153, .int .i64 t154, .int .i64 t155, .int .i64 0, .int .i64 0, .string (⟨#[]⟩ : ByteArray), .string (⟨#[]⟩ : ByteArray), .string (⟨#[]⟩ : ByteArray)]) ?_ 3 _ rfl; (with_reducible repeat (first | refine blk_drewN ?_ _ | refine blk_drew ?_ | refine blk_alloc ?_ _)); refine blk_put (cs := #[.int .i64 t153, .int .i64 t154, .int .i64 0, .int .i64 0, .int .i64 0, .string (⟨#[]⟩ : ByteArray), .string (⟨#[]⟩ : ByteArray), .string (⟨#[]⟩ : ByteArray)]) ?_ 2 _ rfl; (with_reducible repeat (first | refine blk_drewN ?_ _ | refine blk_drew ?_ | refine blk_alloc ?_ _)); refine blk_put (cs := #[.int .i64 t153, .int .i64 0, .int .i64 0, .int .i64 0, .int .i64 0, .string (⟨#[]⟩ : ByteArray), .string (⟨#[]⟩ : ByteArray), .string (⟨#[]⟩ : ByteArray)]) ?_ 1 _ rfl; (with_reducible repeat (first | refine blk_drewN ?_ _ | refine blk_drew ?_ | refine blk_alloc ?_ _)); refine blk_put (cs := #[.int .i64 0, .int .i64 0, .int .i64 0, .int .i64 0, .int .i64 0, .string (⟨#[]⟩ : ByteArray), .string (⟨#[]⟩ : ByteArray), .string (⟨#[]⟩ : ByteArray)]) ?_ 0 _ rfl; (with_reducible repeat (first | refine blk_drewN ?_ _ | refine blk_drew ?_ | refine blk_alloc ?_ _)); exact BK163.out⟩, ⟨by repeat (first | (with_reducible first | exact HB.out | apply below_alloc | apply pw_below_drewN | apply below_drew1 | refine below_set ?_ GE135.out | refine below_set ?_ GE136.out | refine below_set ?_ GE152.out | refine below_set ?_ GE163.out) | exact HB.out)⟩⟩
                · rw [if_neg c45] at H
                  have c45b0 : (!(t142 == a0_0) || (!(t143 == a0_1) || (!(t144 == a0_2) || (!(t145 == a0_3) || (!(t146 == a0_4) || (!(t147.toList == a0_5.toList) || (!(t148.toList == a0_6.toList) || (!(t149.toList == a0_7.toList))))))))) = false := by simpa using c45
                  clear c45
                  by_cases c53 : (!(t153 == a1_0) || (!(t154 == a1_1) || (!(t155 == a1_2) || (!(t156 == a1_3) || (!(t157 == a1_4) || (!(t158.toList == a1_5.toList) || (!(t159.toList == a1_6.toList) || (!(t160.toList == a1_7.toList))))))))) = true
                  · rw [if_pos c53] at H
                    have c53b0 : (!(t153 == a1_0) || (!(t154 == a1_1) || (!(t155 == a1_2) || (!(t156 == a1_3) || (!(t157 == a1_4) || (!(t158.toList == a1_5.toList) || (!(t159.toList == a1_6.toList) || (!(t160.toList == a1_7.toList))))))))) = true := c53
                    clear c53
                    have H' := Aside0.mk H
                    clear H
                    have hnb54 := NB152_135.out
                    have hnc54 := NB135_152.out
                    have hnb55 := NB152_136.out
                    have hnc55 := NB136_152.out
                    have hnb56 := NB152_163.out
                    have hnc56 := NB163_152.out
                    have hcz57_0 : w38.cell? ⟨gb152, 0, none⟩ = some (.int .i64 t142) := (blk_cell BK152.out 0).trans rfl
                    have hcz57_1 : w38.cell? ⟨gb152, 1, none⟩ = some (.int .i64 t143) := (blk_cell BK152.out 1).trans rfl
                    have hcz57_2 : w38.cell? ⟨gb152, 2, none⟩ = some (.int .i64 t144) := (blk_cell BK152.out 2).trans rfl
                    have hcz57_3 : w38.cell? ⟨gb152, 3, none⟩ = some (.int .i64 t145) := (blk_cell BK152.out 3).trans rfl
                    have hcz57_4 : w38.cell? ⟨gb152, 4, none⟩ = some (.int .i64 t146) := (blk_cell BK152.out 4).trans rfl
                    have hcz57_5 : w38.cell? ⟨gb152, 5, none⟩ = some (.string t147) := (blk_cell BK152.out 5).trans rfl
                    have hcz57_6 : w38.cell? ⟨gb152, 6, none⟩ = some (.string t148) := (blk_cell BK152.out 6).trans rfl
                    have hcz57_7 : w38.cell? ⟨gb152, 7, none⟩ = some (.string t149) := (blk_cell BK152.out 7).trans rfl
                    have hfz57_0 := blk_frozen BK152.out 0
                    have hfz57_1 := blk_frozen BK152.out 1
                    have hfz57_2 := blk_frozen BK152.out 2
                    have hfz57_3 := blk_frozen BK152.out 3
                    have hfz57_4 := blk_frozen BK152.out 4
                    have hfz57_5 := blk_frozen BK152.out 5
                    have hfz57_6 := blk_frozen BK152.out 6
                    have hfz57_7 := blk_frozen BK152.out 7
                    have hnb58 := NB135_136.out
                    have hnc58 := NB136_135.out
                    have hnb59 := NB135_163.out
                    have hnc59 := NB163_135.out
                    have hcz60_0 : w38.cell? ⟨gb135, 0, none⟩ = some (.int .i64 a0_0) := (blk_cell BK135.out 0).trans rfl
                    have hcz60_1 : w38.cell? ⟨gb135, 1, none⟩ = some (.int .i64 a0_1) := (blk_cell BK135.out 1).trans rfl
                    have hcz60_2 : w38.cell? ⟨gb135, 2, none⟩ = some (.int .i64 a0_2) := (blk_cell BK135.out 2).trans rfl
                    have hcz60_3 : w38.cell? ⟨gb135, 3, none⟩ = some (.int .i64 a0_3) := (blk_cell BK135.out 3).trans rfl
                    have hcz60_4 : w38.cell? ⟨gb135, 4, none⟩ = some (.int .i64 a0_4) := (blk_cell BK135.out 4).trans rfl
                    have hcz60_5 : w38.cell? ⟨gb135, 5, none⟩ = some (.string a0_5) := (blk_cell BK135.out 5).trans rfl
                    have hcz60_6 : w38.cell? ⟨gb135, 6, none⟩ = some (.string a0_6) := (blk_cell BK135.out 6).trans rfl
                    have hcz60_7 : w38.cell? ⟨gb135, 7, none⟩ = some (.string a0_7) := (blk_cell BK135.out 7).trans rfl
                    have hfz60_0 := blk_frozen BK135.out 0
                    have hfz60_1 := blk_frozen BK135.out 1
                    have hfz60_2 := blk_frozen BK135.out 2
                    have hfz60_3 := blk_frozen BK135.out 3
                    have hfz60_4 := blk_frozen BK135.out 4
                    have hfz60_5 := blk_frozen BK135.out 5
                    have hfz60_6 := blk_frozen BK135.out 6
                    have hfz60_7 := blk_frozen BK135.out 7
                    have hnb61 := NB163_136.out
                    have hnc61 := NB136_163.out
                    have hcz62_0 : w38.cell? ⟨gb163, 0, none⟩ = some (.int .i64 0) := (blk_cell BK163.out 0).trans rfl
                    have hcz62_1 : w38.cell? ⟨gb163, 1, none⟩ = some (.int .i64 0) := (blk_cell BK163.out 1).trans rfl
                    have hcz62_2 : w38.cell? ⟨gb163, 2, none⟩ = some (.int .i64 0) := (blk_cell BK163.out 2).trans rfl
                    have hcz62_3 : w38.cell? ⟨gb163, 3, none⟩ = some (.int .i64 0) := (blk_cell BK163.out 3).trans rfl
                    have hcz62_4 : w38.cell? ⟨gb163, 4, none⟩ = some (.int .i64 0) := (blk_cell BK163.out 4).trans rfl
                    have hcz62_5 : w38.cell? ⟨gb163, 5, none⟩ = some (.string (⟨#[]⟩ : ByteArray)) := (blk_cell BK163.out 5).trans rfl
                    have hcz62_6 : w38.cell? ⟨gb163, 6, none⟩ = some (.string (⟨#[]⟩ : ByteArray)) := (blk_cell BK163.out 6).trans rfl
                    have hcz62_7 : w38.cell? ⟨gb163, 7, none⟩ = some (.string (⟨#[]⟩ : ByteArray)) := (blk_cell BK163.out 7).trans rfl
                    have hfz62_0 := blk_frozen BK163.out 0
                    have hfz62_1 := blk_frozen BK163.out 1
                    have hfz62_2 := blk_frozen BK163.out 2
                    have hfz62_3 := blk_frozen BK163.out 3
                    have hfz62_4 := blk_frozen BK163.out 4
                    have hfz62_5 := blk_frozen BK163.out 5
                    have hfz62_6 := blk_frozen BK163.out 6
                    have hfz62_7 := blk_frozen BK163.out 7
                    have hcz63_0 : w38.cell? ⟨gb136, 0, none⟩ = some (.int .i64 a1_0) := (blk_cell BK136.out 0).trans rfl
                    have hcz63_1 : w38.cell? ⟨gb136, 1, none⟩ = some (.int .i64 a1_1) := (blk_cell BK136.out 1).trans rfl
                    have hcz63_2 : w38.cell? ⟨gb136, 2, none⟩ = some (.int .i64 a1_2) := (blk_cell BK136.out 2).trans rfl
                    have hcz63_3 : w38.cell? ⟨gb136, 3, none⟩ = some (.int .i64 a1_3) := (blk_cell BK136.out 3).trans rfl
                    have hcz63_4 : w38.cell? ⟨gb136, 4, none⟩ = some (.int .i64 a1_4) := (blk_cell BK136.out 4).trans rfl
                    have hcz63_5 : w38.cell? ⟨gb136, 5, none⟩ = some (.string a1_5) := (blk_cell BK136.out 5).trans rfl
                    have hcz63_6 : w38.cell? ⟨gb136, 6, none⟩ = some (.string a1_6) := (blk_cell BK136.out 6).trans rfl
                    have hcz63_7 : w38.cell? ⟨gb136, 7, none⟩ = some (.string a1_7) := (blk_cell BK136.out 7).trans rfl
                    have hfz63_0 := blk_frozen BK136.out 0
                    have hfz63_1 := blk_frozen BK136.out 1
                    have hfz63_2 := blk_frozen BK136.out 2
                    have hfz63_3 := blk_frozen BK136.out 3
                    have hfz63_4 := blk_frozen BK136.out 4
                    have hfz63_5 := blk_frozen BK136.out 5
                    have hfz63_6 := blk_frozen BK136.out 6
                    have hfz63_7 := blk_frozen BK136.out 7
                    go_wp2
                    go_meet
                    case rel => exact ⟨_, (true), (by first | rfl | (simp; done) | (simp [*]; done)), H', ⟨by have := HJ4.out; first | omega | exact Nat.le_refl _⟩, ⟨by (with_reducible repeat (first | refine blk_drewN ?_ _ | refine blk_drew ?_ | refine blk_alloc ?_ _)); refine blk_far ?_ NB135_163.out _; (with_reducible repeat (first | refine blk_drewN ?_ _ | refine blk_drew ?_ | refine blk_alloc ?_ _)); refine blk_far ?_ NB135_163.out _; (with_reducible repeat (first | refine blk_drewN ?_ _ | refine blk_drew ?_ | refine blk_alloc ?_ _)); refine blk_far ?_ NB135_163.out _; (with_reducible repeat (first | refine blk_drewN ?_ _ | refine blk_drew ?_ | refine blk_alloc ?_ _)); refine blk_far ?_ NB135_163.out _; (with_reducible repeat (first | refine blk_drewN ?_ _ | refine blk_drew ?_ | refine blk_alloc ?_ _)); refine blk_far ?_ NB135_163.out _; (with_reducible repeat (first | refine blk_drewN ?_ _ | refine blk_drew ?_ | refine blk_alloc ?_ _)); refine blk_far ?_ NB135_163.out _; (with_reducible repeat (first | refine blk_drewN ?_ _ | refine blk_drew ?_ | refine blk_alloc ?_ _)); refine blk_far ?_ NB135_163.out _; (with_reducible repeat (first | refine blk_drewN ?_ _ | refine blk_drew ?_ | refine blk_alloc ?_ _)); refine blk_far ?_ NB135_163.out _; (with_reducible repeat (first | refine blk_drewN ?_ _ | refine blk_drew ?_ | refine blk_alloc ?_ _)); exact BK135.out⟩, ⟨by (with_reducible repeat (first | refine blk_drewN ?_ _ | refine blk_drew ?_ | refine blk_alloc ?_ _)); refine blk_far ?_ NB136_163.out _; (with_reducible repeat (first | refine blk_drewN ?_ _ | refine blk_drew ?_ | refine blk_alloc ?_ _)); refine blk_far ?_ NB136_163.out _; (with_reducible repeat (first | refine blk_drewN ?_ _ | refine blk_drew ?_ | refine blk_alloc ?_ _)); refine blk_far ?_ NB136_163.out _; (with_reducible repeat (first | refine blk_drewN ?_ _ | refine blk_drew ?_ | refine blk_alloc ?_ _)); refine blk_far ?_ NB136_163.out _; (with_reducible repeat (first | refine blk_drewN ?_ _ | refine blk_drew ?_ | refine blk_alloc ?_ _)); refine blk_far ?_ NB136_163.out _; (with_reducible repeat (first | refine blk_drewN ?_ _ | refine blk_drew ?_ | refine blk_alloc ?_ _)); refine blk_far ?_ NB136_163.out _; (with_reducible repeat (first | refine blk_drewN ?_ _ | refine blk_drew ?_ | refine blk_alloc ?_ _)); refine blk_far ?_ NB136_163.out _; (with_reducible repeat (first | refine blk_drewN ?_ _ | refine blk_drew ?_ | refine blk_alloc ?_ _)); refine blk_far ?_ NB136_163.out _; (with_reducible repeat (first | refine blk_drewN ?_ _ | refine blk_drew ?_ | refine blk_alloc ?_ _)); exact BK136.out⟩, ⟨by (with_reducible repeat (first | refine blk_drewN ?_ _ | refine blk_drew ?_ | refine blk_alloc ?_ _)); refine blk_far ?_ NB152_163.out _; (with_reducible repeat (first | refine blk_drewN ?_ _ | refine blk_drew ?_ | refine blk_alloc ?_ _)); refine blk_far ?_ NB152_163.out _; (with_reducible repeat (first | refine blk_drewN ?_ _ | refine blk_drew ?_ | refine blk_alloc ?_ _)); refine blk_far ?_ NB152_163.out _; (with_reducible repeat (first | refine blk_drewN ?_ _ | refine blk_drew ?_ | refine blk_alloc ?_ _)); refine blk_far ?_ NB152_163.out _; (with_reducible repeat (first | refine blk_drewN ?_ _ | refine blk_drew ?_ | refine blk_alloc ?_ _)); refine blk_far ?_ NB152_163.out _; (with_reducible repeat (first | refine blk_drewN ?_ _ | refine blk_drew ?_ | refine blk_alloc ?_ _)); refine blk_far ?_ NB152_163.out _; (with_reducible repeat (first | refine blk_drewN ?_ _ | refine blk_drew ?_ | refine blk_alloc ?_ _)); refine blk_far ?_ NB152_163.out _; (with_reducible repeat (first | refine blk_drewN ?_ _ | refine blk_drew ?_ | refine blk_alloc ?_ _)); refine blk_far ?_ NB152_163.out _; (with_reducible repeat (first | refine blk_drewN ?_ _ | refine blk_drew ?_ | refine blk_alloc ?_ _)); exact BK152.out⟩, ⟨by (with_reducible repeat (first | refine blk_drewN ?_ _ | refine blk_drew ?_ | refine blk_alloc ?_ _)); refine blk_put (cs := #[.int .i64 t153, .int .i64 t154, .int .i64 t155, .int .i64 t156, .int .i64 t157, .string t158, .string t159, .string (⟨#[]⟩ : ByteArray)]) ?_ 7 _ rfl; (with_reducible repeat (first | refine blk_drewN ?_ _ | refine blk_drew ?_ | refine blk_alloc ?_ _)); refine blk_put (cs := #[.int .i64 t153, .int .i64 t154, .int .i64 t155, .int .i64 t156, .int .i64 t157, .string t158, .string (⟨#[]⟩ : ByteArray), .string (⟨#[]⟩ : ByteArray)]) ?_ 6 _ rfl; (with_reducible repeat (first | refine blk_drewN ?_ _ | refine blk_drew ?_ | refine blk_alloc ?_ _)); refine blk_put (cs := #[.int .i64 t153, .int .i64 t154, .int .i64 t155, .int .i64 t156, .int .i64 t157, .string (⟨#[]⟩ : ByteArray), .string (⟨#[]⟩ : ByteArray), .string (⟨#[]⟩ : ByteArray)]) ?_ 5 _ rfl; (with_reducible repeat (first | refine blk_drewN ?_ _ | refine blk_drew ?_ | refine blk_alloc ?_ _)); refine blk_put (cs := #[.int .i64 t153, .int .i64 t154, .int .i64 t155, .int .i64 t156, .int .i64 0, .string (⟨#[]⟩ : ByteArray), .string (⟨#[]⟩ : ByteArray), .string (⟨#[]⟩ : ByteArray)]) ?_ 4 _ rfl; (with_reducible repeat (first | refine blk_drewN ?_ _ | refine blk_drew ?_ | refine blk_alloc ?_ _)); refine blk_put (cs := #[.int .i64 t153, .int .i64 t154, .int .i64 t155, .int .i64 0, .int .i64 0, .string (⟨#[]⟩ : ByteArray), .string (⟨#[]⟩ : ByteArray), .string (⟨#[]⟩ : ByteArray)]) ?_ 3 _ rfl; (with_reducible repeat (first | refine blk_drewN ?_ _ | refine blk_drew ?_ | refine blk_alloc ?_ _)); refine blk_put (cs := #[.int .i64 t153, .int .i64 t154, .int .i64 0, .int .i64 0, .int .i64 0, .string (⟨#[]⟩ : ByteArray), .string (⟨#[]⟩ : ByteArray), .string (⟨#[]⟩ : ByteArray)]) ?_ 2 _ rfl; (with_reducible repeat (first | refine blk_drewN ?_ _ | refine blk_drew ?_ | refine blk_alloc ?_ _)); refine blk_put (cs := #[.int .i64 t153, .int .i64 0, .int .i64 0, .int .i64 0, .int .i64 0, .string (⟨#[]⟩ : ByteArray), .string (⟨#[]⟩ : ByteArray), .string (⟨#[]⟩ : ByteArray)]) ?_ 1 _ rfl; (with_reducible repeat (first | refine blk_drewN ?_ _ | refine blk_drew ?_ | refine blk_alloc ?_ _)); refine blk_put (cs := #[.int .i64 0, .int .i64 0, .int .i64 0, .int .i64 0, .int .i64 0, .string (⟨#[]⟩ : ByteArray), .string (⟨#[]⟩ : ByteArray), .string (⟨#[]⟩ : ByteArray)]) ?_ 0 _ rfl; (with_reducible repeat (first | refine blk_drewN ?_ _ | refine blk_drew ?_ | refine blk_alloc ?_ _)); exact BK163.out⟩, ⟨by repeat (first | (with_reducible first | exact HB.out | apply below_alloc | apply pw_below_drewN | apply below_drew1 | refine below_set ?_ GE135.out | refine below_set ?_ GE136.out | refine below_set ?_ GE152.out | refine below_set ?_ GE163.out) | exact HB.out)⟩⟩
                  · rw [if_neg c53] at H
                    have c53b0 : (!(t153 == a1_0) || (!(t154 == a1_1) || (!(t155 == a1_2) || (!(t156 == a1_3) || (!(t157 == a1_4) || (!(t158.toList == a1_5.toList) || (!(t159.toList == a1_6.toList) || (!(t160.toList == a1_7.toList))))))))) = false := by simpa using c53
                    clear c53
                    have H' := Aside0.mk H
                    clear H
                    have hnb64 := NB152_135.out
                    have hnc64 := NB135_152.out
                    have hnb65 := NB152_136.out
                    have hnc65 := NB136_152.out
                    have hnb66 := NB152_163.out
                    have hnc66 := NB163_152.out
                    have hcz67_0 : w38.cell? ⟨gb152, 0, none⟩ = some (.int .i64 t142) := (blk_cell BK152.out 0).trans rfl
                    have hcz67_1 : w38.cell? ⟨gb152, 1, none⟩ = some (.int .i64 t143) := (blk_cell BK152.out 1).trans rfl
                    have hcz67_2 : w38.cell? ⟨gb152, 2, none⟩ = some (.int .i64 t144) := (blk_cell BK152.out 2).trans rfl
                    have hcz67_3 : w38.cell? ⟨gb152, 3, none⟩ = some (.int .i64 t145) := (blk_cell BK152.out 3).trans rfl
                    have hcz67_4 : w38.cell? ⟨gb152, 4, none⟩ = some (.int .i64 t146) := (blk_cell BK152.out 4).trans rfl
                    have hcz67_5 : w38.cell? ⟨gb152, 5, none⟩ = some (.string t147) := (blk_cell BK152.out 5).trans rfl
                    have hcz67_6 : w38.cell? ⟨gb152, 6, none⟩ = some (.string t148) := (blk_cell BK152.out 6).trans rfl
                    have hcz67_7 : w38.cell? ⟨gb152, 7, none⟩ = some (.string t149) := (blk_cell BK152.out 7).trans rfl
                    have hfz67_0 := blk_frozen BK152.out 0
                    have hfz67_1 := blk_frozen BK152.out 1
                    have hfz67_2 := blk_frozen BK152.out 2
                    have hfz67_3 := blk_frozen BK152.out 3
                    have hfz67_4 := blk_frozen BK152.out 4
                    have hfz67_5 := blk_frozen BK152.out 5
                    have hfz67_6 := blk_frozen BK152.out 6
                    have hfz67_7 := blk_frozen BK152.out 7
                    have hnb68 := NB135_136.out
                    have hnc68 := NB136_135.out
                    have hnb69 := NB135_163.out
                    have hnc69 := NB163_135.out
                    have hcz70_0 : w38.cell? ⟨gb135, 0, none⟩ = some (.int .i64 a0_0) := (blk_cell BK135.out 0).trans rfl
                    have hcz70_1 : w38.cell? ⟨gb135, 1, none⟩ = some (.int .i64 a0_1) := (blk_cell BK135.out 1).trans rfl
                    have hcz70_2 : w38.cell? ⟨gb135, 2, none⟩ = some (.int .i64 a0_2) := (blk_cell BK135.out 2).trans rfl
                    have hcz70_3 : w38.cell? ⟨gb135, 3, none⟩ = some (.int .i64 a0_3) := (blk_cell BK135.out 3).trans rfl
                    have hcz70_4 : w38.cell? ⟨gb135, 4, none⟩ = some (.int .i64 a0_4) := (blk_cell BK135.out 4).trans rfl
                    have hcz70_5 : w38.cell? ⟨gb135, 5, none⟩ = some (.string a0_5) := (blk_cell BK135.out 5).trans rfl
                    have hcz70_6 : w38.cell? ⟨gb135, 6, none⟩ = some (.string a0_6) := (blk_cell BK135.out 6).trans rfl
                    have hcz70_7 : w38.cell? ⟨gb135, 7, none⟩ = some (.string a0_7) := (blk_cell BK135.out 7).trans rfl
                    have hfz70_0 := blk_frozen BK135.out 0
                    have hfz70_1 := blk_frozen BK135.out 1
                    have hfz70_2 := blk_frozen BK135.out 2
                    have hfz70_3 := blk_frozen BK135.out 3
                    have hfz70_4 := blk_frozen BK135.out 4
                    have hfz70_5 := blk_frozen BK135.out 5
                    have hfz70_6 := blk_frozen BK135.out 6
                    have hfz70_7 := blk_frozen BK135.out 7
                    have hnb71 := NB163_136.out
                    have hnc71 := NB136_163.out
                    have hcz72_0 : w38.cell? ⟨gb163, 0, none⟩ = some (.int .i64 0) := (blk_cell BK163.out 0).trans rfl
                    have hcz72_1 : w38.cell? ⟨gb163, 1, none⟩ = some (.int .i64 0) := (blk_cell BK163.out 1).trans rfl
                    have hcz72_2 : w38.cell? ⟨gb163, 2, none⟩ = some (.int .i64 0) := (blk_cell BK163.out 2).trans rfl
                    have hcz72_3 : w38.cell? ⟨gb163, 3, none⟩ = some (.int .i64 0) := (blk_cell BK163.out 3).trans rfl
                    have hcz72_4 : w38.cell? ⟨gb163, 4, none⟩ = some (.int .i64 0) := (blk_cell BK163.out 4).trans rfl
                    have hcz72_5 : w38.cell? ⟨gb163, 5, none⟩ = some (.string (⟨#[]⟩ : ByteArray)) := (blk_cell BK163.out 5).trans rfl
                    have hcz72_6 : w38.cell? ⟨gb163, 6, none⟩ = some (.string (⟨#[]⟩ : ByteArray)) := (blk_cell BK163.out 6).trans rfl
                    have hcz72_7 : w38.cell? ⟨gb163, 7, none⟩ = some (.string (⟨#[]⟩ : ByteArray)) := (blk_cell BK163.out 7).trans rfl
                    have hfz72_0 := blk_frozen BK163.out 0
                    have hfz72_1 := blk_frozen BK163.out 1
                    have hfz72_2 := blk_frozen BK163.out 2
                    have hfz72_3 := blk_frozen BK163.out 3
                    have hfz72_4 := blk_frozen BK163.out 4
                    have hfz72_5 := blk_frozen BK163.out 5
                    have hfz72_6 := blk_frozen BK163.out 6
                    have hfz72_7 := blk_frozen BK163.out 7
                    have hcz73_0 : w38.cell? ⟨gb136, 0, none⟩ = some (.int .i64 a1_0) := (blk_cell BK136.out 0).trans rfl
                    have hcz73_1 : w38.cell? ⟨gb136, 1, none⟩ = some (.int .i64 a1_1) := (blk_cell BK136.out 1).trans rfl
                    have hcz73_2 : w38.cell? ⟨gb136, 2, none⟩ = some (.int .i64 a1_2) := (blk_cell BK136.out 2).trans rfl
                    have hcz73_3 : w38.cell? ⟨gb136, 3, none⟩ = some (.int .i64 a1_3) := (blk_cell BK136.out 3).trans rfl
                    have hcz73_4 : w38.cell? ⟨gb136, 4, none⟩ = some (.int .i64 a1_4) := (blk_cell BK136.out 4).trans rfl
                    have hcz73_5 : w38.cell? ⟨gb136, 5, none⟩ = some (.string a1_5) := (blk_cell BK136.out 5).trans rfl
                    have hcz73_6 : w38.cell? ⟨gb136, 6, none⟩ = some (.string a1_6) := (blk_cell BK136.out 6).trans rfl
                    have hcz73_7 : w38.cell? ⟨gb136, 7, none⟩ = some (.string a1_7) := (blk_cell BK136.out 7).trans rfl
                    have hfz73_0 := blk_frozen BK136.out 0
                    have hfz73_1 := blk_frozen BK136.out 1
                    have hfz73_2 := blk_frozen BK136.out 2
                    have hfz73_3 := blk_frozen BK136.out 3
                    have hfz73_4 := blk_frozen BK136.out 4
                    have hfz73_5 := blk_frozen BK136.out 5
                    have hfz73_6 := blk_frozen BK136.out 6
                    have hfz73_7 := blk_frozen BK136.out 7
                    go_wp2
                    go_meet
                    case rel => exact ⟨_, ((t161.toList != ([] : List UInt8))), (by first | rfl | (simp; done) | (simp [*]; done) | exact (fun l => by cases l <;> rfl : ∀ l : List UInt8, Value.bool (!l.isEmpty) = Value.bool (l != [])) _), H', ⟨by have := HJ4.out; first | omega | exact Nat.le_refl _⟩, ⟨by (with_reducible repeat (first | refine blk_drewN ?_ _ | refine blk_drew ?_ | refine blk_alloc ?_ _)); refine blk_far ?_ NB135_163.out _; (with_reducible repeat (first | refine blk_drewN ?_ _ | refine blk_drew ?_ | refine blk_alloc ?_ _)); refine blk_far ?_ NB135_163.out _; (with_reducible repeat (first | refine blk_drewN ?_ _ | refine blk_drew ?_ | refine blk_alloc ?_ _)); refine blk_far ?_ NB135_163.out _; (with_reducible repeat (first | refine blk_drewN ?_ _ | refine blk_drew ?_ | refine blk_alloc ?_ _)); refine blk_far ?_ NB135_163.out _; (with_reducible repeat (first | refine blk_drewN ?_ _ | refine blk_drew ?_ | refine blk_alloc ?_ _)); refine blk_far ?_ NB135_163.out _; (with_reducible repeat (first | refine blk_drewN ?_ _ | refine blk_drew ?_ | refine blk_alloc ?_ _)); refine blk_far ?_ NB135_163.out _; (with_reducible repeat (first | refine blk_drewN ?_ _ | refine blk_drew ?_ | refine blk_alloc ?_ _)); refine blk_far ?_ NB135_163.out _; (with_reducible repeat (first | refine blk_drewN ?_ _ | refine blk_drew ?_ | refine blk_alloc ?_ _)); refine blk_far ?_ NB135_163.out _; (with_reducible repeat (first | refine blk_drewN ?_ _ | refine blk_drew ?_ | refine blk_alloc ?_ _)); exact BK135.out⟩, ⟨by (with_reducible repeat (first | refine blk_drewN ?_ _ | refine blk_drew ?_ | refine blk_alloc ?_ _)); refine blk_far ?_ NB136_163.out _; (with_reducible repeat (first | refine blk_drewN ?_ _ | refine blk_drew ?_ | refine blk_alloc ?_ _)); refine blk_far ?_ NB136_163.out _; (with_reducible repeat (first | refine blk_drewN ?_ _ | refine blk_drew ?_ | refine blk_alloc ?_ _)); refine blk_far ?_ NB136_163.out _; (with_reducible repeat (first | refine blk_drewN ?_ _ | refine blk_drew ?_ | refine blk_alloc ?_ _)); refine blk_far ?_ NB136_163.out _; (with_reducible repeat (first | refine blk_drewN ?_ _ | refine blk_drew ?_ | refine blk_alloc ?_ _)); refine blk_far ?_ NB136_163.out _; (with_reducible repeat (first | refine blk_drewN ?_ _ | refine blk_drew ?_ | refine blk_alloc ?_ _)); refine blk_far ?_ NB136_163.out _; (with_reducible repeat (first | refine blk_drewN ?_ _ | refine blk_drew ?_ | refine blk_alloc ?_ _)); refine blk_far ?_ NB136_163.out _; (with_reducible repeat (first | refine blk_drewN ?_ _ | refine blk_drew ?_ | refine blk_alloc ?_ _)); refine blk_far ?_ NB136_163.out _; (with_reducible repeat (first | refine blk_drewN ?_ _ | refine blk_drew ?_ | refine blk_alloc ?_ _)); exact BK136.out⟩, ⟨by (with_reducible repeat (first | refine blk_drewN ?_ _ | refine blk_drew ?_ | refine blk_alloc ?_ _)); refine blk_far ?_ NB152_163.out _; (with_reducible repeat (first | refine blk_drewN ?_ _ | refine blk_drew ?_ | refine blk_alloc ?_ _)); refine blk_far ?_ NB152_163.out _; (with_reducible repeat (first | refine blk_drewN ?_ _ | refine blk_drew ?_ | refine blk_alloc ?_ _)); refine blk_far ?_ NB152_163.out _; (with_reducible repeat (first | refine blk_drewN ?_ _ | refine blk_drew ?_ | refine blk_alloc ?_ _)); refine blk_far ?_ NB152_163.out _; (with_reducible repeat (first | refine blk_drewN ?_ _ | refine blk_drew ?_ | refine blk_alloc ?_ _)); refine blk_far ?_ NB152_163.out _; (with_reducible repeat (first | refine blk_drewN ?_ _ | refine blk_drew ?_ | refine blk_alloc ?_ _)); refine blk_far ?_ NB152_163.out _; (with_reducible repeat (first | refine blk_drewN ?_ _ | refine blk_drew ?_ | refine blk_alloc ?_ _)); refine blk_far ?_ NB152_163.out _; (with_reducible repeat (first | refine blk_drewN ?_ _ | refine blk_drew ?_ | refine blk_alloc ?_ _)); refine blk_far ?_ NB152_163.out _; (with_reducible repeat (first | refine blk_drewN ?_ _ | refine blk_drew ?_ | refine blk_alloc ?_ _)); exact BK152.out⟩, ⟨by (with_reducible repeat (first | refine blk_drewN ?_ _ | refine blk_drew ?_ | refine blk_alloc ?_ _)); refine blk_put (cs := #[.int .i64 t153, .int .i64 t154, .int .i64 t155, .int .i64 t156, .int .i64 t157, .string t158, .string t159, .string (⟨#[]⟩ : ByteArray)]) ?_ 7 _ rfl; (with_reducible repeat (first | refine blk_drewN ?_ _ | refine blk_drew ?_ | refine blk_alloc ?_ _)); refine blk_put (cs := #[.int .i64 t153, .int .i64 t154, .int .i64 t155, .int .i64 t156, .int .i64 t157, .string t158, .string (⟨#[]⟩ : ByteArray), .string (⟨#[]⟩ : ByteArray)]) ?_ 6 _ rfl; (with_reducible repeat (first | refine blk_drewN ?_ _ | refine blk_drew ?_ | refine blk_alloc ?_ _)); refine blk_put (cs := #[.int .i64 t153, .int .i64 t154, .int .i64 t155, .int .i64 t156, .int .i64 t157, .string (⟨#[]⟩ : ByteArray), .string (⟨#[]⟩ : ByteArray), .string (⟨#[]⟩ : ByteArray)]) ?_ 5 _ rfl; (with_reducible repeat (first | refine blk_drewN ?_ _ | refine blk_drew ?_ | refine blk_alloc ?_ _)); refine blk_put (cs := #[.int .i64 t153, .int .i64 t154, .int .i64 t155, .int .i64 t156, .int .i64 0, .string (⟨#[]⟩ : ByteArray), .string (⟨#[]⟩ : ByteArray), .string (⟨#[]⟩ : ByteArray)]) ?_ 4 _ rfl; (with_reducible repeat (first | refine blk_drewN ?_ _ | refine blk_drew ?_ | refine blk_alloc ?_ _)); refine blk_put (cs := #[.int .i64 t153, .int .i64 t154, .int .i64 t155, .int .i64 0, .int .i64 0, .string (⟨#[]⟩ : ByteArray), .string (⟨#[]⟩ : ByteArray), .string (⟨#[]⟩ : ByteArray)]) ?_ 3 _ rfl; (with_reducible repeat (first | refine blk_drewN ?_ _ | refine blk_drew ?_ | refine blk_alloc ?_ _)); refine blk_put (cs := #[.int .i64 t153, .int .i64 t154, .int .i64 0, .int .i64 0, .int .i64 0, .string (⟨#[]⟩ : ByteArray), .string (⟨#[]⟩ : ByteArray), .string (⟨#[]⟩ : ByteArray)]) ?_ 2 _ rfl; (with_reducible repeat (first | refine blk_drewN ?_ _ | refine blk_drew ?_ | refine blk_alloc ?_ _)); refine blk_put (cs := #[.int .i64 t153, .int .i64 0, .int .i64 0, .int .i64 0, .int .i64 0, .string (⟨#[]⟩ : ByteArray), .string (⟨#[]⟩ : ByteArray), .string (⟨#[]⟩ : ByteArray)]) ?_ 1 _ rfl; (with_reducible repeat (first | refine blk_drewN ?_ _ | refine blk_drew ?_ | refine blk_alloc ?_ _)); refine blk_put (cs := #[.int .i64 0, .int .i64 0, .int .i64 0, .int .i64 0, .int .i64 0, .string (⟨#[]⟩ : ByteArray), .string (⟨#[]⟩ : ByteArray), .string (⟨#[]⟩ : ByteArray)]) ?_ 0 _ rfl; (with_reducible repeat (first | refine blk_drewN ?_ _ | refine blk_drew ?_ | refine blk_alloc ?_ _)); exact BK163.out⟩, ⟨by repeat (first | (with_reducible first | exact HB.out | apply below_alloc | apply pw_below_drewN | apply below_drew1 | refine below_set ?_ GE135.out | refine below_set ?_ GE136.out | refine below_set ?_ GE152.out | refine below_set ?_ GE163.out) | exact HB.out)⟩⟩
              · rw [if_neg c44] at H
                have c44b0 : (t162 == 0) = false := beq_eq_false_iff_ne.mpr c44
                have c44b1 : (t162 != 0) = true := bne_iff_ne.mpr c44
                have H' := Aside0.mk H
                clear H
                go_wp2
                go_meet
                case rel => exact ⟨_, (true), (by first | rfl | (simp; done) | (simp [*]; done)), H', ⟨by have := HJ4.out; first | omega | exact Nat.le_refl _⟩, ⟨by (with_reducible repeat (first | refine blk_drewN ?_ _ | refine blk_drew ?_ | refine blk_alloc ?_ _)); refine blk_far ?_ NB135_163.out _; (with_reducible repeat (first | refine blk_drewN ?_ _ | refine blk_drew ?_ | refine blk_alloc ?_ _)); refine blk_far ?_ NB135_163.out _; (with_reducible repeat (first | refine blk_drewN ?_ _ | refine blk_drew ?_ | refine blk_alloc ?_ _)); refine blk_far ?_ NB135_163.out _; (with_reducible repeat (first | refine blk_drewN ?_ _ | refine blk_drew ?_ | refine blk_alloc ?_ _)); refine blk_far ?_ NB135_163.out _; (with_reducible repeat (first | refine blk_drewN ?_ _ | refine blk_drew ?_ | refine blk_alloc ?_ _)); refine blk_far ?_ NB135_163.out _; (with_reducible repeat (first | refine blk_drewN ?_ _ | refine blk_drew ?_ | refine blk_alloc ?_ _)); refine blk_far ?_ NB135_163.out _; (with_reducible repeat (first | refine blk_drewN ?_ _ | refine blk_drew ?_ | refine blk_alloc ?_ _)); refine blk_far ?_ NB135_163.out _; (with_reducible repeat (first | refine blk_drewN ?_ _ | refine blk_drew ?_ | refine blk_alloc ?_ _)); refine blk_far ?_ NB135_163.out _; (with_reducible repeat (first | refine blk_drewN ?_ _ | refine blk_drew ?_ | refine blk_alloc ?_ _)); exact BK135.out⟩, ⟨by (with_reducible repeat (first | refine blk_drewN ?_ _ | refine blk_drew ?_ | refine blk_alloc ?_ _)); refine blk_far ?_ NB136_163.out _; (with_reducible repeat (first | refine blk_drewN ?_ _ | refine blk_drew ?_ | refine blk_alloc ?_ _)); refine blk_far ?_ NB136_163.out _; (with_reducible repeat (first | refine blk_drewN ?_ _ | refine blk_drew ?_ | refine blk_alloc ?_ _)); refine blk_far ?_ NB136_163.out _; (with_reducible repeat (first | refine blk_drewN ?_ _ | refine blk_drew ?_ | refine blk_alloc ?_ _)); refine blk_far ?_ NB136_163.out _; (with_reducible repeat (first | refine blk_drewN ?_ _ | refine blk_drew ?_ | refine blk_alloc ?_ _)); refine blk_far ?_ NB136_163.out _; (with_reducible repeat (first | refine blk_drewN ?_ _ | refine blk_drew ?_ | refine blk_alloc ?_ _)); refine blk_far ?_ NB136_163.out _; (with_reducible repeat (first | refine blk_drewN ?_ _ | refine blk_drew ?_ | refine blk_alloc ?_ _)); refine blk_far ?_ NB136_163.out _; (with_reducible repeat (first | refine blk_drewN ?_ _ | refine blk_drew ?_ | refine blk_alloc ?_ _)); refine blk_far ?_ NB136_163.out _; (with_reducible repeat (first | refine blk_drewN ?_ _ | refine blk_drew ?_ | refine blk_alloc ?_ _)); exact BK136.out⟩, ⟨by (with_reducible repeat (first | refine blk_drewN ?_ _ | refine blk_drew ?_ | refine blk_alloc ?_ _)); refine blk_far ?_ NB152_163.out _; (with_reducible repeat (first | refine blk_drewN ?_ _ | refine blk_drew ?_ | refine blk_alloc ?_ _)); refine blk_far ?_ NB152_163.out _; (with_reducible repeat (first | refine blk_drewN ?_ _ | refine blk_drew ?_ | refine blk_alloc ?_ _)); refine blk_far ?_ NB152_163.out _; (with_reducible repeat (first | refine blk_drewN ?_ _ | refine blk_drew ?_ | refine blk_alloc ?_ _)); refine blk_far ?_ NB152_163.out _; (with_reducible repeat (first | refine blk_drewN ?_ _ | refine blk_drew ?_ | refine blk_alloc ?_ _)); refine blk_far ?_ NB152_163.out _; (with_reducible repeat (first | refine blk_drewN ?_ _ | refine blk_drew ?_ | refine blk_alloc ?_ _)); refine blk_far ?_ NB152_163.out _; (with_reducible repeat (first | refine blk_drewN ?_ _ | refine blk_drew ?_ | refine blk_alloc ?_ _)); refine blk_far ?_ NB152_163.out _; (with_reducible repeat (first | refine blk_drewN ?_ _ | refine blk_drew ?_ | refine blk_alloc ?_ _)); refine blk_far ?_ NB152_163.out _; (with_reducible repeat (first | refine blk_drewN ?_ _ | refine blk_drew ?_ | refine blk_alloc ?_ _)); exact BK152.out⟩, ⟨by (with_reducible repeat (first | refine blk_drewN ?_ _ | refine blk_drew ?_ | refine blk_alloc ?_ _)); refine blk_put (cs := #[.int .i64 t153, .int .i64 t154, .int .i64 t155, .int .i64 t156, .int .i64 t157, .string t158, .string t159, .string (⟨#[]⟩ : ByteArray)]) ?_ 7 _ rfl; (with_reducible repeat (first | refine blk_drewN ?_ _ | refine blk_drew ?_ | refine blk_alloc ?_ _)); refine blk_put (cs := #[.int .i64 t153, .int .i64 t154, .int .i64 t155, .int .i64 t156, .int .i64 t157, .string t158, .string (⟨#[]⟩ : ByteArray), .string (⟨#[]⟩ : ByteArray)]) ?_ 6 _ rfl; (with_reducible repeat (first | refine blk_drewN ?_ _ | refine blk_drew ?_ | refine blk_alloc ?_ _)); refine blk_put (cs := #[.int .i64 t153, .int .i64 t154, .int .i64 t155, .int .i64 t156, .int .i64 t157, .string (⟨#[]⟩ : ByteArray), .string (⟨#[]⟩ : ByteArray), .string (⟨#[]⟩ : ByteArray)]) ?_ 5 _ rfl; (with_reducible repeat (first | refine blk_drewN ?_ _ | refine blk_drew ?_ | refine blk_alloc ?_ _)); refine blk_put (cs := #[.int .i64 t153, .int .i64 t154, .int .i64 t155, .int .i64 t156, .int .i64 0, .string (⟨#[]⟩ : ByteArray), .string (⟨#[]⟩ : ByteArray), .string (⟨#[]⟩ : ByteArray)]) ?_ 4 _ rfl; (with_reducible repeat (first | refine blk_drewN ?_ _ | refine blk_drew ?_ | refine blk_alloc ?_ _)); refine blk_put (cs := #[.int .i64 t153, .int .i64 t154, .int .i64 t155, .int .i64 0, .int .i64 0, .string (⟨#[]⟩ : ByteArray), .string (⟨#[]⟩ : ByteArray), .string (⟨#[]⟩ : ByteArray)]) ?_ 3 _ rfl; (with_reducible repeat (first | refine blk_drewN ?_ _ | refine blk_drew ?_ | refine blk_alloc ?_ _)); refine blk_put (cs := #[.int .i64 t153, .int .i64 t154, .int .i64 0, .int .i64 0, .int .i64 0, .string (⟨#[]⟩ : ByteArray), .string (⟨#[]⟩ : ByteArray), .string (⟨#[]⟩ : ByteArray)]) ?_ 2 _ rfl; (with_reducible repeat (first | refine blk_drewN ?_ _ | refine blk_drew ?_ | refine blk_alloc ?_ _)); refine blk_put (cs := #[.int .i64 t153, .int .i64 0, .int .i64 0, .int .i64 0, .int .i64 0, .string (⟨#[]⟩ : ByteArray), .string (⟨#[]⟩ : ByteArray), .string (⟨#[]⟩ : ByteArray)]) ?_ 1 _ rfl; (with_reducible repeat (first | refine blk_drewN ?_ _ | refine blk_drew ?_ | refine blk_alloc ?_ _)); refine blk_put (cs := #[.int .i64 0, .int .i64 0, .int .i64 0, .int .i64 0, .int .i64 0, .string (⟨#[]⟩ : ByteArray), .string (⟨#[]⟩ : ByteArray), .string (⟨#[]⟩ : ByteArray)]) ?_ 0 _ rfl; (with_reducible repeat (first | refine blk_drewN ?_ _ | refine blk_drew ?_ | refine blk_alloc ?_ _)); exact BK163.out⟩, ⟨by repeat (first | (with_reducible first | exact HB.out | apply below_alloc | apply pw_below_drewN | apply below_drew1 | refine below_set ?_ GE135.out | refine below_set ?_ GE136.out | refine below_set ?_ GE152.out | refine below_set ?_ GE163.out) | exact HB.out)⟩⟩
            · rw [if_neg c43] at H
              have c43b0 : (t151 == 0) = false := beq_eq_false_iff_ne.mpr c43
              have c43b1 : (t151 != 0) = true := bne_iff_ne.mpr c43
              (first | rw [c43b0] | (simp only [i64_w, i32_w]; rw [c43b0]) | skip)
              have H' := Aside0.mk H
              clear H
              go_wp2
              go_meet
              case rel => exact ⟨_, (true), (by first | rfl | (simp; done) | (simp [*]; done)), H', ⟨by have := HJ4.out; first | omega | exact Nat.le_refl _⟩, ⟨by (with_reducible repeat (first | refine blk_drewN ?_ _ | refine blk_drew ?_ | refine blk_alloc ?_ _)); refine blk_far ?_ NB135_163.out _; (with_reducible repeat (first | refine blk_drewN ?_ _ | refine blk_drew ?_ | refine blk_alloc ?_ _)); refine blk_far ?_ NB135_163.out _; (with_reducible repeat (first | refine blk_drewN ?_ _ | refine blk_drew ?_ | refine blk_alloc ?_ _)); refine blk_far ?_ NB135_163.out _; (with_reducible repeat (first | refine blk_drewN ?_ _ | refine blk_drew ?_ | refine blk_alloc ?_ _)); refine blk_far ?_ NB135_163.out _; (with_reducible repeat (first | refine blk_drewN ?_ _ | refine blk_drew ?_ | refine blk_alloc ?_ _)); refine blk_far ?_ NB135_163.out _; (with_reducible repeat (first | refine blk_drewN ?_ _ | refine blk_drew ?_ | refine blk_alloc ?_ _)); refine blk_far ?_ NB135_163.out _; (with_reducible repeat (first | refine blk_drewN ?_ _ | refine blk_drew ?_ | refine blk_alloc ?_ _)); refine blk_far ?_ NB135_163.out _; (with_reducible repeat (first | refine blk_drewN ?_ _ | refine blk_drew ?_ | refine blk_alloc ?_ _)); refine blk_far ?_ NB135_163.out _; (with_reducible repeat (first | refine blk_drewN ?_ _ | refine blk_drew ?_ | refine blk_alloc ?_ _)); exact BK135.out⟩, ⟨by (with_reducible repeat (first | refine blk_drewN ?_ _ | refine blk_drew ?_ | refine blk_alloc ?_ _)); refine blk_far ?_ NB136_163.out _; (with_reducible repeat (first | refine blk_drewN ?_ _ | refine blk_drew ?_ | refine blk_alloc ?_ _)); refine blk_far ?_ NB136_163.out _; (with_reducible repeat (first | refine blk_drewN ?_ _ | refine blk_drew ?_ | refine blk_alloc ?_ _)); refine blk_far ?_ NB136_163.out _; (with_reducible repeat (first | refine blk_drewN ?_ _ | refine blk_drew ?_ | refine blk_alloc ?_ _)); refine blk_far ?_ NB136_163.out _; (with_reducible repeat (first | refine blk_drewN ?_ _ | refine blk_drew ?_ | refine blk_alloc ?_ _)); refine blk_far ?_ NB136_163.out _; (with_reducible repeat (first | refine blk_drewN ?_ _ | refine blk_drew ?_ | refine blk_alloc ?_ _)); refine blk_far ?_ NB136_163.out _; (with_reducible repeat (first | refine blk_drewN ?_ _ | refine blk_drew ?_ | refine blk_alloc ?_ _)); refine blk_far ?_ NB136_163.out _; (with_reducible repeat (first | refine blk_drewN ?_ _ | refine blk_drew ?_ | refine blk_alloc ?_ _)); refine blk_far ?_ NB136_163.out _; (with_reducible repeat (first | refine blk_drewN ?_ _ | refine blk_drew ?_ | refine blk_alloc ?_ _)); exact BK136.out⟩, ⟨by (with_reducible repeat (first | refine blk_drewN ?_ _ | refine blk_drew ?_ | refine blk_alloc ?_ _)); refine blk_far ?_ NB152_163.out _; (with_reducible repeat (first | refine blk_drewN ?_ _ | refine blk_drew ?_ | refine blk_alloc ?_ _)); refine blk_far ?_ NB152_163.out _; (with_reducible repeat (first | refine blk_drewN ?_ _ | refine blk_drew ?_ | refine blk_alloc ?_ _)); refine blk_far ?_ NB152_163.out _; (with_reducible repeat (first | refine blk_drewN ?_ _ | refine blk_drew ?_ | refine blk_alloc ?_ _)); refine blk_far ?_ NB152_163.out _; (with_reducible repeat (first | refine blk_drewN ?_ _ | refine blk_drew ?_ | refine blk_alloc ?_ _)); refine blk_far ?_ NB152_163.out _; (with_reducible repeat (first | refine blk_drewN ?_ _ | refine blk_drew ?_ | refine blk_alloc ?_ _)); refine blk_far ?_ NB152_163.out _; (with_reducible repeat (first | refine blk_drewN ?_ _ | refine blk_drew ?_ | refine blk_alloc ?_ _)); refine blk_far ?_ NB152_163.out _; (with_reducible repeat (first | refine blk_drewN ?_ _ | refine blk_drew ?_ | refine blk_alloc ?_ _)); refine blk_far ?_ NB152_163.out _; (with_reducible repeat (first | refine blk_drewN ?_ _ | refine blk_drew ?_ | refine blk_alloc ?_ _)); exact BK152.out⟩, ⟨by (with_reducible repeat (first | refine blk_drewN ?_ _ | refine blk_drew ?_ | refine blk_alloc ?_ _)); refine blk_put (cs := #[.int .i64 t153, .int .i64 t154, .int .i64 t155, .int .i64 t156, .int .i64 t157, .string t158, .string t159, .string (⟨#[]⟩ : ByteArray)]) ?_ 7 _ rfl; (with_reducible repeat (first | refine blk_drewN ?_ _ | refine blk_drew ?_ | refine blk_alloc ?_ _)); refine blk_put (cs := #[.int .i64 t153, .int .i64 t154, .int .i64 t155, .int .i64 t156, .int .i64 t157, .string t158, .string (⟨#[]⟩ : ByteArray), .string (⟨#[]⟩ : ByteArray)]) ?_ 6 _ rfl; (with_reducible repeat (first | refine blk_drewN ?_ _ | refine blk_drew ?_ | refine blk_alloc ?_ _)); refine blk_put (cs := #[.int .i64 t153, .int .i64 t154, .int .i64 t155, .int .i64 t156, .int .i64 t157, .string (⟨#[]⟩ : ByteArray), .string (⟨#[]⟩ : ByteArray), .string (⟨#[]⟩ : ByteArray)]) ?_ 5 _ rfl; (with_reducible repeat (first | refine blk_drewN ?_ _ | refine blk_drew ?_ | refine blk_alloc ?_ _)); refine blk_put (cs := #[.int .i64 t153, .int .i64 t154, .int .i64 t155, .int .i64 t156, .int .i64 0, .string (⟨#[]⟩ : ByteArray), .string (⟨#[]⟩ : ByteArray), .string (⟨#[]⟩ : ByteArray)]) ?_ 4 _ rfl; (with_reducible repeat (first | refine blk_drewN ?_ _ | refine blk_drew ?_ | refine blk_alloc ?_ _)); refine blk_put (cs := #[.int .i64 t153, .int .i64 t154, .int .i64 t155, .int .i64 0, .int .i64 0, .string (⟨#[]⟩ : ByteArray), .string (⟨#[]⟩ : ByteArray), .string (⟨#[]⟩ : ByteArray)]) ?_ 3 _ rfl; (with_reducible repeat (first | refine blk_drewN ?_ _ | refine blk_drew ?_ | refine blk_alloc ?_ _)); refine blk_put (cs := #[.int .i64 t153, .int .i64 t154, .int .i64 0, .int .i64 0, .int .i64 0, .string (⟨#[]⟩ : ByteArray), .string (⟨#[]⟩ : ByteArray), .string (⟨#[]⟩ : ByteArray)]) ?_ 2 _ rfl; (with_reducible repeat (first | refine blk_drewN ?_ _ | refine blk_drew ?_ | refine blk_alloc ?_ _)); refine blk_put (cs := #[.int .i64 t153, .int .i64 0, .int .i64 0, .int .i64 0, .int .i64 0, .string (⟨#[]⟩ : ByteArray), .string (⟨#[]⟩ : ByteArray), .string (⟨#[]⟩ : ByteArray)]) ?_ 1 _ rfl; (with_reducible repeat (first | refine blk_drewN ?_ _ | refine blk_drew ?_ | refine blk_alloc ?_ _)); refine blk_put (cs := #[.int .i64 0, .int .i64 0, .int .i64 0, .int .i64 0, .int .i64 0, .string (⟨#[]⟩ : ByteArray), .string (⟨#[]⟩ : ByteArray), .string (⟨#[]⟩ : ByteArray)]) ?_ 0 _ rfl; (with_reducible repeat (first | refine blk_drewN ?_ _ | refine blk_drew ?_ | refine blk_alloc ?_ _)); exact BK163.out⟩, ⟨by repeat (first | (with_reducible first | exact HB.out | apply below_alloc | apply pw_below_drewN | apply below_drew1 | refine below_set ?_ GE135.out | refine below_set ?_ GE136.out | refine below_set ?_ GE152.out | refine below_set ?_ GE163.out) | exact HB.out)⟩⟩
          case rest =>
            clear HC26
            try clear c1
            try clear c2
            try clear p2
            try clear c3
            try clear c4
            try clear c5
            try clear c6
            try clear c7
            try clear c10
            try clear c11
            try clear c12
            try clear c13
            try clear c17
            try clear c20
            try clear c23
            try clear c23b0
            try clear c23b1
            try clear c23b2
            try clear c27
            try clear c34
            try clear c35
            try clear c39
            try clear c40
            try clear c41
            try clear c43
            try clear c43b0
            try clear c43b1
            try clear c44
            try clear c44b0
            try clear c44b1
            try clear c45
            try clear c45b0
            try clear c46
            try clear c47
            try clear c48
            try clear c50
            try clear c51
            try clear c53
            try clear c53b0
            try clear c54
            try clear c55
            try clear c56
            try clear c58
            try clear c59
            try clear c61
            try clear c64
            try clear c65
            try clear c66
            try clear c68
            try clear c69
            try clear c71
            try clear hcz13_0
            try clear hcz13_1
            try clear hcz13_2
            try clear hcz13_3
            try clear hcz13_4
            try clear hcz13_5
            try clear hcz13_6
            try clear hcz13_7
            try clear hcz15_0
            try clear hcz15_1
            try clear hcz15_2
            try clear hcz15_3
            try clear hcz15_4
            try clear hcz15_5
            try clear hcz15_6
            try clear hcz15_7
            try clear hcz18_0
            try clear hcz18_1
            try clear hcz18_2
            try clear hcz18_3
            try clear hcz18_4
            try clear hcz18_5
            try clear hcz18_6
            try clear hcz18_7
            try clear hcz28_0
            try clear hcz28_1
            try clear hcz28_2
            try clear hcz28_3
            try clear hcz28_4
            try clear hcz28_5
            try clear hcz28_6
            try clear hcz28_7
            try clear hcz30_0
            try clear hcz30_1
            try clear hcz30_2
            try clear hcz30_3
            try clear hcz30_4
            try clear hcz30_5
            try clear hcz30_6
            try clear hcz30_7
            try clear hcz36_0
            try clear hcz36_1
            try clear hcz36_2
            try clear hcz36_3
            try clear hcz36_4
            try clear hcz36_5
            try clear hcz36_6
            try clear hcz36_7
            try clear hcz42_0
            try clear hcz42_1
            try clear hcz42_2
            try clear hcz42_3
            try clear hcz42_4
            try clear hcz42_5
            try clear hcz42_6
            try clear hcz42_7
            try clear hcz49_0
            try clear hcz49_1
            try clear hcz49_2
            try clear hcz49_3
            try clear hcz49_4
            try clear hcz49_5
            try clear hcz49_6
            try clear hcz49_7
            try clear hcz52_0
            try clear hcz52_1
            try clear hcz52_2
            try clear hcz52_3
            try clear hcz52_4
            try clear hcz52_5
            try clear hcz52_6
            try clear hcz52_7
            try clear hcz57_0
            try clear hcz57_1
            try clear hcz57_2
            try clear hcz57_3
            try clear hcz57_4
            try clear hcz57_5
            try clear hcz57_6
            try clear hcz57_7
            try clear hcz60_0
            try clear hcz60_1
            try clear hcz60_2
            try clear hcz60_3
            try clear hcz60_4
            try clear hcz60_5
            try clear hcz60_6
            try clear hcz60_7
            try clear hcz62_0
            try clear hcz62_1
            try clear hcz62_2
            try clear hcz62_3
            try clear hcz62_4
            try clear hcz62_5
            try clear hcz62_6
            try clear hcz62_7
            try clear hcz63_0
            try clear hcz63_1
            try clear hcz63_2
            try clear hcz63_3
            try clear hcz63_4
            try clear hcz63_5
            try clear hcz63_6
            try clear hcz63_7
            try clear hcz67_0
            try clear hcz67_1
            try clear hcz67_2
            try clear hcz67_3
            try clear hcz67_4
            try clear hcz67_5
            try clear hcz67_6
            try clear hcz67_7
            try clear hcz70_0
            try clear hcz70_1
            try clear hcz70_2
            try clear hcz70_3
            try clear hcz70_4
            try clear hcz70_5
            try clear hcz70_6
            try clear hcz70_7
            try clear hcz72_0
            try clear hcz72_1
            try clear hcz72_2
            try clear hcz72_3
            try clear hcz72_4
            try clear hcz72_5
            try clear hcz72_6
            try clear hcz72_7
            try clear hcz73_0
            try clear hcz73_1
            try clear hcz73_2
            try clear hcz73_3
            try clear hcz73_4
            try clear hcz73_5
            try clear hcz73_6
            try clear hcz73_7
            try clear hfz13_0
            try clear hfz13_1
            try clear hfz13_2
            try clear hfz13_3
            try clear hfz13_4
            try clear hfz13_5
            try clear hfz13_6
            try clear hfz13_7
            try clear hfz15_0
            try clear hfz15_1
            try clear hfz15_2
            try clear hfz15_3
            try clear hfz15_4
            try clear hfz15_5
            try clear hfz15_6
            try clear hfz15_7
            try clear hfz18_0
            try clear hfz18_1
            try clear hfz18_2
            try clear hfz18_3
            try clear hfz18_4
            try clear hfz18_5
            try clear hfz18_6
            try clear hfz18_7
            try clear hfz28_0
            try clear hfz28_1
            try clear hfz28_2
            try clear hfz28_3
            try clear hfz28_4
            try clear hfz28_5
            try clear hfz28_6
            try clear hfz28_7
            try clear hfz30_0
            try clear hfz30_1
            try clear hfz30_2
            try clear hfz30_3
            try clear hfz30_4
            try clear hfz30_5
            try clear hfz30_6
            try clear hfz30_7
            try clear hfz36_0
            try clear hfz36_1
            try clear hfz36_2
            try clear hfz36_3
            try clear hfz36_4
            try clear hfz36_5
            try clear hfz36_6
            try clear hfz36_7
            try clear hfz42_0
            try clear hfz42_1
            try clear hfz42_2
            try clear hfz42_3
            try clear hfz42_4
            try clear hfz42_5
            try clear hfz42_6
            try clear hfz42_7
            try clear hfz49_0
            try clear hfz49_1
            try clear hfz49_2
            try clear hfz49_3
            try clear hfz49_4
            try clear hfz49_5
            try clear hfz49_6
            try clear hfz49_7
            try clear hfz52_0
            try clear hfz52_1
            try clear hfz52_2
            try clear hfz52_3
            try clear hfz52_4
            try clear hfz52_5
            try clear hfz52_6
            try clear hfz52_7
            try clear hfz57_0
            try clear hfz57_1
            try clear hfz57_2
            try clear hfz57_3
            try clear hfz57_4
            try clear hfz57_5
            try clear hfz57_6
            try clear hfz57_7
            try clear hfz60_0
            try clear hfz60_1
            try clear hfz60_2
            try clear hfz60_3
            try clear hfz60_4
            try clear hfz60_5
            try clear hfz60_6
            try clear hfz60_7
            try clear hfz62_0
            try clear hfz62_1
            try clear hfz62_2
            try clear hfz62_3
            try clear hfz62_4
            try clear hfz62_5
            try clear hfz62_6
            try clear hfz62_7
            try clear hfz63_0
            try clear hfz63_1
            try clear hfz63_2
            try clear hfz63_3
            try clear hfz63_4
            try clear hfz63_5
            try clear hfz63_6
            try clear hfz63_7
            try clear hfz67_0
            try clear hfz67_1
            try clear hfz67_2
            try clear hfz67_3
            try clear hfz67_4
            try clear hfz67_5
            try clear hfz67_6
            try clear hfz67_7
            try clear hfz70_0
            try clear hfz70_1
            try clear hfz70_2
            try clear hfz70_3
            try clear hfz70_4
            try clear hfz70_5
            try clear hfz70_6
            try clear hfz70_7
            try clear hfz72_0
            try clear hfz72_1
            try clear hfz72_2
            try clear hfz72_3
            try clear hfz72_4
            try clear hfz72_5
            try clear hfz72_6
            try clear hfz72_7
            try clear hfz73_0
            try clear hfz73_1
            try clear hfz73_2
            try clear hfz73_3
            try clear hfz73_4
            try clear hfz73_5
            try clear hfz73_6
            try clear hfz73_7
            try clear p2
            obtain ⟨kq, x64_25, rfl, HA, HJ25, BK135, BK136, BK152, BK163, HB⟩ := hcut
            cases kq with
            | zero => exact absurd HA.out (by simp [copyholdlaw15_WireCalls.j1])
            | succ kj25 =>
              have H := HA.out
              clear HA
              simp only [copyholdlaw15_WireCalls.j1] at H
              by_cases c74 : x64_25 = true
              · subst c74
                have H1 : (some false) = some r := by rw [if_pos rfl] at H; exact H
                clear H
                have H := H1
                clear H1
                obtain rfl := Option.some.inj H
                go_wp2
                go_ret
                exact ⟨by first | rfl | (simp [errW_none, errW_some] <;> rfl) | (simp [*, errW_none, errW_some] <;> rfl), by repeat (first | (with_reducible first | exact HB.out | apply below_alloc | apply pw_below_drewN | apply below_drew1 | refine below_set ?_ GE135.out | refine below_set ?_ GE136.out | refine below_set ?_ GE152.out | refine below_set ?_ GE163.out) | exact HB.out)⟩
              · replace c74 := Bool.eq_false_iff.mpr c74
                subst c74
                have H1 : (if a2 < 0 then (some t137) else (if a2 ≥ (t140.size : Int) then (some t137) else (if 0 ≤ a2 then (if a2 ≤ (t140.size : Int) then ((wire_TakeCall.f (t140.extract 0 (a2 : Int).toNat)).bind fun bt164 => (if t137 = true then (some (bt164.2.2.2.2.2.2.2.2.2 == 2)) else (some false))) else (none)) else (none)))) = some r := by rw [if_neg (show ¬ (false = true) by decide)] at H; exact H
                clear H
                have H := H1
                clear H1
                by_cases c75 : a2 < 0
                · rw [if_pos c75] at H
                  have c75b0 : decide (a2 < 0) = true := decide_eq_true c75
                  clear c75
                  obtain rfl := Option.some.inj H
                  go_wp2
                  go_ret
                  exact ⟨by first | rfl | (simp [errW_none, errW_some] <;> rfl) | (simp [*, errW_none, errW_some] <;> rfl), by repeat (first | (with_reducible first | exact HB.out | apply below_alloc | apply pw_below_drewN | apply below_drew1 | refine below_set ?_ GE135.out | refine below_set ?_ GE136.out | refine below_set ?_ GE152.out | refine below_set ?_ GE163.out) | exact HB.out)⟩
                · rw [if_neg c75] at H
                  have c75b0 : decide (a2 < 0) = false := decide_eq_false c75
                  clear c75
                  by_cases c76 : a2 ≥ (t140.size : Int)
                  · rw [if_pos c76] at H
                    have c76b0 : decide ((t140.size : Int) ≤ a2) = true := decide_eq_true c76
                    clear c76
                    obtain rfl := Option.some.inj H
                    go_wp2
                    go_ret
                    exact ⟨by first | rfl | (simp [errW_none, errW_some] <;> rfl) | (simp [*, errW_none, errW_some] <;> rfl), by repeat (first | (with_reducible first | exact HB.out | apply below_alloc | apply pw_below_drewN | apply below_drew1 | refine below_set ?_ GE135.out | refine below_set ?_ GE136.out | refine below_set ?_ GE152.out | refine below_set ?_ GE163.out) | exact HB.out)⟩
                  · rw [if_neg c76] at H
                    have c76b0 : decide ((t140.size : Int) ≤ a2) = false := decide_eq_false c76
                    clear c76
                    by_cases c77 : 0 ≤ a2
                    · rw [if_pos c77] at H
                      have c77b0 := eq_true c77
                      have c77b1 : decide (0 ≤ a2) = true := decide_eq_true c77
                      clear c77
                      by_cases c78 : a2 ≤ (t140.size : Int)
                      · rw [if_pos c78] at H
                        have c78b0 := eq_true c78
                        have c78b1 : decide (a2 ≤ (t140.size : Int)) = true := decide_eq_true c78
                        clear c78
                        replace H := Option.bind_eq_some_iff.mp H
                        obtain ⟨⟨t164, t165, t166, t167, t168, t169, t170, t171, t172, t173⟩, A790, H⟩ := H
                        replace H : (if t137 = true then (some (t173 == 2)) else (some false)) = some r := H
                        have A79 := Aside0.mk A790
                        clear A790
                        by_cases c80 : t137 = true
                        · subst c80
                          have H1 : (some (t173 == 2)) = some r := by rw [if_pos rfl] at H; exact H
                          clear H
                          have H := H1
                          clear H1
                          obtain rfl := Option.some.inj H
                          go_wp2_with (first | ((with_reducible refine gate_callee (f := 13) rfl ?_); refine goesL_ (some 78) rfl rfl Try.func13 (by kernel_rfl) rfl #[.string (t140.extract 0 (a2 : Int).toNat)] rfl (by (try simp only [List.map_toArray, List.map_cons, List.map_nil]); first | done | rfl | (simp only [List.length_drop, List.length_take]; rfl)) ?_; (with_reducible refine (wire_TakeCall.calls (t140.extract 0 (a2 : Int).toNat) t164 t165 t166 t167 t168 t169 t170 t171 t172 t173 _ A79.out).mono ?_); rintro e w81 ⟨rfl, hb⟩; refine ⟨_, rfl, ?_⟩; have n0_ := Aside0.mk (blk_below (g := gb135) (o := .cells #[.int .i64 a0_0, .int .i64 a0_1, .int .i64 a0_2, .int .i64 a0_3, .int .i64 a0_4, .string a0_5, .string a0_6, .string a0_7] 23 (0, 0)) (by (with_reducible repeat (first | refine blk_drewN ?_ _ | refine blk_drew ?_ | refine blk_alloc ?_ _)); exact BK135.out) hb); have n1_ := Aside0.mk (blk_below (g := gb136) (o := .cells #[.int .i64 a1_0, .int .i64 a1_1, .int .i64 a1_2, .int .i64 a1_3, .int .i64 a1_4, .string a1_5, .string a1_6, .string a1_7] 23 (0, 0)) (by (with_reducible repeat (first | refine blk_drewN ?_ _ | refine blk_drew ?_ | refine blk_alloc ?_ _)); exact BK136.out) hb); have n2_ := Aside0.mk (blk_below (g := gb152) (o := .cells #[.int .i64 t142, .int .i64 t143, .int .i64 t144, .int .i64 t145, .int .i64 t146, .string t147, .string t148, .string t149] 23 (0, 0)) (by (with_reducible repeat (first | refine blk_drewN ?_ _ | refine blk_drew ?_ | refine blk_alloc ?_ _)); exact BK152.out) hb); have n3_ := Aside0.mk (blk_below (g := gb163) (o := .cells #[.int .i64 t153, .int .i64 t154, .int .i64 t155, .int .i64 t156, .int .i64 t157, .string t158, .string t159, .string t160] 23 (0, 0)) (by (with_reducible repeat (first | refine blk_drewN ?_ _ | refine blk_drew ?_ | refine blk_alloc ?_ _)); exact BK163.out) hb); have n4_ := Aside0.mk (below_step (by repeat (first | (with_reducible first | exact HB.out | apply below_alloc | apply pw_below_drewN | apply below_drew1 | refine below_set ?_ GE135.out | refine below_set ?_ GE136.out | refine below_set ?_ GE152.out | refine below_set ?_ GE163.out) | exact HB.out)) hb); clear BK135; clear BK136; clear BK152; clear BK163; clear HB; have BK135 := n0_; have BK136 := n1_; have BK152 := n2_; have BK163 := n3_; have HB := n4_; clear n0_ n1_ n2_ n3_ n4_; (try clear hb); (try clear hb2); (try clear hk); (try clear hi)) | ((with_reducible refine gate_dst (N := 15) rfl ?_); (try (refine gate_guard (by rfl) ?_; dsimp only)); refine box_event ?hg (N := 15) ?hd (cs := #[.int .i64 0, .int .i64 0, .int .i64 0, .int .i64 0, .int .i64 0, .string (⟨#[]⟩ : ByteArray), .string (⟨#[]⟩ : ByteArray), .string (⟨#[]⟩ : ByteArray)]) (t := 23) ?hr ?_; (case hd => rfl); (case hg => rfl); (case hr => first | (go_simp; done) | (go_simp; rfl)); intro gb174 hg w82 hbox hb; have n0_ := Aside0.mk (blk_below (g := gb135) (o := .cells #[.int .i64 a0_0, .int .i64 a0_1, .int .i64 a0_2, .int .i64 a0_3, .int .i64 a0_4, .string a0_5, .string a0_6, .string a0_7] 23 (0, 0)) (by (with_reducible repeat (first | refine blk_drewN ?_ _ | refine blk_drew ?_ | refine blk_alloc ?_ _)); exact BK135.out) hb); have n1_ := Aside0.mk (blk_below (g := gb136) (o := .cells #[.int .i64 a1_0, .int .i64 a1_1, .int .i64 a1_2, .int .i64 a1_3, .int .i64 a1_4, .string a1_5, .string a1_6, .string a1_7] 23 (0, 0)) (by (with_reducible repeat (first | refine blk_drewN ?_ _ | refine blk_drew ?_ | refine blk_alloc ?_ _)); exact BK136.out) hb); have n2_ := Aside0.mk (blk_below (g := gb152) (o := .cells #[.int .i64 t142, .int .i64 t143, .int .i64 t144, .int .i64 t145, .int .i64 t146, .string t147, .string t148, .string t149] 23 (0, 0)) (by (with_reducible repeat (first | refine blk_drewN ?_ _ | refine blk_drew ?_ | refine blk_alloc ?_ _)); exact BK152.out) hb); have n3_ := Aside0.mk (blk_below (g := gb163) (o := .cells #[.int .i64 t153, .int .i64 t154, .int .i64 t155, .int .i64 t156, .int .i64 t157, .string t158, .string t159, .string t160] 23 (0, 0)) (by (with_reducible repeat (first | refine blk_drewN ?_ _ | refine blk_drew ?_ | refine blk_alloc ?_ _)); exact BK163.out) hb); have n4_ := Aside0.mk (below_step (by repeat (first | (with_reducible first | exact HB.out | apply below_alloc | apply pw_below_drewN | apply below_drew1 | refine below_set ?_ GE135.out | refine below_set ?_ GE136.out | refine below_set ?_ GE152.out | refine below_set ?_ GE163.out) | exact HB.out)) hb); have n5_ := Aside0.mk (hbox); have n6_ := Aside0.mk ((by rw [hg]; exact (below_size (by repeat (first | (with_reducible first | exact HB.out | apply below_alloc | apply pw_below_drewN | apply below_drew1 | refine below_set ?_ GE135.out | refine below_set ?_ GE136.out | refine below_set ?_ GE152.out | refine below_set ?_ GE163.out) | exact HB.out))) : w.heap.size ≤ gb174)); have n7_ := Aside0.mk ((by rw [hg]; exact (below_size (by repeat (first | (with_reducible first | exact HB.out | apply below_alloc | apply pw_below_drewN | apply below_drew1 | refine below_set ?_ GE135.out | refine below_set ?_ GE136.out | refine below_set ?_ GE152.out | refine below_set ?_ GE163.out) | exact HB.out))) : w.heap.size ≤ gb174)); have n8_ := Aside0.mk ((by rw [hg]; exact Nat.ne_of_lt (blk_lt (g := gb135) (o := .cells #[.int .i64 a0_0, .int .i64 a0_1, .int .i64 a0_2, .int .i64 a0_3, .int .i64 a0_4, .string a0_5, .string a0_6, .string a0_7] 23 (0, 0)) (by (with_reducible repeat (first | refine blk_drewN ?_ _ | refine blk_drew ?_ | refine blk_alloc ?_ _)); exact BK135.out)) : gb135 ≠ gb174)); have n9_ := Aside0.mk ((by rw [hg]; exact Nat.ne_of_gt (blk_lt (g := gb135) (o := .cells #[.int .i64 a0_0, .int .i64 a0_1, .int .i64 a0_2, .int .i64 a0_3, .int .i64 a0_4, .string a0_5, .string a0_6, .string a0_7] 23 (0, 0)) (by (with_reducible repeat (first | refine blk_drewN ?_ _ | refine blk_drew ?_ | refine blk_alloc ?_ _)); exact BK135.out)) : gb174 ≠ gb135)); have n10_ := Aside0.mk ((by rw [hg]; exact Nat.ne_of_lt (blk_lt (g := gb136) (o := .cells #[.int .i64 a1_0, .int .i64 a1_1, .int .i64 a1_2, .int .i64 a1_3, .int .i64 a1_4, .string a1_5, .string a1_6, .string a1_7] 23 (0, 0)) (by (with_reducible repeat (first | refine blk_drewN ?_ _ | refine blk_drew ?_ | refine blk_alloc ?_ _)); exact BK136.out)) : gb136 ≠ gb174)); have n11_ := Aside0.mk ((by rw [hg]; exact Nat.ne_of_gt (blk_lt (g := gb136) (o := .cells #[.int .i64 a1_0, .int .i64 a1_1, .int .i64 a1_2, .int .i64 a1_3, .int .i64 a1_4, .string a1_5, .string a1_6, .string a1_7] 23 (0, 0)) (by (with_reducible repeat (first | refine blk_drewN ?_ _ | refine blk_drew ?_ | refine blk_alloc ?_ _)); exact BK136.out)) : gb174 ≠ gb136)); have n12_ := Aside0.mk ((by rw [hg]; exact Nat.ne_of_lt (blk_lt (g := gb152) (o := .cells #[.int .i64 t142, .int .i64 t143, .int .i64 t144, .int .i64 t145, .int .i64 t146, .string t147, .string t148, .string t149] 23 (0, 0)) (by (with_reducible repeat (first | refine blk_drewN ?_ _ | refine blk_drew ?_ | refine blk_alloc ?_ _)); exact BK152.out)) : gb152 ≠ gb174)); have n13_ := Aside0.mk ((by rw [hg]; exact Nat.ne_of_gt (blk_lt (g := gb152) (o := .cells #[.int .i64 t142, .int .i64 t143, .int .i64 t144, .int .i64 t145, .int .i64 t146, .string t147, .string t148, .string t149] 23 (0, 0)) (by (with_reducible repeat (first | refine blk_drewN ?_ _ | refine blk_drew ?_ | refine blk_alloc ?_ _)); exact BK152.out)) : gb174 ≠ gb152)); have n14_ := Aside0.mk ((by rw [hg]; exact Nat.ne_of_lt (blk_lt (g := gb163) (o := .cells #[.int .i64 t153, .int .i64 t154, .int .i64 t155, .int .i64 t156, .int .i64 t157, .string t158, .string t159, .string t160] 23 (0, 0)) (by (with_reducible repeat (first | refine blk_drewN ?_ _ | refine blk_drew ?_ | refine blk_alloc ?_ _)); exact BK163.out)) : gb163 ≠ gb174)); have n15_ := Aside0.mk ((by rw [hg]; exact Nat.ne_of_gt (blk_lt (g := gb163) (o := .cells #[.int .i64 t153, .int .i64 t154, .int .i64 t155, .int .i64 t156, .int .i64 t157, .string t158, .string t159, .string t160] 23 (0, 0)) (by (with_reducible repeat (first | refine blk_drewN ?_ _ | refine blk_drew ?_ | refine blk_alloc ?_ _)); exact BK163.out)) : gb174 ≠ gb163)); clear BK135; clear BK136; clear BK152; clear BK163; clear HB; have BK135 := n0_; have BK136 := n1_; have BK152 := n2_; have BK163 := n3_; have HB := n4_; have BK174 := n5_; have GW174 := n6_; have GE174 := n7_; have NB135_174 := n8_; have NB174_135 := n9_; have NB136_174 := n10_; have NB174_136 := n11_; have NB152_174 := n12_; have NB174_152 := n13_; have NB163_174 := n14_; have NB174_163 := n15_; clear n0_ n1_ n2_ n3_ n4_ n5_ n6_ n7_ n8_ n9_ n10_ n11_ n12_ n13_ n14_ n15_; clear hb hbox hg; have hnb83 := NB174_135.out; have hnc83 := NB135_174.out; have hnb84 := NB174_136.out; have hnc84 := NB136_174.out; have hnb85 := NB174_152.out; have hnc85 := NB152_174.out; have hnb86 := NB174_163.out; have hnc86 := NB163_174.out; have hcz87_0 : w82.cell? ⟨gb174, 0, none⟩ = some (.int .i64 0) := (blk_cell BK174.out 0).trans rfl; have hcz87_1 : w82.cell? ⟨gb174, 1, none⟩ = some (.int .i64 0) := (blk_cell BK174.out 1).trans rfl; have hcz87_2 : w82.cell? ⟨gb174, 2, none⟩ = some (.int .i64 0) := (blk_cell BK174.out 2).trans rfl; have hcz87_3 : w82.cell? ⟨gb174, 3, none⟩ = some (.int .i64 0) := (blk_cell BK174.out 3).trans rfl; have hcz87_4 : w82.cell? ⟨gb174, 4, none⟩ = some (.int .i64 0) := (blk_cell BK174.out 4).trans rfl; have hcz87_5 : w82.cell? ⟨gb174, 5, none⟩ = some (.string (⟨#[]⟩ : ByteArray)) := (blk_cell BK174.out 5).trans rfl; have hcz87_6 : w82.cell? ⟨gb174, 6, none⟩ = some (.string (⟨#[]⟩ : ByteArray)) := (blk_cell BK174.out 6).trans rfl; have hcz87_7 : w82.cell? ⟨gb174, 7, none⟩ = some (.string (⟨#[]⟩ : ByteArray)) := (blk_cell BK174.out 7).trans rfl; have hfz87_0 := blk_frozen BK174.out 0; have hfz87_1 := blk_frozen BK174.out 1; have hfz87_2 := blk_frozen BK174.out 2; have hfz87_3 := blk_frozen BK174.out 3; have hfz87_4 := blk_frozen BK174.out 4; have hfz87_5 := blk_frozen BK174.out 5; have hfz87_6 := blk_frozen BK174.out 6; have hfz87_7 := blk_frozen BK174.out 7))
                          go_ret
                          exact ⟨by first | rfl | (simp [errW_none, errW_some] <;> rfl) | (simp [*, errW_none, errW_some] <;> rfl), by repeat (first | (with_reducible first | exact HB.out | apply below_alloc | apply pw_below_drewN | apply below_drew1 | refine below_set ?_ GE135.out | refine below_set ?_ GE136.out | refine below_set ?_ GE152.out | refine below_set ?_ GE163.out | refine below_set ?_ GE174.out) | exact HB.out)⟩
                        · replace c80 := Bool.eq_false_iff.mpr c80
                          subst c80
                          have H1 : (some false) = some r := by rw [if_neg (show ¬ (false = true) by decide)] at H; exact H
                          clear H
                          have H := H1
                          clear H1
                          obtain rfl := Option.some.inj H
                          go_wp2_with (first | ((with_reducible refine gate_callee (f := 13) rfl ?_); refine goesL_ (some 78) rfl rfl Try.func13 (by kernel_rfl) rfl #[.string (t140.extract 0 (a2 : Int).toNat)] rfl (by (try simp only [List.map_toArray, List.map_cons, List.map_nil]); first | done | rfl | (simp only [List.length_drop, List.length_take]; rfl)) ?_; (with_reducible refine (wire_TakeCall.calls (t140.extract 0 (a2 : Int).toNat) t164 t165 t166 t167 t168 t169 t170 t171 t172 t173 _ A79.out).mono ?_); rintro e w88 ⟨rfl, hb⟩; refine ⟨_, rfl, ?_⟩; have n0_ := Aside0.mk (blk_below (g := gb135) (o := .cells #[.int .i64 a0_0, .int .i64 a0_1, .int .i64 a0_2, .int .i64 a0_3, .int .i64 a0_4, .string a0_5, .string a0_6, .string a0_7] 23 (0, 0)) (by (with_reducible repeat (first | refine blk_drewN ?_ _ | refine blk_drew ?_ | refine blk_alloc ?_ _)); exact BK135.out) hb); have n1_ := Aside0.mk (blk_below (g := gb136) (o := .cells #[.int .i64 a1_0, .int .i64 a1_1, .int .i64 a1_2, .int .i64 a1_3, .int .i64 a1_4, .string a1_5, .string a1_6, .string a1_7] 23 (0, 0)) (by (with_reducible repeat (first | refine blk_drewN ?_ _ | refine blk_drew ?_ | refine blk_alloc ?_ _)); exact BK136.out) hb); have n2_ := Aside0.mk (blk_below (g := gb152) (o := .cells #[.int .i64 t142, .int .i64 t143, .int .i64 t144, .int .i64 t145, .int .i64 t146, .string t147, .string t148, .string t149] 23 (0, 0)) (by (with_reducible repeat (first | refine blk_drewN ?_ _ | refine blk_drew ?_ | refine blk_alloc ?_ _)); exact BK152.out) hb); have n3_ := Aside0.mk (blk_below (g := gb163) (o := .cells #[.int .i64 t153, .int .i64 t154, .int .i64 t155, .int .i64 t156, .int .i64 t157, .string t158, .string t159, .string t160] 23 (0, 0)) (by (with_reducible repeat (first | refine blk_drewN ?_ _ | refine blk_drew ?_ | refine blk_alloc ?_ _)); exact BK163.out) hb); have n4_ := Aside0.mk (below_step (by repeat (first | (with_reducible first | exact HB.out | apply below_alloc | apply pw_below_drewN | apply below_drew1 | refine below_set ?_ GE135.out | refine below_set ?_ GE136.out | refine below_set ?_ GE152.out | refine below_set ?_ GE163.out) | exact HB.out)) hb); clear BK135; clear BK136; clear BK152; clear BK163; clear HB; have BK135 := n0_; have BK136 := n1_; have BK152 := n2_; have BK163 := n3_; have HB := n4_; clear n0_ n1_ n2_ n3_ n4_; (try clear hb); (try clear hb2); (try clear hk); (try clear hi)) | ((with_reducible refine gate_dst (N := 15) rfl ?_); (try (refine gate_guard (by rfl) ?_; dsimp only)); refine box_event ?hg (N := 15) ?hd (cs := #[.int .i64 0, .int .i64 0, .int .i64 0, .int .i64 0, .int .i64 0, .string (⟨#[]⟩ : ByteArray), .string (⟨#[]⟩ : ByteArray), .string (⟨#[]⟩ : ByteArray)]) (t := 23) ?hr ?_; (case hd => rfl); (case hg => rfl); (case hr => first | (go_simp; done) | (go_simp; rfl)); intro gb174 hg w89 hbox hb; have n0_ := Aside0.mk (blk_below (g := gb135) (o := .cells #[.int .i64 a0_0, .int .i64 a0_1, .int .i64 a0_2, .int .i64 a0_3, .int .i64 a0_4, .string a0_5, .string a0_6, .string a0_7] 23 (0, 0)) (by (with_reducible repeat (first | refine blk_drewN ?_ _ | refine blk_drew ?_ | refine blk_alloc ?_ _)); exact BK135.out) hb); have n1_ := Aside0.mk (blk_below (g := gb136) (o := .cells #[.int .i64 a1_0, .int .i64 a1_1, .int .i64 a1_2, .int .i64 a1_3, .int .i64 a1_4, .string a1_5, .string a1_6, .string a1_7] 23 (0, 0)) (by (with_reducible repeat (first | refine blk_drewN ?_ _ | refine blk_drew ?_ | refine blk_alloc ?_ _)); exact BK136.out) hb); have n2_ := Aside0.mk (blk_below (g := gb152) (o := .cells #[.int .i64 t142, .int .i64 t143, .int .i64 t144, .int .i64 t145, .int .i64 t146, .string t147, .string t148, .string t149] 23 (0, 0)) (by (with_reducible repeat (first | refine blk_drewN ?_ _ | refine blk_drew ?_ | refine blk_alloc ?_ _)); exact BK152.out) hb); have n3_ := Aside0.mk (blk_below (g := gb163) (o := .cells #[.int .i64 t153, .int .i64 t154, .int .i64 t155, .int .i64 t156, .int .i64 t157, .string t158, .string t159, .string t160] 23 (0, 0)) (by (with_reducible repeat (first | refine blk_drewN ?_ _ | refine blk_drew ?_ | refine blk_alloc ?_ _)); exact BK163.out) hb); have n4_ := Aside0.mk (below_step (by repeat (first | (with_reducible first | exact HB.out | apply below_alloc | apply pw_below_drewN | apply below_drew1 | refine below_set ?_ GE135.out | refine below_set ?_ GE136.out | refine below_set ?_ GE152.out | refine below_set ?_ GE163.out) | exact HB.out)) hb); have n5_ := Aside0.mk (hbox); have n6_ := Aside0.mk ((by rw [hg]; exact (below_size (by repeat (first | (with_reducible first | exact HB.out | apply below_alloc | apply pw_below_drewN | apply below_drew1 | refine below_set ?_ GE135.out | refine below_set ?_ GE136.out | refine below_set ?_ GE152.out | refine below_set ?_ GE163.out) | exact HB.out))) : w.heap.size ≤ gb174)); have n7_ := Aside0.mk ((by rw [hg]; exact (below_size (by repeat (first | (with_reducible first | exact HB.out | apply below_alloc | apply pw_below_drewN | apply below_drew1 | refine below_set ?_ GE135.out | refine below_set ?_ GE136.out | refine below_set ?_ GE152.out | refine below_set ?_ GE163.out) | exact HB.out))) : w.heap.size ≤ gb174)); have n8_ := Aside0.mk ((by rw [hg]; exact Nat.ne_of_lt (blk_lt (g := gb135) (o := .cells #[.int .i64 a0_0, .int .i64 a0_1, .int .i64 a0_2, .int .i64 a0_3, .int .i64 a0_4, .string a0_5, .string a0_6, .string a0_7] 23 (0, 0)) (by (with_reducible repeat (first | refine blk_drewN ?_ _ | refine blk_drew ?_ | refine blk_alloc ?_ _)); exact BK135.out)) : gb135 ≠ gb174)); have n9_ := Aside0.mk ((by rw [hg]; exact Nat.ne_of_gt (blk_lt (g := gb135) (o := .cells #[.int .i64 a0_0, .int .i64 a0_1, .int .i64 a0_2, .int .i64 a0_3, .int .i64 a0_4, .string a0_5, .string a0_6, .string a0_7] 23 (0, 0)) (by (with_reducible repeat (first | refine blk_drewN ?_ _ | refine blk_drew ?_ | refine blk_alloc ?_ _)); exact BK135.out)) : gb174 ≠ gb135)); have n10_ := Aside0.mk ((by rw [hg]; exact Nat.ne_of_lt (blk_lt (g := gb136) (o := .cells #[.int .i64 a1_0, .int .i64 a1_1, .int .i64 a1_2, .int .i64 a1_3, .int .i64 a1_4, .string a1_5, .string a1_6, .string a1_7] 23 (0, 0)) (by (with_reducible repeat (first | refine blk_drewN ?_ _ | refine blk_drew ?_ | refine blk_alloc ?_ _)); exact BK136.out)) : gb136 ≠ gb174)); have n11_ := Aside0.mk ((by rw [hg]; exact Nat.ne_of_gt (blk_lt (g := gb136) (o := .cells #[.int .i64 a1_0, .int .i64 a1_1, .int .i64 a1_2, .int .i64 a1_3, .int .i64 a1_4, .string a1_5, .string a1_6, .string a1_7] 23 (0, 0)) (by (with_reducible repeat (first | refine blk_drewN ?_ _ | refine blk_drew ?_ | refine blk_alloc ?_ _)); exact BK136.out)) : gb174 ≠ gb136)); have n12_ := Aside0.mk ((by rw [hg]; exact Nat.ne_of_lt (blk_lt (g := gb152) (o := .cells #[.int .i64 t142, .int .i64 t143, .int .i64 t144, .int .i64 t145, .int .i64 t146, .string t147, .string t148, .string t149] 23 (0, 0)) (by (with_reducible repeat (first | refine blk_drewN ?_ _ | refine blk_drew ?_ | refine blk_alloc ?_ _)); exact BK152.out)) : gb152 ≠ gb174)); have n13_ := Aside0.mk ((by rw [hg]; exact Nat.ne_of_gt (blk_lt (g := gb152) (o := .cells #[.int .i64 t142, .int .i64 t143, .int .i64 t144, .int .i64 t145, .int .i64 t146, .string t147, .string t148, .string t149] 23 (0, 0)) (by (with_reducible repeat (first | refine blk_drewN ?_ _ | refine blk_drew ?_ | refine blk_alloc ?_ _)); exact BK152.out)) : gb174 ≠ gb152)); have n14_ := Aside0.mk ((by rw [hg]; exact Nat.ne_of_lt (blk_lt (g := gb163) (o := .cells #[.int .i64 t153, .int .i64 t154, .int .i64 t155, .int .i64 t156, .int .i64 t157, .string t158, .string t159, .string t160] 23 (0, 0)) (by (with_reducible repeat (first | refine blk_drewN ?_ _ | refine blk_drew ?_ | refine blk_alloc ?_ _)); exact BK163.out)) : gb163 ≠ gb174)); have n15_ := Aside0.mk ((by rw [hg]; exact Nat.ne_of_gt (blk_lt (g := gb163) (o := .cells #[.int .i64 t153, .int .i64 t154, .int .i64 t155, .int .i64 t156, .int .i64 t157, .string t158, .string t159, .string t160] 23 (0, 0)) (by (with_reducible repeat (first | refine blk_drewN ?_ _ | refine blk_drew ?_ | refine blk_alloc ?_ _)); exact BK163.out)) : gb174 ≠ gb163)); clear BK135; clear BK136; clear BK152; clear BK163; clear HB; have BK135 := n0_; have BK136 := n1_; have BK152 := n2_; have BK163 := n3_; have HB := n4_; have BK174 := n5_; have GW174 := n6_; have GE174 := n7_; have NB135_174 := n8_; have NB174_135 := n9_; have NB136_174 := n10_; have NB174_136 := n11_; have NB152_174 := n12_; have NB174_152 := n13_; have NB163_174 := n14_; have NB174_163 := n15_; clear n0_ n1_ n2_ n3_ n4_ n5_ n6_ n7_ n8_ n9_ n10_ n11_ n12_ n13_ n14_ n15_; clear hb hbox hg; have hnb90 := NB174_135.out; have hnc90 := NB135_174.out; have hnb91 := NB174_136.out; have hnc91 := NB136_174.out; have hnb92 := NB174_152.out; have hnc92 := NB152_174.out; have hnb93 := NB174_163.out; have hnc93 := NB163_174.out; have hcz94_0 : w89.cell? ⟨gb174, 0, none⟩ = some (.int .i64 0) := (blk_cell BK174.out 0).trans rfl; have hcz94_1 : w89.cell? ⟨gb174, 1, none⟩ = some (.int .i64 0) := (blk_cell BK174.out 1).trans rfl; have hcz94_2 : w89.cell? ⟨gb174, 2, none⟩ = some (.int .i64 0) := (blk_cell BK174.out 2).trans rfl; have hcz94_3 : w89.cell? ⟨gb174, 3, none⟩ = some (.int .i64 0) := (blk_cell BK174.out 3).trans rfl; have hcz94_4 : w89.cell? ⟨gb174, 4, none⟩ = some (.int .i64 0) := (blk_cell BK174.out 4).trans rfl; have hcz94_5 : w89.cell? ⟨gb174, 5, none⟩ = some (.string (⟨#[]⟩ : ByteArray)) := (blk_cell BK174.out 5).trans rfl; have hcz94_6 : w89.cell? ⟨gb174, 6, none⟩ = some (.string (⟨#[]⟩ : ByteArray)) := (blk_cell BK174.out 6).trans rfl; have hcz94_7 : w89.cell? ⟨gb174, 7, none⟩ = some (.string (⟨#[]⟩ : ByteArray)) := (blk_cell BK174.out 7).trans rfl; have hfz94_0 := blk_frozen BK174.out 0; have hfz94_1 := blk_frozen BK174.out 1; have hfz94_2 := blk_frozen BK174.out 2; have hfz94_3 := blk_frozen BK174.out 3; have hfz94_4 := blk_frozen BK174.out 4; have hfz94_5 := blk_frozen BK174.out 5; have hfz94_6 := blk_frozen BK174.out 6; have hfz94_7 := blk_frozen BK174.out 7))
                          go_ret
                          exact ⟨by first | rfl | (simp [errW_none, errW_some] <;> rfl) | (simp [*, errW_none, errW_some] <;> rfl), by repeat (first | (with_reducible first | exact HB.out | apply below_alloc | apply pw_below_drewN | apply below_drew1 | refine below_set ?_ GE135.out | refine below_set ?_ GE136.out | refine below_set ?_ GE152.out | refine below_set ?_ GE163.out | refine below_set ?_ GE174.out) | exact HB.out)⟩
                      · rw [if_neg c78] at H
                        exact absurd H (by simp)
                    · rw [if_neg c77] at H
                      exact absurd H (by simp)
        · rw [if_neg c23] at H
          exact absurd H (by simp)

end Go.Proofs.Ytgnmhbkialgeaaa.Q
end

section
/- How an argument of any plain type (numbers, bools, texts, slices, structs, nested) is opened: what it reads as, by its kind; its sizes; its bulk. -/
set_option linter.unusedVariables false
set_option linter.unusedSimpArgs false
namespace Go.Proofs.Ytgnmhbkialgeaaa.Opn
open Go.Proofs.YtgnmhbkialgeaaaW.PrintWords

theorem mapM_some {α β : Type} {f : α → Option β} : ∀ {l : List α} {ys : List β}, l.mapM f = some ys → ys.length = l.length ∧ ∀ i (h : i < l.length) (h2 : i < ys.length), f l[i] = some ys[i] := by
  intro l
  induction l with
  | nil => intro ys h; simp at h; subst h; exact ⟨rfl, fun i h => by cases h⟩
  | cons a l ih =>
    intro ys h
    rw [List.mapM_cons] at h
    simp only [Option.bind_eq_bind, Option.bind_eq_some_iff] at h
    obtain ⟨y, h1, ys', h2, h3⟩ := h
    simp at h3; subst h3
    obtain ⟨hl, hi⟩ := ih h2
    refine ⟨by simp [hl], fun i h h2 => ?_⟩
    cases i with
    | zero => exact h1
    | succ i => exact hi i (by simpa using h) (by simpa using h2)
theorem choose_list {α : Type} {n : Nat} {R : Nat → α → Prop} (h : ∀ i, i < n → ∃ x, R i x) : ∃ xs : List α, xs.length = n ∧ ∀ i (hi : i < xs.length), R i xs[i] := by
  induction n with
  | zero => exact ⟨[], rfl, fun i hi => by cases hi⟩
  | succ n ih =>
    obtain ⟨xs, hl, hx⟩ := ih (fun i hi => h i (by omega))
    obtain ⟨x, hx'⟩ := h n (by omega)
    refine ⟨xs ++ [x], by simp [hl], fun i hi => ?_⟩
    by_cases hin : i < xs.length
    · rw [List.getElem_append_left hin]; exact hx i hin
    · have : i = n := by simp [hl] at hi; omega
      subst this
      rw [List.getElem_append_right (by omega)]
      simpa [hl] using hx'

structure Opens {H : Type} (enc : TypeId × Value → H) (P : Program) (w : World) (t : TypeId) {α : Type} (K : Kd α) (G : α → Prop) (b : α → Nat) : Prop where
  sz : P.cellsOf t = K.sz
  open_ : ∀ fuel cs (d : DataW H) ps, DataW.trod enc P w 0 (fun _ => true) true fuel t cs = some (d, ps) → ∃ x, K.K w x cs ∧ ((∀ n ∈ d.weights P t, n ≤ reachBytes) → G x) ∧ b x ≤ Rows.uptoBulk d

section
variable {H : Type} {enc : TypeId × Value → H} {P : Program} {w : World}

theorem opens_int {t : TypeId} {k : IntKind} (hu : P.underlying t = some (.int k)) (hs : P.cellsOf t = 1) : Opens enc P w t (Kd.int k) (fun x => (Lit.int k x).wf = true) (fun _ => 1) := by
  refine ⟨hs, fun fuel cs d ps h => ?_⟩
  obtain ⟨n, rfl, hx, hw⟩ := DataW.trod_int hu h
  obtain ⟨rfl, rfl⟩ := Prod.mk.inj hx
  exact ⟨n, rfl, fun _ => hw, by simp [Rows.uptoBulk]⟩
theorem opens_bool {t : TypeId} (hu : P.underlying t = some .bool) (hs : P.cellsOf t = 1) : Opens enc P w t Kd.bool (fun _ => True) (fun _ => 1) := by
  refine ⟨hs, fun fuel cs d ps h => ?_⟩
  obtain ⟨b, rfl, hx⟩ := DataW.trod_bool hu h
  obtain ⟨rfl, rfl⟩ := Prod.mk.inj hx
  exact ⟨b, rfl, fun _ => trivial, by simp [Rows.uptoBulk]⟩
theorem opens_string {t : TypeId} (hu : P.underlying t = some .string) (hs : P.cellsOf t = 1) : Opens enc P w t Kd.string (fun x => x.size ≤ reachBytes) (fun x => x.size + 1) := by
  refine ⟨hs, fun fuel cs d ps h => ?_⟩
  obtain ⟨s, rfl, hx, _⟩ := DataW.trod_string hu h
  obtain ⟨rfl, rfl⟩ := Prod.mk.inj hx
  refine ⟨s, rfl, fun hw => ?_, ?_⟩
  · have := hw s.data.toList.length (by simp [DataW.weights])
    rw [Array.length_toList] at this; exact this
  · simp only [Rows.uptoBulk, Array.length_toList]; exact Nat.le_refl _
theorem bulk_all {α : Type} {b : α → Nat} : ∀ (xs : List α) (ds : List (DataW H)), xs.length = ds.length → (∀ i (h : i < xs.length) (h2 : i < ds.length), b xs[i] ≤ Rows.uptoBulk ds[i]) → (xs.map b).sum ≤ Rows.uptoBulkAll ds := by
  intro xs
  induction xs with
  | nil => intro ds hl _; simp
  | cons x xs ih =>
    intro ds hl h
    cases ds with
    | nil => cases hl
    | cons d ds =>
      have h0 := h 0 (by simp) (by simp)
      have h1 := ih ds (by simpa using hl) (fun i hi h2 => h (i + 1) (by simpa using hi) (by simpa using h2))
      simp only [List.map_cons, List.sum_cons, Rows.uptoBulkAll, List.getElem_cons_zero] at h0 ⊢
      omega
theorem weights_all {e : TypeId} {ds : List (DataW H)} {d : DataW H} (h : d ∈ ds) : ∀ n ∈ d.weights P e, n ∈ DataW.weightsAll P e ds := by
  induction ds with
  | nil => cases h
  | cons x ds ih =>
    intro n hn
    rw [DataW.weightsAll]
    rcases List.mem_cons.1 h with rfl | h
    · exact List.mem_append_left _ hn
    · exact List.mem_append_right _ (ih h n hn)
theorem opens_slice {t e : TypeId} {α : Type} {K : Kd α} {G : α → Prop} {b : α → Nat} (hu : P.underlying t = some (.slice e)) (hs : P.cellsOf t = 1) (ho : Opens enc P w e K G b) :
    Opens enc P w t (Kd.slice e K) (fun xs => xs.length * P.bytesOf e ≤ reachBytes ∧ ∀ x ∈ xs, G x) (fun xs => (xs.map b).sum + 1) := by
  refine ⟨hs, fun fuel cs d ps h => ?_⟩
  cases fuel with
  | zero => simp [DataW.trod] at h
  | succ fuel =>
    unfold DataW.trod at h
    rw [hu] at h
    split at h <;> try (simp_all; done)
    · rename_i h1
      simp at h
      obtain ⟨rfl, rfl⟩ := h
      refine ⟨[], ⟨none, 0, rfl, Nat.le_refl _, rfl, by simp, fun h => by simp at h⟩, fun _ => ⟨by simp, by simp⟩, by simp [Rows.uptoBulk]⟩
    · rename_i e' a len cap h1
      obtain rfl : e = e' := by simpa using h1
      dsimp only at h
      split at h
      · rename_i hc
        simp only [Option.bind_eq_some_iff, Option.map_eq_some_iff] at h
        obtain ⟨elems, he, rest, hr, h⟩ := h
        simp only [Prod.mk.injEq] at h
        obtain ⟨rfl, rfl⟩ := h
        obtain ⟨hl, hi⟩ := mapM_some he
        rw [List.length_range] at hl
        have hex : ∀ i, i < len → ∃ x, (∃ c, c.length = K.sz ∧ K.K w x c ∧ ∀ j u, c[j]? = some u → w.cell? (a.add (i * K.sz + j)) = some u) ∧ (∀ h2 : i < elems.length, ((∀ n ∈ (elems[i]).1.weights P e, n ≤ reachBytes) → G x) ∧ b x ≤ Rows.uptoBulk (elems[i]).1) := by
          intro i hilt
          have h2 : i < elems.length := by omega
          have hh := hi i (by simpa using hilt) h2
          rw [List.getElem_range] at hh
          simp only [Option.bind_eq_some_iff] at hh
          obtain ⟨c, hc1, hc2⟩ := hh
          obtain ⟨x, hx1, hx2, hx3⟩ := ho.open_ fuel c (elems[i]).1 (elems[i]).2 hc2
          refine ⟨x, ⟨c, K.K_len hx1, hx1, fun j u hju => ?_⟩, fun _ => ⟨hx2, hx3⟩⟩
          unfold World.cells? at hc1
          split at hc1
          · obtain ⟨hcl, hci⟩ := mapM_some hc1
            rw [List.length_range] at hcl
            have hj : j < c.length := (List.getElem?_eq_some_iff.1 hju).1
            have h5 := hci j (by simpa [← hcl] using hj) hj
            rw [List.getElem_range] at h5
            have h6 : c[j] = u := (List.getElem?_eq_some_iff.1 hju).2
            rw [h6, ho.sz] at h5
            rw [Addr.add_add] at h5
            exact h5
          · cases hc1
        obtain ⟨xs, hxl, hx⟩ := choose_list hex
        have hel : elems.length = xs.length := by omega
        refine ⟨xs, ⟨some a, cap, by rw [hxl], by omega, rfl, ?_, fun _ => ⟨a, rfl, fun j p hjp => ?_⟩⟩, fun hw => ⟨?_, fun x hxm => ?_⟩, ?_⟩
        · have := hc.2.2; unfold maxLen at this; omega
        · have hj : j < xs.length := (List.getElem?_eq_some_iff.1 hjp).1
          have hp : xs[j] = p := (List.getElem?_eq_some_iff.1 hjp).2
          rw [← hp]; exact (hx j hj).1
        · have h7 := hw ((((elems.map (·.1)).length) + (rest.map (·.1)).length) * P.bytesOf e) (by simp [DataW.weights, hu])
          refine Nat.le_trans (Nat.mul_le_mul_right _ ?_) h7
          simp only [List.length_map]; omega
        · obtain ⟨j, hj, rfl⟩ := List.getElem_of_mem hxm
          refine ((hx j hj).2 (by omega)).1 (fun n hn => hw n ?_)
          simp only [DataW.weights, hu]
          refine List.mem_cons_of_mem _ (List.mem_append_left _ (weights_all ?_ n hn))
          exact List.mem_map.2 ⟨elems[j]'(by omega), List.getElem_mem _, rfl⟩
        · have h8 := bulk_all (b := b) xs (elems.map (·.1)) (by simp [hel]) (fun i h h2 => by
            have := ((hx i h).2 (by simpa using h2)).2
            simpa using this)
          simp only [Rows.uptoBulk]
          omega
      · cases h

structure OpensF {H : Type} (enc : TypeId × Value → H) (P : Program) (w : World) (fs : List Field) (off : Nat) {α : Type} (K : Kd α) (G : α → Prop) (b : α → Nat) : Prop where
  open_ : ∀ fuel (cs : List Value) (xs : List (DataW H × List MemPlace)), fs.mapM (fun f => DataW.trod enc P w 0 (fun _ => true) true fuel f.type ((cs.drop f.offset).take (P.cellsOf f.type))) = some xs →
    ∃ x, K.K w x ((cs.drop off).take K.sz) ∧ ((∀ n ∈ DataW.weightsEach P (fs.map (·.type)) (xs.map (·.1)), n ≤ reachBytes) → G x) ∧ b x ≤ Rows.uptoBulkAll (xs.map (·.1))
theorem opensF_one {f : Field} {α : Type} {K : Kd α} {G : α → Prop} {b : α → Nat} (ho : Opens enc P w f.type K G b) : OpensF enc P w [f] f.offset K G b := by
  refine ⟨fun fuel cs xs h => ?_⟩
  rw [List.mapM_cons, List.mapM_nil] at h
  simp only [Option.bind_eq_bind, Option.bind_eq_some_iff] at h
  obtain ⟨y, h1, ys', h2, h3⟩ := h
  simp at h2 h3; subst h2; subst h3
  obtain ⟨x, hx1, hx2, hx3⟩ := ho.open_ fuel _ y.1 y.2 h1
  rw [ho.sz] at hx1
  refine ⟨x, hx1, fun hw => hx2 (fun n hn => hw n ?_), by simpa [Rows.uptoBulkAll] using hx3⟩
  simp [DataW.weightsEach, hn]
theorem opensF_cons {f : Field} {fs : List Field} {α β : Type} {K0 : Kd α} {G0 : α → Prop} {b0 : α → Nat} {K1 : Kd β} {G1 : β → Prop} {b1 : β → Nat} (ho : Opens enc P w f.type K0 G0 b0) {off : Nat} (hoff : off = f.offset + K0.sz) (hr : OpensF enc P w fs off K1 G1 b1) :
    OpensF enc P w (f :: fs) f.offset (Kd.pair K0 K1) (fun p => G0 p.1 ∧ G1 p.2) (fun p => b0 p.1 + b1 p.2) := by
  subst hoff
  refine ⟨fun fuel cs xs h => ?_⟩
  rw [List.mapM_cons] at h
  simp only [Option.bind_eq_bind, Option.bind_eq_some_iff] at h
  obtain ⟨y, h1, ys', h2, h3⟩ := h
  simp at h3; subst h3
  obtain ⟨x, hx1, hx2, hx3⟩ := ho.open_ fuel _ y.1 y.2 h1
  rw [ho.sz] at hx1
  obtain ⟨z, hz1, hz2, hz3⟩ := hr.open_ fuel cs ys' h2
  refine ⟨(x, z), ⟨_, _, ?_, hx1, hz1⟩, fun hw => ⟨hx2 (fun n hn => hw n ?_), hz2 (fun n hn => hw n ?_)⟩, ?_⟩
  · show List.take (K0.sz + K1.sz) _ = _
    rw [List.take_add, List.drop_drop]
  · simp only [List.map_cons, DataW.weightsEach]; exact List.mem_append_left _ hn
  · simp only [List.map_cons, DataW.weightsEach]; exact List.mem_append_right _ hn
  · simp only [List.map_cons, Rows.uptoBulkAll]; omega
theorem opens_struct {t : TypeId} {fs : Array Field} {α β : Type} {K : Kd α} {G : α → Prop} {b : α → Nat} (f : β → α) (g : α → β) (hfg : ∀ x, f (g x) = x) (hu : P.underlying t = some (.struct fs)) (hs : P.cellsOf t = K.sz) (hf : OpensF enc P w fs.toList 0 K G b) :
    Opens enc P w t (Kd.iso K f) (fun x => G (f x)) (fun x => b (f x) + 1) := by
  refine ⟨hs, fun fuel cs d ps h => ?_⟩
  cases fuel with
  | zero => simp [DataW.trod] at h
  | succ fuel =>
    unfold DataW.trod at h
    rw [hu] at h
    split at h <;> try (simp_all; done)
    rename_i fs' h1
    obtain rfl : fs = fs' := by simpa using h1
    split at h
    · rename_i hl
      simp only [Option.map_eq_some_iff] at h
      obtain ⟨xs, hx, h⟩ := h
      simp only [Prod.mk.injEq] at h
      obtain ⟨rfl, rfl⟩ := h
      obtain ⟨x, hx1, hx2, hx3⟩ := hf.open_ fuel _ xs hx
      rw [List.drop_zero, List.take_of_length_le (by omega)] at hx1
      refine ⟨g x, ?_, ?_, ?_⟩
      · show K.K w (f (g x)) _
        rw [hfg]; exact hx1
      · intro hw
        show G (f (g x))
        rw [hfg]
        refine hx2 (fun n hn => hw n ?_)
        simpa [DataW.weights, hu] using hn
      · show b (f (g x)) + 1 ≤ _
        rw [hfg]
        simp only [Rows.uptoBulk]
        omega
    · cases h
/-- An array of two whole numbers. -/
theorem opens_arr2 {t e : TypeId} {k : IntKind} (hu : P.underlying t = some (.array 2 e)) (hs : P.cellsOf t = 2) (he : P.underlying e = some (.int k)) (hse : P.cellsOf e = 1) :
    Opens enc P w t (Kd.pair (Kd.int k) (Kd.int k)) (fun p => (Lit.int k p.1).wf = true ∧ (Lit.int k p.2).wf = true) (fun _ => 3) := by
  refine ⟨hs, fun fuel cs d ps h => ?_⟩
  cases fuel with
  | zero => simp [DataW.trod] at h
  | succ fuel =>
    unfold DataW.trod at h
    rw [hu] at h
    split at h <;> try (simp_all; done)
    rename_i cs' x' cs2 n' e' h1
    obtain ⟨rfl, rfl⟩ : 2 = n' ∧ e = e' := by simpa using h1
    split at h
    · rename_i hl
      rw [hs] at hl
      simp only [Option.map_eq_some_iff] at h
      obtain ⟨xs, hx, h⟩ := h
      simp only [Prod.mk.injEq] at h
      obtain ⟨rfl, rfl⟩ := h
      rw [show List.range 2 = [0, 1] from rfl, List.mapM_cons, List.mapM_cons, List.mapM_nil] at hx
      simp only [Option.bind_eq_bind, Option.bind_eq_some_iff] at hx
      obtain ⟨y0, h0, r0, ⟨y1, h1', r1, h2, h3⟩, h4⟩ := hx
      simp at h2 h3 h4; subst h2; subst h3; subst h4
      rw [hse] at h0 h1'
      obtain ⟨n0, e0, hx0, hw0⟩ := DataW.trod_int he (x := (y0.1, y0.2)) h0
      obtain ⟨n1, e1, hx1, hw1⟩ := DataW.trod_int he (x := (y1.1, y1.2)) h1'
      match cs', hl with
      | [a, b], _ =>
        simp at e0 e1
        subst e0 e1
        exact ⟨(n0, n1), ⟨[_], [_], rfl, rfl, rfl⟩, fun _ => ⟨hw0, hw1⟩, by simp [Rows.uptoBulk, Rows.uptoBulkAll, (Prod.mk.inj hx0).1, (Prod.mk.inj hx1).1]⟩
    · cases h
theorem okWide_arr {r : Reach} {base : Nat} {v : Value} {t e : TypeId} {n : Nat} (ht : P.underlying t = some (.array n e)) (h : Value.okWide P w r base t v) : ∃ cs, v = .agg cs ∧ cs.size = P.cellsOf t := by
  simp only [Value.okWide, ht] at h
  obtain ⟨cs, h1, h2, _⟩ := h
  exact ⟨cs, h1, h2⟩
end
end Go.Proofs.Ytgnmhbkialgeaaa.Opn
end

section
/- Layer 15, plain: what wire.Call, Msg and Rsp lay; that it is taken back; that what is taken was laid; that a beginning isn't taken. -/
set_option linter.unusedVariables false
set_option linter.unusedSimpArgs false
namespace Go.Proofs.Ytgnmhbkialgeaaa
open Math

def InL (l : List Int) : Prop := ∀ n ∈ l, -9223372036854775808 ≤ n ∧ n ≤ 9223372036854775807
theorem inI_of {l : List Int} (h : InL l) : inI l = true := by
  unfold inI
  rw [List.all_eq_true]
  intro n hn
  have := h n hn
  simp [this.1, this.2]
theorem num_back {n : Int} (h : -9223372036854775808 ≤ n ∧ n ≤ 9223372036854775807) (m : List UInt8) : numR (numB (foldN n) ++ m) 0 = (n, m, 0) := by
  rw [numR, if_pos rfl, take_num0 (foldN_lt h)]
  simp only [unfold_fold]
theorem nums_back : ∀ (n : Nat) (l : List Int) (m : List UInt8), l.length = n → InL l → numsR n (numsB l ++ m) 0 = (l, m, 0)
  | 0, l, m, hl, _ => by
    obtain rfl : l = [] := List.length_eq_zero_iff.1 hl
    rfl
  | n + 1, l, m, hl, hi => by
    rcases List.eq_nil_or_concat l with rfl | ⟨l', x, rfl⟩
    · cases hl
    · have hl' : l'.length = n := by simpa using hl
      have hx := hi x (by simp)
      have ih := nums_back n l' (numB (foldN x) ++ m) hl' (fun y hy => hi y (by simp [hy]))
      rw [List.concat_eq_append, numsB_snoc, List.append_assoc, numsR, ih, num_back hx]
theorem numR_err {s : List UInt8} {e : Int} (h : (numR s e).2.2 = 0) : e = 0 := by
  unfold numR at h
  split at h
  · assumption
  · exact h
theorem numR_of {s : List UInt8} {e : Int} (he : e ≠ 0) : numR s e = (0, s, e) := by rw [numR, if_neg he]
theorem num_inv {s : List UInt8} (h : (numR s 0).2.2 = 0) : s = numB (foldN (numR s 0).1) ++ (numR s 0).2.1 ∧ (-9223372036854775808 ≤ (numR s 0).1 ∧ (numR s 0).1 ≤ 9223372036854775807) := by
  rw [numR, if_pos rfl] at h ⊢
  refine ⟨?_, unfoldN_in (takeN0_lt s)⟩
  simp only [fold_unfold]
  exact take_inv0 h
theorem nums_err : ∀ (n : Nat) (s : List UInt8) (e : Int), (numsR n s e).2.2 = 0 → e = 0
  | 0, s, e, h => h
  | n + 1, s, e, h => nums_err n s e (numR_err h)
theorem nums_inv : ∀ (n : Nat) (s : List UInt8), (numsR n s 0).2.2 = 0 → s = numsB (numsR n s 0).1 ++ (numsR n s 0).2.1 ∧ InL (numsR n s 0).1
  | 0, s, _ => ⟨rfl, fun n hn => by cases hn⟩
  | n + 1, s, h => by
    have h2 : (numR (numsR n s 0).2.1 (numsR n s 0).2.2).2.2 = 0 := h
    have h1 := numR_err h2
    obtain ⟨i1, i2⟩ := nums_inv n s h1
    rw [h1] at h2
    obtain ⟨j1, j2⟩ := num_inv h2
    refine ⟨?_, ?_⟩
    · show s = numsB ((numsR n s 0).1 ++ [(numR (numsR n s 0).2.1 (numsR n s 0).2.2).1]) ++ (numR (numsR n s 0).2.1 (numsR n s 0).2.2).2.1
      rw [h1, numsB_snoc, List.append_assoc, ← j1]
      exact i1
    · intro x hx
      have hx' : x ∈ (numsR n s 0).1 ++ [(numR (numsR n s 0).2.1 (numsR n s 0).2.2).1] := hx
      rw [h1] at hx'
      rcases List.mem_append.1 hx' with hx' | hx'
      · exact i2 x hx'
      · rw [List.mem_singleton] at hx'
        rw [hx']
        exact j2
theorem num_cut {n : Int} {k : Nat} (h : -9223372036854775808 ≤ n ∧ n ≤ 9223372036854775807) (hk : k < (numB (foldN n)).length) : numR ((numB (foldN n)).take k) 0 = (0, [], 2) := by
  rw [numR, if_pos rfl, take_cut0 (foldN_lt h) hk]
  rfl
/-- What is left and the error, of numbers whose bytes are cut. -/
theorem nums_cut : ∀ (n : Nat) (l : List Int) (k : Nat), l.length = n → InL l → k < (numsB l).length → (numsR n ((numsB l).take k) 0).2 = ([], 2)
  | 0, l, k, hl, _, hk => by
    obtain rfl : l = [] := List.length_eq_zero_iff.1 hl
    exact absurd hk (by simp [numsB])
  | n + 1, l, k, hl, hi, hk => by
    rcases List.eq_nil_or_concat l with rfl | ⟨l', x, rfl⟩
    · cases hl
    · have hl' : l'.length = n := by simpa using hl
      have hx := hi x (by simp)
      have hi' : InL l' := fun y hy => hi y (by simp [hy])
      rw [List.concat_eq_append, numsB_snoc] at hk ⊢
      rw [List.length_append] at hk
      show (numR (numsR n ((numsB l' ++ numB (foldN x)).take k) 0).2.1 (numsR n ((numsB l' ++ numB (foldN x)).take k) 0).2.2).2 = _
      by_cases hc : k < (numsB l').length
      · rw [List.take_append_of_le_length (Nat.le_of_lt hc), nums_cut n l' k hl' hi' hc, numR_of (by decide)]
      · rw [List.take_append, List.take_of_length_le (by omega), nums_back n l' _ hl' hi', num_cut hx (by omega)]
theorem textR_err {s : List UInt8} {e : Int} (h : (textR s e).2.2 = 0) : e = 0 := by
  unfold textR at h
  split at h
  · assumption
  · exact h
theorem textR_of {s : List UInt8} {e : Int} (he : e ≠ 0) : textR s e = ([], s, e) := by rw [textR, if_neg he]
theorem textsR_err {s : List UInt8} {e : Int} (h : (textsR s e).2.2 = 0) : e = 0 := by
  unfold textsR at h
  split at h
  · assumption
  · exact h
theorem textsR_of {s : List UInt8} {e : Int} (he : e ≠ 0) : textsR s e = ([], s, e) := by rw [textsR, if_neg he]
theorem text_back (t m : List UInt8) (h : t.length ≤ 4096) : textR (textB t ++ m) 0 = (t, m, 0) := by
  rw [textR, if_pos rfl, text_take t m 4096 (by omega) (by omega)]
theorem textR_inv {s : List UInt8} (h : (textR s 0).2.2 = 0) : s = textB (textR s 0).1 ++ (textR s 0).2.1 ∧ (textR s 0).1.length ≤ 4096 := by
  rw [textR, if_pos rfl] at h ⊢
  have := text_inv h
  exact ⟨this.1, by omega⟩
theorem textR_cut (t : List UInt8) (k : Nat) (h : t.length ≤ 4096) (hk : k < (textB t).length) : textR ((textB t).take k) 0 = ([], [], 2) := by
  rw [textR, if_pos rfl, text_cut t k 4096 (by omega) (by omega) hk]
theorem texts_back (l : List (List UInt8)) (m : List UInt8) (hn : l.length ≤ 256) (h : ∀ t ∈ l, t.length ≤ 32) : textsR (listB l ++ m) 0 = (l, m, 0) := by
  rw [textsR, if_pos rfl, list_take l m 256 32 (by omega) (by omega) (fun t ht => by have := h t ht; omega)]
theorem textsR_inv {s : List UInt8} (h : (textsR s 0).2.2 = 0) : s = listB (textsR s 0).1 ++ (textsR s 0).2.1 := by
  rw [textsR, if_pos rfl] at h ⊢
  exact list_inv h
/-- A call's bytes. -/
def callB (l : List Int) (x y z : List UInt8) : List UInt8 := numsB l ++ (textB x ++ (textB y ++ textB z))
theorem call_back (l : List Int) (x y z m : List UInt8) (hl : l.length = 5) (hi : InL l) (hx : x.length ≤ 4096) (hy : y.length ≤ 4096) (hz : z.length ≤ 4096) :
    callR (callB l x y z ++ m) 0 = ((l, x, y, z), m, 0) := by
  unfold callR callB
  simp only [List.append_assoc, nums_back 5 l _ hl hi, text_back x _ hx, text_back y _ hy, text_back z _ hz]
theorem callR_err {s : List UInt8} {e : Int} (h : (callR s e).2.2 = 0) : e = 0 := by
  unfold callR at h
  exact nums_err _ _ _ (textR_err (textR_err (textR_err h)))
theorem callR_inv {s : List UInt8} (h : (callR s 0).2.2 = 0) :
    s = callB (callR s 0).1.1 (callR s 0).1.2.1 (callR s 0).1.2.2.1 (callR s 0).1.2.2.2 ++ (callR s 0).2.1 ∧ InL (callR s 0).1.1 := by
  unfold callR at h ⊢
  simp only at h ⊢
  have h3 := textR_err h
  have h2 := textR_err h3
  have h1 := textR_err h2
  obtain ⟨i1, i2⟩ := nums_inv 5 s h1
  rw [h1] at h h2 h3 ⊢
  have j := (textR_inv h2).1
  rw [h2] at h h3 ⊢
  have j2 := (textR_inv h3).1
  rw [h3] at h ⊢
  have j3 := (textR_inv h).1
  refine ⟨?_, i2⟩
  unfold callB
  rw [List.append_assoc, List.append_assoc, List.append_assoc, ← j3, ← j2, ← j]
  exact i1
theorem call_cut (l : List Int) (x y z : List UInt8) (k : Nat) (hl : l.length = 5) (hi : InL l) (hx : x.length ≤ 4096) (hy : y.length ≤ 4096) (hz : z.length ≤ 4096) (hk : k < (callB l x y z).length) :
    (callR ((callB l x y z).take k) 0).2 = ([], 2) := by
  unfold callB at hk ⊢
  simp only [List.length_append] at hk
  show (textR (textR (textR (numsR 5 _ 0).2.1 (numsR 5 _ 0).2.2).2.1 (textR (numsR 5 _ 0).2.1 (numsR 5 _ 0).2.2).2.2).2.1 (textR (textR (numsR 5 _ 0).2.1 (numsR 5 _ 0).2.2).2.1 (textR (numsR 5 _ 0).2.1 (numsR 5 _ 0).2.2).2.2).2.2).2 = _
  by_cases h1 : k < (numsB l).length
  · rw [List.take_append_of_le_length (Nat.le_of_lt h1), nums_cut 5 l k hl hi h1]
    rfl
  · rw [List.take_append, List.take_of_length_le (by omega), nums_back 5 l _ hl hi]
    by_cases h2 : k - (numsB l).length < (textB x).length
    · rw [List.take_append_of_le_length (Nat.le_of_lt h2), textR_cut x _ hx h2]
      rfl
    · rw [List.take_append, List.take_of_length_le (by omega), text_back x _ hx]
      by_cases h3 : k - (numsB l).length - (textB x).length < (textB y).length
      · rw [List.take_append_of_le_length (Nat.le_of_lt h3), textR_cut y _ hy h3]
        rfl
      · rw [List.take_append, List.take_of_length_le (by omega), text_back y _ hy, textR_cut z _ hz (by omega)]
/-- A message's bytes, ahead of the sum. -/
def msgB (l c : List Int) (x y z : List UInt8) : List UInt8 := numsB l ++ callB c x y z
theorem msg_back (l c : List Int) (x y z m : List UInt8) (hl : l.length = 6) (hc : c.length = 5) (hi : InL l) (hj : InL c) (hx : x.length ≤ 4096) (hy : y.length ≤ 4096) (hz : z.length ≤ 4096) :
    msgR (msgB l c x y z ++ m) 0 = ((l, c, x, y, z), m, 0) := by
  unfold msgR msgB
  simp only [List.append_assoc, nums_back 6 l _ hl hi, call_back c x y z m hc hj hx hy hz]
theorem msgR_inv {s : List UInt8} (h : (msgR s 0).2.2 = 0) :
    s = msgB (msgR s 0).1.1 (msgR s 0).1.2.1 (msgR s 0).1.2.2.1 (msgR s 0).1.2.2.2.1 (msgR s 0).1.2.2.2.2 ++ (msgR s 0).2.1 ∧ InL (msgR s 0).1.1 ∧ InL (msgR s 0).1.2.1 := by
  unfold msgR at h ⊢
  simp only at h ⊢
  have h1 := callR_err h
  obtain ⟨i1, i2⟩ := nums_inv 6 s h1
  rw [h1] at h ⊢
  obtain ⟨j1, j2⟩ := callR_inv h
  refine ⟨?_, i2, j2⟩
  unfold msgB
  rw [List.append_assoc, ← j1]
  exact i1
/-- An answer's bytes, ahead of the sum. -/
def rspB (l : List Int) (x : List UInt8) (t : List (List UInt8)) : List UInt8 := numsB l ++ (textB x ++ listB t)
theorem rsp_back (l : List Int) (x m : List UInt8) (t : List (List UInt8)) (hl : l.length = 9) (hi : InL l) (hx : x.length ≤ 4096) (hn : t.length ≤ 256) (ht : ∀ s ∈ t, s.length ≤ 32) :
    rspR (rspB l x t ++ m) 0 = ((l, x, t), m, 0) := by
  unfold rspR rspB
  simp only [List.append_assoc, nums_back 9 l _ hl hi, text_back x _ hx, texts_back t m hn ht]
theorem rspR_inv {s : List UInt8} (h : (rspR s 0).2.2 = 0) :
    s = rspB (rspR s 0).1.1 (rspR s 0).1.2.1 (rspR s 0).1.2.2 ++ (rspR s 0).2.1 ∧ InL (rspR s 0).1.1 := by
  unfold rspR at h ⊢
  simp only at h ⊢
  have h2 := textsR_err h
  have h1 := textR_err h2
  obtain ⟨i1, i2⟩ := nums_inv 9 s h1
  rw [h1] at h h2 ⊢
  have j := (textR_inv h2).1
  rw [h2] at h ⊢
  have j2 := textsR_inv h
  refine ⟨?_, i2⟩
  unfold rspB
  rw [List.append_assoc, List.append_assoc, ← j2, ← j]
  exact i1
/-- The bytes of a message, of an answer. -/
def msgS (l c : List Int) (x y z : List UInt8) : ByteArray := putS ⟨(109 :: msgB l c x y z).toArray⟩
def rspS (l : List Int) (x : List UInt8) (t : List (List UInt8)) : ByteArray := putS ⟨(114 :: rspB l x t).toArray⟩
theorem tm_back (l c : List Int) (x y z : List UInt8) (hl : l.length = 6) (hc : c.length = 5) (hi : InL l) (hj : InL c) (hx : x.length ≤ 4096) (hy : y.length ≤ 4096) (hz : z.length ≤ 4096) :
    tmE (msgS l c x y z) = 0 ∧ tmP (msgS l c x y z) = (l, c, x, y, z) := by
  have hm := msg_back l c x y z [] hl hc hi hj hx hy hz
  rw [List.append_nil] at hm
  have ht := take_put ⟨(109 :: msgB l c x y z).toArray⟩
  have h0 : tmE (msgS l c x y z) = 0 := by
    rw [tmE, msgS, openE_parts (r := msgB l c x y z) ht, hm]
    rfl
  refine ⟨h0, ?_⟩
  rw [tmP, if_pos h0, msgS, ht]
  show (msgR (msgB l c x y z) 0).1 = _
  rw [hm]
theorem tr_back (l : List Int) (x : List UInt8) (t : List (List UInt8)) (hl : l.length = 9) (hi : InL l) (hx : x.length ≤ 4096) (hn : t.length ≤ 256) (ht : ∀ s ∈ t, s.length ≤ 32) :
    trE (rspS l x t) = 0 ∧ trP (rspS l x t) = (l, x, t) := by
  have hm := rsp_back l x [] t hl hi hx hn ht
  rw [List.append_nil] at hm
  have ht := take_put ⟨(114 :: rspB l x t).toArray⟩
  have h0 : trE (rspS l x t) = 0 := by
    rw [trE, rspS, openE_parts (r := rspB l x t) ht, hm]
    rfl
  refine ⟨h0, ?_⟩
  rw [trP, if_pos h0, rspS, ht]
  show (rspR (rspB l x t) 0).1 = _
  rw [hm]
theorem openE_letter {letter : UInt8} {F : List UInt8 → List UInt8 × Int} {c : UInt8} {r : List UInt8} (h : c ≠ letter) : openE letter F (putS ⟨(c :: r).toArray⟩) = 3 := by
  obtain ⟨h1, h2⟩ := openE_stay (F := F) (take_put ⟨(c :: r).toArray⟩) (.inr ⟨rfl, .inr ⟨c, r, rfl, h⟩⟩)
  rcases h2 with ⟨h, _⟩ | ⟨_, h, _⟩
  · exact absurd rfl h
  · exact h
theorem tr_msg (l c : List Int) (x y z : List UInt8) : trE (msgS l c x y z) = 3 := openE_letter (by decide)
theorem tm_rsp (l : List Int) (x : List UInt8) (t : List (List UInt8)) : tmE (rspS l x t) = 3 := openE_letter (by decide)
/-- What was taken was laid. -/
theorem openE_inv {letter : UInt8} {F : List UInt8 → List UInt8 × Int} {s : ByteArray} (h : openE letter F s = 0) : ∃ r, takeS s = (⟨(letter :: r).toArray⟩, 0) ∧ (F r).2 = 0 ∧ (F r).1 = [] ∧ s = putS ⟨(letter :: r).toArray⟩ := by
  rcases takeS_cases s letter with ⟨t, e0, ht, hc⟩ | ⟨r, ht⟩
  · exact absurd h (openE_stay (F := F) ht hc).1
  · have h' := h
    rw [openE_parts ht] at h'
    refine ⟨r, ht, ?_⟩
    have hp := put_take s (by rw [ht])
    rw [ht] at hp
    split at h'
    · rename_i h1
      split at h'
      · rename_i h2
        exact ⟨h1, h2, hp.symm⟩
      · cases h'
    · rename_i h1
      exact absurd h' h1
theorem tm_inv {s : ByteArray} (h : tmE s = 0) : s = msgS (tmP s).1 (tmP s).2.1 (tmP s).2.2.1 (tmP s).2.2.2.1 (tmP s).2.2.2.2 ∧ InL (tmP s).1 ∧ InL (tmP s).2.1 ∧ (tmP s).1.length = 6 ∧ (tmP s).2.1.length = 5 := by
  obtain ⟨r, ht, h1, h2, hs⟩ := openE_inv h
  have hp : tmP s = (msgR r 0).1 := by rw [tmP, if_pos h, ht]; rfl
  obtain ⟨i1, i2, i3⟩ := msgR_inv h1
  rw [hp]
  rw [h2, List.append_nil] at i1
  refine ⟨?_, i2, i3, numsR_len 6 _ _, numsR_len 5 _ _⟩
  rw [msgS, ← i1]
  exact hs
theorem tr_inv {s : ByteArray} (h : trE s = 0) : s = rspS (trP s).1 (trP s).2.1 (trP s).2.2 ∧ InL (trP s).1 ∧ (trP s).1.length = 9 := by
  obtain ⟨r, ht, h1, h2, hs⟩ := openE_inv h
  have hp : trP s = (rspR r 0).1 := by rw [trP, if_pos h, ht]; rfl
  obtain ⟨i1, i2⟩ := rspR_inv h1
  rw [hp]
  rw [h2, List.append_nil] at i1
  refine ⟨?_, i2, numsR_len 9 _ _⟩
  rw [rspS, ← i1]
  exact hs
/-- No text is a message's and an answer's. -/
theorem not_both {s : ByteArray} (h : tmE s = 0) : trE s ≠ 0 := by
  intro h'
  obtain ⟨r, ht, _⟩ := openE_inv h
  obtain ⟨r', ht', _⟩ := openE_inv h'
  rw [ht] at ht'
  have := congrArg (fun p => p.1.data.toList) ht'
  simp at this
end Go.Proofs.Ytgnmhbkialgeaaa
end

section
/- Layer 15: what the printed Call, Msg, Rsp and the head of all laws come to, in closed form. -/
set_option linter.unusedVariables false
set_option linter.unusedSimpArgs false
namespace Go.Proofs.Ytgnmhbkialgeaaa
open Go.RowKit Go.Proofs.Ytgnmhbkialgeaaa.Q Go.Proofs.YtgnmhbkialgeaaaW.PrintWords Go.Proofs.YtgnmhbkialgeaaaW.PrintLast Go.Proofs.YtgnmhbkialgeaaaW.PrintMore Math

theorem nums_eq {l : List Int} (hl : l.length ≤ 1000000) (hi : InL l) : wire_nums.f l = some (numsS l) := by unfold wire_nums.f; rw [if_pos ⟨hl, inI_of hi⟩]
theorem oct_text {s : ByteArray} (h : s.size ≤ 140737488355000) : octet_Text.f s = some (textS s) := by unfold octet_Text.f; rw [if_pos h]
theorem put_eq {s : ByteArray} (h : s.size ≤ 9223372036854775803) : seal_Put.f s = some (putS s) := by unfold seal_Put.f; rw [if_pos h]
theorem textS_sz {s : ByteArray} (h : s.size ≤ 100000000000) : (textS s).size ≤ s.size + 10 := by
  rw [sz, textS_dl, textB, List.length_append]
  have := numB_len (n := s.data.toList.length) (by rw [← sz]; omega)
  rw [← sz] at *
  omega
theorem numsS_sz {l : List Int} (hi : InL l) : (numsS l).size ≤ 10 * l.length := by rw [sz]; exact numsB_len l hi
theorem in5 {a b c d e : Int} (ha : -9223372036854775808 ≤ a ∧ a ≤ 9223372036854775807) (hb : -9223372036854775808 ≤ b ∧ b ≤ 9223372036854775807) (hc : -9223372036854775808 ≤ c ∧ c ≤ 9223372036854775807) (hd : -9223372036854775808 ≤ d ∧ d ≤ 9223372036854775807) (he : -9223372036854775808 ≤ e ∧ e ≤ 9223372036854775807) : InL [a, b, c, d, e] := by
  intro n hn
  simp only [List.mem_cons, List.not_mem_nil, or_false] at hn
  rcases hn with rfl | rfl | rfl | rfl | rfl <;> assumption
theorem in6 {a b c d e f : Int} (ha : -9223372036854775808 ≤ a ∧ a ≤ 9223372036854775807) (hb : -9223372036854775808 ≤ b ∧ b ≤ 9223372036854775807) (hc : -9223372036854775808 ≤ c ∧ c ≤ 9223372036854775807) (hd : -9223372036854775808 ≤ d ∧ d ≤ 9223372036854775807) (he : -9223372036854775808 ≤ e ∧ e ≤ 9223372036854775807) (hf : -9223372036854775808 ≤ f ∧ f ≤ 9223372036854775807) : InL [a, b, c, d, e, f] := by
  intro n hn
  simp only [List.mem_cons, List.not_mem_nil, or_false] at hn
  rcases hn with rfl | rfl | rfl | rfl | rfl | rfl <;> assumption
theorem call_eq {a b c d e : Int} {x y z : ByteArray} (hi : InL [a, b, c, d, e]) (hx : x.size ≤ 100000000000) (hy : y.size ≤ 100000000000) (hz : z.size ≤ 100000000000) :
    wire_Call.f a b c d e x y z = some ⟨(callB [a, b, c, d, e] x.data.toList y.data.toList z.data.toList).toArray⟩ := by
  have h0 := numsS_sz hi
  have h1 := textS_sz hx
  have h2 := textS_sz hy
  have h3 := textS_sz hz
  simp only [List.length_cons, List.length_nil] at h0
  unfold wire_Call.f
  rw [bs (nums_eq (by simp) hi), bs (oct_text (by omega)), if_pos (by omega), bs (oct_text (by omega)), if_pos (by rw [app_size]; omega), bs (oct_text (by omega)), if_pos (by rw [app_size, app_size]; omega)]
  refine congrArg some (inj ?_)
  rw [app, app, app, textS_dl, textS_dl, textS_dl, List.append_assoc, List.append_assoc]
  rfl
theorem callB_len {l : List Int} {x y z : List UInt8} (hi : InL l) (hx : x.length ≤ 100000000000) (hy : y.length ≤ 100000000000) (hz : z.length ≤ 100000000000) : (callB l x y z).length ≤ 10 * l.length + (x.length + y.length + z.length) + 30 := by
  have h0 := numsB_len l hi
  have h1 := numB_len (n := x.length) (by omega)
  have h2 := numB_len (n := y.length) (by omega)
  have h3 := numB_len (n := z.length) (by omega)
  simp only [callB, textB, List.length_append]
  omega
theorem arr_sz (l : List UInt8) : (⟨l.toArray⟩ : ByteArray).size = l.length := rfl
theorem msg_eq {a b c d e f g h i j k : Int} {x y z : ByteArray} (hi : InL [a, b, c, d, e, f]) (hj : InL [g, h, i, j, k]) (hx : x.size ≤ 100000000000) (hy : y.size ≤ 100000000000) (hz : z.size ≤ 100000000000) :
    wire_Msg.f a b c d e f g h i j k x y z = some (msgS [a, b, c, d, e, f] [g, h, i, j, k] x.data.toList y.data.toList z.data.toList) := by
  have h0 := numsS_sz hi
  have h1 := callB_len (x := x.data.toList) (y := y.data.toList) (z := z.data.toList) hj (by rw [← sz]; exact hx) (by rw [← sz]; exact hy) (by rw [← sz]; exact hz)
  rw [← sz, ← sz, ← sz] at h1
  have h2 : (⟨#[109]⟩ : ByteArray).size = 1 := rfl
  simp only [List.length_cons, List.length_nil] at h0 h1
  rw [← arr_sz] at h1
  unfold wire_Msg.f
  rw [bs (nums_eq (by simp) hi), if_pos (by omega), bs (call_eq hj hx hy hz), if_pos (by rw [app_size]; omega), bs (put_eq (by rw [app_size, app_size]; omega))]
  refine congrArg (fun s => some (putS s)) (inj ?_)
  rw [app, app]
  rfl
theorem z6 : InL [2, 3, 0, 0, 0, 0] := in6 (by omega) (by omega) (by omega) (by omega) (by omega) (by omega)
theorem z5 : InL [0, 0, 0, 0, 0] := in5 (by omega) (by omega) (by omega) (by omega) (by omega)
theorem e0 : (⟨#[]⟩ : ByteArray).size ≤ 100000000000 := by decide
theorem putS_le (s : ByteArray) (h : s.size ≤ 7000000000000) : (putS s).size ≤ 8000000000000 := by rw [putS_size]; omega
theorem msgS_sz {l c : List Int} {x y z : List UInt8} (hl : l.length = 6) (hc : c.length = 5) (hi : InL l) (hj : InL c) (hx : x.length ≤ 100000000000) (hy : y.length ≤ 100000000000) (hz : z.length ≤ 100000000000) : (msgS l c x y z).size ≤ 8000000000000 := by
  have h0 := numsB_len l hi
  have h1 := callB_len (x := x) (y := y) (z := z) hj hx hy hz
  refine putS_le _ ?_
  rw [arr_sz, List.length_cons, msgB, List.length_append]
  omega
theorem shown_eq : copyholdlaw15_shown.f = some true := by
  unfold copyholdlaw15_shown.f
  obtain ⟨t1, t2⟩ := tm_back [2, 3, 0, 0, 0, 0] [0, 0, 0, 0, 0] [] [] [] rfl rfl z6 z5 (by decide) (by decide) (by decide)
  rw [bs (msg_eq z6 z5 e0 e0 e0)]
  have hT : wire_TakeMsg.f (msgS [2, 3, 0, 0, 0, 0] [0, 0, 0, 0, 0] (⟨#[]⟩ : ByteArray).data.toList (⟨#[]⟩ : ByteArray).data.toList (⟨#[]⟩ : ByteArray).data.toList) = some (tmT (msgS [2, 3, 0, 0, 0, 0] [0, 0, 0, 0, 0] (⟨#[]⟩ : ByteArray).data.toList (⟨#[]⟩ : ByteArray).data.toList (⟨#[]⟩ : ByteArray).data.toList)) := by
    unfold wire_TakeMsg.f
    rw [if_pos (msgS_sz rfl rfl z6 z5 (by simp) (by simp) (by simp))]
  rw [bs hT, bs (call_eq z5 e0 e0 e0)]
  have t1' : tmE (msgS [2, 3, 0, 0, 0, 0] [0, 0, 0, 0, 0] (⟨#[]⟩ : ByteArray).data.toList (⟨#[]⟩ : ByteArray).data.toList (⟨#[]⟩ : ByteArray).data.toList) = 0 := t1
  have t2' : tmP (msgS [2, 3, 0, 0, 0, 0] [0, 0, 0, 0, 0] (⟨#[]⟩ : ByteArray).data.toList (⟨#[]⟩ : ByteArray).data.toList (⟨#[]⟩ : ByteArray).data.toList) = _ := t2
  have hc : (callB [0, 0, 0, 0, 0] [] [] []) = [0, 0, 0, 0, 0, 0, 0, 0] := by
    simp [callB, numsB, textB, foldN, numB_lo]
  rw [tl]
  rw [if_pos (show (⟨(callB [0, 0, 0, 0, 0] [] [] []).toArray⟩ : ByteArray).data.toList = _ from hc)]
  unfold tmT
  rw [t1', t2']
  rfl
theorem short_eq {a b c d e : Int} {x y z : ByteArray} (hx : x.size ≤ 140737488351232) (hy : y.size ≤ 140737488351232) (hz : z.size ≤ 140737488351232) :
    copyholdlaw15_short.f a b c d e x y z = some (decide (x.size + y.size + z.size ≤ 4000)) := by
  unfold copyholdlaw15_short.f
  rw [w64 (n := (x.size : Int) + y.size) (by omega) (by omega), w64 (n := (x.size : Int) + y.size + z.size) (by omega) (by omega)]
  exact congrArg some (decide_eq_decide.2 (by omega))
end Go.Proofs.Ytgnmhbkialgeaaa
end

section
/- Layer 15: what TakeCall, TakeMsg and TakeRsp answer to what was laid; and that an answer is the same as itself. -/
set_option linter.unusedVariables false
set_option linter.unusedSimpArgs false
namespace Go.Proofs.Ytgnmhbkialgeaaa
open Go.RowKit Go.Proofs.Ytgnmhbkialgeaaa.Q Go.Proofs.YtgnmhbkialgeaaaW.PrintWords Go.Proofs.YtgnmhbkialgeaaaW.PrintLast Go.Proofs.YtgnmhbkialgeaaaW.PrintMore Math

theorem ba_eta (x : ByteArray) : (⟨x.data.toList.toArray⟩ : ByteArray) = x := inj rfl
/-- A call's bytes, as a text. -/
def callS (a b c d e : Int) (x y z : ByteArray) : ByteArray := ⟨(callB [a, b, c, d, e] x.data.toList y.data.toList z.data.toList).toArray⟩
theorem callS_sz {a b c d e : Int} {x y z : ByteArray} (hi : InL [a, b, c, d, e]) (h : x.size + y.size + z.size ≤ 100000000000) : (callS a b c d e x y z).size ≤ x.size + y.size + z.size + 80 := by
  have := callB_len (x := x.data.toList) (y := y.data.toList) (z := z.data.toList) hi (by rw [← sz]; omega) (by rw [← sz]; omega) (by rw [← sz]; omega)
  rw [← sz, ← sz, ← sz] at this
  simp only [List.length_cons, List.length_nil] at this
  rw [callS, arr_sz]
  omega
theorem takeCall_eq {s : ByteArray} (h : s.size ≤ 8000000000000) : wire_TakeCall.f s = some (tcT s) := by unfold wire_TakeCall.f; rw [if_pos h]
theorem takeMsg_eq {s : ByteArray} (h : s.size ≤ 8000000000000) : wire_TakeMsg.f s = some (tmT s) := by unfold wire_TakeMsg.f; rw [if_pos h]
theorem takeRsp_eq {s : ByteArray} (h : s.size ≤ 8000000000000) : wire_TakeRsp.f s = some (trT s) := by unfold wire_TakeRsp.f; rw [if_pos h]
theorem tc_call {a b c d e : Int} {x y z : ByteArray} (t : ByteArray) (hi : InL [a, b, c, d, e]) (h : x.size + y.size + z.size ≤ 4000) : tcT (callS a b c d e x y z ++ t) = (a, b, c, d, e, x, y, z, t, 0) := by
  have hb := call_back [a, b, c, d, e] x.data.toList y.data.toList z.data.toList t.data.toList rfl hi (by rw [← sz]; omega) (by rw [← sz]; omega) (by rw [← sz]; omega)
  have he : (callS a b c d e x y z ++ t).data.toList = callB [a, b, c, d, e] x.data.toList y.data.toList z.data.toList ++ t.data.toList := by rw [app]; rfl
  have h2 : tcR (callS a b c d e x y z ++ t).data.toList = (([a, b, c, d, e], x.data.toList, y.data.toList, z.data.toList), t.data.toList, 0) := by
    rw [he, tcR, hb]; rfl
  rw [tcT, h2]
  simp only [ba_eta]
  rfl
theorem tc_cut {a b c d e : Int} {x y z : ByteArray} (k : Nat) (hi : InL [a, b, c, d, e]) (h : x.size + y.size + z.size ≤ 4000) (hk : k < (callS a b c d e x y z).size) : (tcT ((callS a b c d e x y z).extract 0 k)).2.2.2.2.2.2.2.2.2 = 2 := by
  have hb := call_cut [a, b, c, d, e] x.data.toList y.data.toList z.data.toList k rfl hi (by rw [← sz]; omega) (by rw [← sz]; omega) (by rw [← sz]; omega) hk
  have he : ((callS a b c d e x y z).extract 0 k).data.toList = (callB [a, b, c, d, e] x.data.toList y.data.toList z.data.toList).take k := by rw [ext_, List.drop_zero]; rfl
  show (tcR _).2.2 = 2
  rw [he, tcR, hb]
  rfl
theorem tm_msg {a b c d e f g h i j k : Int} {x y z : ByteArray} (hi : InL [a, b, c, d, e, f]) (hj : InL [g, h, i, j, k]) (hs : x.size + y.size + z.size ≤ 4000) :
    tmT (msgS [a, b, c, d, e, f] [g, h, i, j, k] x.data.toList y.data.toList z.data.toList) = (a, b, c, d, e, f, g, h, i, j, k, x, y, z, 0) := by
  obtain ⟨t1, t2⟩ := tm_back [a, b, c, d, e, f] [g, h, i, j, k] x.data.toList y.data.toList z.data.toList rfl rfl hi hj (by rw [← sz]; omega) (by rw [← sz]; omega) (by rw [← sz]; omega)
  rw [tmT, t1, t2]
  simp only [ba_eta]
  rfl
theorem tr_rsp {a b c d e f g h i : Int} {x : ByteArray} {l : List ByteArray} (hi : InL [a, b, c, d, e, f, g, h, i]) (hx : x.size ≤ 4000) (hn : l.length ≤ 256) (hl : ∀ s ∈ l, s.size ≤ 32) :
    trT (rspS [a, b, c, d, e, f, g, h, i] x.data.toList (lists l)) = (a, b, c, d, e, f, g, h, i, x, l, 0) := by
  obtain ⟨t1, t2⟩ := tr_back [a, b, c, d, e, f, g, h, i] x.data.toList (lists l) rfl hi (by rw [← sz]; omega) (by rw [lists, List.length_map]; exact hn) (fun s hs => by
    obtain ⟨u, hu, rfl⟩ := List.mem_map.1 hs
    have := hl u hu
    rw [sz] at this
    exact this)
  rw [trT, t1, t2]
  simp only [ba_eta, mks_lists]
  rfl
theorem rspS_sz {l : List Int} {x : ByteArray} {t : List ByteArray} (hl : l.length = 9) (hi : InL l) (hx : x.size ≤ 100000000000) (ht : lensS t ≤ 100000000000) : (rspS l x.data.toList (lists t)).size ≤ 8000000000000 := by
  have h0 := numsB_len l hi
  have h1 := textS_sz hx
  have h3 : (listS t).size ≤ lensS t + 10 := by
    have := lensS_len t
    rw [sz, listS]
    exact flat_listP t (by omega) (by omega)
  rw [sz, textS_dl] at h1
  rw [sz, listS_dl] at h3
  refine putS_le _ ?_
  rw [arr_sz, List.length_cons, rspB, List.length_append, List.length_append]
  omega
end Go.Proofs.Ytgnmhbkialgeaaa
end

section
/- The pure statement of WireCalls: what is left of the law when the machine's side is told. -/
namespace Go.Proofs.Ytgnmhbkialgeaaa.Pure
open Go.RowKit Go.Proofs.Ytgnmhbkialgeaaa.Q
def WireCallsSt : Prop := ∀ (a0_0 : Int) (a0_1 : Int) (a0_2 : Int) (a0_3 : Int) (a0_4 : Int) (a0_5 : ByteArray) (a0_6 : ByteArray) (a0_7 : ByteArray) (a1_0 : Int) (a1_1 : Int) (a1_2 : Int) (a1_3 : Int) (a1_4 : Int) (a1_5 : ByteArray) (a1_6 : ByteArray) (a1_7 : ByteArray) (a2 : Int), (Lit.int .i64 a0_0).wf = true → (Lit.int .i64 a0_1).wf = true → (Lit.int .i64 a0_2).wf = true → (Lit.int .i64 a0_3).wf = true → (Lit.int .i64 a0_4).wf = true → a0_5.size ≤ 140737488351232 → a0_6.size ≤ 140737488351232 → a0_7.size ≤ 140737488351232 → (Lit.int .i64 a1_0).wf = true → (Lit.int .i64 a1_1).wf = true → (Lit.int .i64 a1_2).wf = true → (Lit.int .i64 a1_3).wf = true → (Lit.int .i64 a1_4).wf = true → a1_5.size ≤ 140737488351232 → a1_6.size ≤ 140737488351232 → a1_7.size ≤ 140737488351232 → (Lit.int .i64 a2).wf = true → ∃ k, Go.Proofs.Ytgnmhbkialgeaaa.Q.copyholdlaw15_WireCalls.f k a0_0 a0_1 a0_2 a0_3 a0_4 a0_5 a0_6 a0_7 a1_0 a1_1 a1_2 a1_3 a1_4 a1_5 a1_6 a1_7 a2 = some true
end Go.Proofs.Ytgnmhbkialgeaaa.Pure
end

section
/- WireCalls, pure. -/
set_option linter.unusedVariables false
namespace Go.Proofs.Ytgnmhbkialgeaaa.Pure
open Go.RowKit Go.Proofs.Ytgnmhbkialgeaaa.Q Go.Proofs.YtgnmhbkialgeaaaW.PrintWords Go.Proofs.YtgnmhbkialgeaaaW.PrintLast Math

theorem calls_j1 {a b c d e : Int} {x y z : ByteArray} (cut : Int) (hi : InL [a, b, c, d, e]) (h : x.size + y.size + z.size ≤ 4000) (k : Nat) : copyholdlaw15_WireCalls.j1 (k + 1) cut true (callS a b c d e x y z) false = some true := by
  have hsz := callS_sz hi (by omega : x.size + y.size + z.size ≤ 100000000000)
  rw [copyholdlaw15_WireCalls.j1, if_neg (by decide)]
  by_cases h0 : cut < 0
  · rw [if_pos h0]
  · rw [if_neg h0]
    by_cases h1 : cut ≥ ((callS a b c d e x y z).size : Int)
    · rw [if_pos h1]
    · obtain ⟨n, rfl⟩ := natInt (show 0 ≤ cut by omega)
      have hsx : ((callS a b c d e x y z).extract 0 n).size ≤ 8000000000000 := by
        rw [sz, ext_, List.drop_zero, List.length_take, ← sz]; omega
      rw [if_neg h1, if_pos (by omega), if_pos (by omega), Int.toNat_natCast, bs (takeCall_eq hsx), if_pos rfl, tc_cut n hi h (by omega)]
      rfl
theorem WireCalls : WireCallsSt := by
  intro a0 a1 a2 a3 a4 a5 a6 a7 b0 b1 b2 b3 b4 b5 b6 b7 cut h0 h1 h2 h3 h4 h5 h6 h7 g0 g1 g2 g3 g4 g5 g6 g7 hc
  have hi := in5 (lit64 h0) (lit64 h1) (lit64 h2) (lit64 h3) (lit64 h4)
  have hj := in5 (lit64 g0) (lit64 g1) (lit64 g2) (lit64 g3) (lit64 g4)
  refine ⟨2, ?_⟩
  unfold copyholdlaw15_WireCalls.f
  rw [bs shown_eq, bs (short_eq h5 h6 h7)]
  by_cases hs : a5.size + a6.size + a7.size ≤ 4000
  · rw [if_pos (decide_eq_true hs), bs (short_eq g5 g6 g7)]
    by_cases ht : b5.size + b6.size + b7.size ≤ 4000
    · have z1 := callS_sz hi (by omega : a5.size + a6.size + a7.size ≤ 100000000000)
      have z2 := callS_sz hj (by omega : b5.size + b6.size + b7.size ≤ 100000000000)
      have e1 : wire_Call.f a0 a1 a2 a3 a4 a5 a6 a7 = some (callS a0 a1 a2 a3 a4 a5 a6 a7) := call_eq hi (by omega) (by omega) (by omega)
      have e2 : wire_Call.f b0 b1 b2 b3 b4 b5 b6 b7 = some (callS b0 b1 b2 b3 b4 b5 b6 b7) := call_eq hj (by omega) (by omega) (by omega)
      have e3 : wire_TakeCall.f (callS a0 a1 a2 a3 a4 a5 a6 a7 ++ callS b0 b1 b2 b3 b4 b5 b6 b7) = some (a0, a1, a2, a3, a4, a5, a6, a7, callS b0 b1 b2 b3 b4 b5 b6 b7, 0) := by
        rw [takeCall_eq (by rw [app_size]; omega), tc_call _ hi hs]
      have e4 : wire_TakeCall.f (callS b0 b1 b2 b3 b4 b5 b6 b7) = some (b0, b1, b2, b3, b4, b5, b6, b7, ⟨#[]⟩, 0) := by
        have : callS b0 b1 b2 b3 b4 b5 b6 b7 = callS b0 b1 b2 b3 b4 b5 b6 b7 ++ ⟨#[]⟩ := inj (by rw [app]; simp)
        rw [takeCall_eq (by omega), this, tc_call _ hj ht]
      rw [decide_eq_true ht, copyholdlaw15_WireCalls.j0, if_neg (by decide), bs e1, bs e2, if_pos (by omega), bs e3]
      simp only
      rw [bs e4]
      simp only [beq_self_eq_true, Bool.not_true, Bool.or_self, Bool.false_eq_true, if_true, if_false]
      rw [show ((⟨#[]⟩ : ByteArray).toList != ([] : List UInt8)) = false from by rw [tl]; rfl]
      exact calls_j1 cut hi hs 0
    · rw [decide_eq_false ht, copyholdlaw15_WireCalls.j0]
      rfl
  · rw [if_neg (by rw [decide_eq_false hs]; decide), copyholdlaw15_WireCalls.j0]
    rfl
end Go.Proofs.Ytgnmhbkialgeaaa.Pure
end
