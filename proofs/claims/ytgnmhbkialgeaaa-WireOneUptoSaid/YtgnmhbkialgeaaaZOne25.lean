import Derived.Test.YtgnmhbkialgeaaaZOne24
import Derived.Test.YtgnmhbkialgeaaaRows
import Derived.Test.YtgnmhbkialgeaaaZOne0
import Derived.ProofKit
import Derived.SizedLaws
set_option linter.unusedVariables false
set_option linter.unusedSimpArgs false
section
namespace Go.Proofs.Ytgnmhbkialgeaaa
open Go.RowKit Go.Proofs.YtgnmhbkialgeaaaW.PrintWords Go.Proofs.YtgnmhbkialgeaaaW.PrintLast Go.Proofs.YtgnmhbkialgeaaaW.PrintMore Math
theorem cell_keep {V W : World} {g : Nat} (h : V.heap[g]? = W.heap[g]?) (i : Nat) : V.cell? ⟨g, i, none⟩ = W.cell? ⟨g, i, none⟩ := by unfold World.cell?; simp only [h]
theorem fz_keep {V W : World} {g : Nat} (h : V.heap[g]? = W.heap[g]?) (i : Nat) : V.frozen? ⟨g, i, none⟩ = W.frozen? ⟨g, i, none⟩ := by unfold World.frozen?; simp only [h]
def BB (W : World) (g : Nat) (s : ByteArray) : Prop := s.size ≤ 9223372036854775807 ∧ ∀ i, i < s.size → W.cell? ⟨g, i, none⟩ = some (.int .u8 ((s.data.toList.getD i 0).toNat : Int)) ∧ W.frozen? ⟨g, i, none⟩ = false
theorem BB.new (W : World) (e : TypeId) (s : ByteArray) (hs : s.size ≤ 9223372036854775807) : BB (Lib.bytesWorld W e s) W.heap.size s := ⟨hs, fun i hi => ⟨bw_cell W e s i hi, bw_frozen W e s i hi⟩⟩
theorem BB.keep {V W : World} {g : Nat} {s : ByteArray} (h : BB W g s) (hk : V.heap[g]? = W.heap[g]?) : BB V g s := ⟨h.1, fun i hi => ⟨(cell_keep hk i).trans (h.2 i hi).1, (fz_keep hk i).trans (h.2 i hi).2⟩⟩
theorem BB.far {W : World} {g k : Nat} {s : ByteArray} (h : BB W g s) (hk : g ≠ k) (j : Nat) (u : Value) : BB (W.setCell ⟨k, j, none⟩ u) g s := h.keep (Below.heap_setCell W ⟨k, j, none⟩ u g hk)
def RB (W : World) (g : Nat) (s : ByteArray) : Prop := s.size ≤ 9223372036854775807 ∧ ∀ i, i < s.size → W.cell? ⟨g, i, none⟩ = some (.int .u8 ((s.data.toList.getD i 0).toNat : Int))
theorem RB.keep {V W : World} {g : Nat} {s : ByteArray} (h : RB W g s) (hk : V.heap[g]? = W.heap[g]?) : RB V g s := ⟨h.1, fun i hi => (cell_keep hk i).trans (h.2 i hi)⟩
theorem RB.far {W : World} {g k : Nat} {s : ByteArray} (h : RB W g s) (hk : g ≠ k) (j : Nat) (u : Value) : RB (W.setCell ⟨k, j, none⟩ u) g s := h.keep (Below.heap_setCell W ⟨k, j, none⟩ u g hk)
theorem RB.lt {W : World} {g : Nat} {s : ByteArray} (h : RB W g s) (hs : 0 < s.size) : g < W.heap.size := World.block_lt_of_cell? W _ (h.2 0 hs)
theorem BB.lt {W : World} {g : Nat} {s : ByteArray} (h : BB W g s) (hs : 0 < s.size) : g < W.heap.size := World.block_lt_of_cell? W _ (h.2 0 hs).1
theorem BB.set {W : World} {g : Nat} {s : ByteArray} (h : BB W g s) (j : Nat) (hj : j < s.size) (b : UInt8) : RB (W.setCell ⟨g, j, none⟩ (.int .u8 (b.toNat : Int))) g (putAt s j b) := by
 refine ⟨by rw [putAt_size]; exact h.1, fun i hi => ?_⟩
 rw [putAt_size] at hi
 rw [putAt_dl]
 by_cases e : j = i
 ·subst e
  rw [World.cell?_setCell_same (h := (h.2 j hj).1)]
  rw [List.getD_eq_getElem?_getD, List.getElem?_set_self (by rw [← sz]; exact hj)]; rfl
 ·rw [World.cell?_setCell_other (h := (by intro hh; injection hh with _ h2; exact e h2)), (h.2 i hi).1]
  rw [List.getD_eq_getElem?_getD, List.getD_eq_getElem?_getD, List.getElem?_set_ne e]
theorem RB.reads {W : World} {g : Nat} {s : ByteArray} (h : RB W g s) : ReadsInt W .u8 (some ⟨g, 0, none⟩) s.size (bytesOf s) := by
 refine ⟨bytesOf_length s, h.1, fun _ => ⟨_, rfl, fun j hj => ?_⟩⟩
 rw [add_plain, h.2 j hj]
 have h' : j < s.data.toList.length := by rw [← sz]; exact hj
 simp [bytesOf, List.getD_eq_getElem?_getD, List.getElem?_eq_getElem h']
theorem str_id (s : ByteArray) : strOfNums (bytesOf s) = s := by
 apply inj
 rw [strOfNums_data]
 unfold bytesOf
 rw [List.map_map]
 conv => rhs; rw [← List.map_id s.data.toList]
 apply List.map_congr_left
 intro x _
 simp
theorem RB.str {W : World} {g : Nat} {s : ByteArray} (h : RB W g s) (c : Nat) : (convert 59 9 (.slice (some ⟨g, 0, none⟩) s.size c)).run Try.prog W = .ok (.string s) W := by
 have := string_of_reads (P := Try.prog) (c := c) (src := 59) (dst := 9) (e := 5) Try.underlying59 Try.underlying5 Try.underlying9 h.reads
 rwa [str_id] at this
theorem tm_spoilt (s : ByteArray) (hs : (putS s).size ≤ 8000000000000) (j : Nat) (hj : j < (putS s).size) (b : UInt8) (hb : b ≠ 0) :
  ∃ (q0 q1 q2 q3 q4 q5 q6 q7 q8 q9 q10 : Int) (q11 q12 q13 : ByteArray), wire_TakeMsg.f (putAt (putS s) j ((putS s).data.toList.getD j 0 ^^^ b)) = some (q0, q1, q2, q3, q4, q5, q6, q7, q8, q9, q10, q11, q12, q13, 4) := by
 have h4 := spoilt_take s j hj b hb
 have hE : tmE (putAt (putS s) j ((putS s).data.toList.getD j 0 ^^^ b)) = 4 := by
  unfold tmE openE
  rw [if_neg (by rw [h4]; decide), h4]
 have hT : wire_TakeMsg.f (putAt (putS s) j ((putS s).data.toList.getD j 0 ^^^ b)) = some (tmT (putAt (putS s) j ((putS s).data.toList.getD j 0 ^^^ b))) := by
  unfold wire_TakeMsg.f
  rw [if_pos (by rw [putAt_size]; exact hs)]
 rcases hq : tmT (putAt (putS s) j ((putS s).data.toList.getD j 0 ^^^ b)) with ⟨q0, q1, q2, q3, q4, q5, q6, q7, q8, q9, q10, q11, q12, q13, q14⟩
 have h14 : tmE (putAt (putS s) j ((putS s).data.toList.getD j 0 ^^^ b)) = q14 := congrArg (fun t : Int × Int × Int × Int × Int × Int × Int × Int × Int × Int × Int × ByteArray × ByteArray × ByteArray × Int => t.2.2.2.2.2.2.2.2.2.2.2.2.2.2) hq
 rw [hE] at h14
 subst h14
 exact ⟨_, _, _, _, _, _, _, _, _, _, _, _, _, _, hT.trans (congrArg some hq)⟩
theorem tr_spoilt (s : ByteArray) (hs : (putS s).size ≤ 8000000000000) (j : Nat) (hj : j < (putS s).size) (b : UInt8) (hb : b ≠ 0) :
  ∃ (q0 q1 q2 q3 q4 q5 q6 q7 q8 : Int) (q9 : ByteArray) (q10 : List ByteArray), wire_TakeRsp.f (putAt (putS s) j ((putS s).data.toList.getD j 0 ^^^ b)) = some (q0, q1, q2, q3, q4, q5, q6, q7, q8, q9, q10, 4) := by
 have h4 := spoilt_take s j hj b hb
 have hE : trE (putAt (putS s) j ((putS s).data.toList.getD j 0 ^^^ b)) = 4 := by
  unfold trE openE
  rw [if_neg (by rw [h4]; decide), h4]
 have hT : wire_TakeRsp.f (putAt (putS s) j ((putS s).data.toList.getD j 0 ^^^ b)) = some (trT (putAt (putS s) j ((putS s).data.toList.getD j 0 ^^^ b))) := by
  unfold wire_TakeRsp.f
  rw [if_pos (by rw [putAt_size]; exact hs)]
 rcases hq : trT (putAt (putS s) j ((putS s).data.toList.getD j 0 ^^^ b)) with ⟨q0, q1, q2, q3, q4, q5, q6, q7, q8, q9, q10, q11⟩
 have h11 : trE (putAt (putS s) j ((putS s).data.toList.getD j 0 ^^^ b)) = q11 := congrArg (fun t : Int × Int × Int × Int × Int × Int × Int × Int × Int × ByteArray × List ByteArray × Int => t.2.2.2.2.2.2.2.2.2.2.2) hq
 rw [hE] at h11
 subst h11
 exact ⟨_, _, _, _, _, _, _, _, _, _, _, hT.trans (congrArg some hq)⟩
set_option maxHeartbeats 8000000 in
set_option maxRecDepth 1000000 in
theorem one_main (m0 m1 m2 m3 m4 m5 m6 m7 m8 m9 m10 : Int) (x y z : ByteArray) (r0 r1 r2 r3 r4 r5 r6 r7 r8 : Int) (p : ByteArray) (A : Option Addr) (c : Nat) (l : List ByteArray) (at_ : Int) (by_ : UInt8) (w : World)
  (s1 : Bool) (hs1 : Q.copyholdlaw15_short.f m6 m7 m8 m9 m10 x y z = some s1) (kk : Nat) (LN : Int) (hLN : Q.copyholdref01_Long.f kk l = some LN) (hA : Kd.C Kd.string w A l.length l) (hc : l.length ≤ c)
  (ms rs : ByteArray) (hms : Q.wire_Msg.f m0 m1 m2 m3 m4 m5 m6 m7 m8 m9 m10 x y z = some (putS ms)) (hrs : Q.wire_Rsp.f r0 r1 r2 r3 r4 r5 r6 r7 r8 p l = some (putS rs)) (hmz : (putS ms).size ≤ 8000000000000) (hrz : (putS rs).size ≤ 8000000000000) :
  Calls Try.prog 7 #[.agg #[.int .i64 m0, .int .i64 m1, .int .i64 m2, .int .i64 m3, .int .i64 m4, .int .i64 m5, .int .i64 m6, .int .i64 m7, .int .i64 m8, .int .i64 m9, .int .i64 m10, .string x, .string y, .string z, .int .i64 r0, .int .i64 r1, .int .i64 r2, .int .i64 r3, .int .i64 r4, .int .i64 r5, .int .i64 r6, .int .i64 r7, .int .i64 r8, .string p, .slice A l.length c, .int .i64 at_, .int .u8 (by_.toNat : Int)]] w fun e w' => e = .returned (.bool true) ∧ Below w.heap.size w w' := by
 have hb0 := (((Below.refl w.heap.size w).alloc (Nat.le_refl _) (.cells #[.int .i64 m0, .int .i64 m1, .int .i64 m2, .int .i64 m3, .int .i64 m4, .int .i64 m5, .int .i64 m6, .int .i64 m7, .int .i64 m8, .int .i64 m9, .int .i64 m10, .string x, .string y, .string z, .int .i64 r0, .int .i64 r1, .int .i64 r2, .int .i64 r3, .int .i64 r4, .int .i64 r5, .int .i64 r6, .int .i64 r7, .int .i64 r8, .string p, .slice A l.length c, .int .i64 at_, .int .u8 (by_.toNat : Int)] 58)).alloc (by rw [World.size_alloc]; omega) (.cells #[.int .i64 m0, .int .i64 m1, .int .i64 m2, .int .i64 m3, .int .i64 m4, .int .i64 m5, .int .i64 m6, .int .i64 m7, .int .i64 m8, .int .i64 m9, .int .i64 m10, .string x, .string y, .string z] 32)).alloc (by rw [World.size_alloc, World.size_alloc]; omega) (.cells #[.int .i64 r0, .int .i64 r1, .int .i64 r2, .int .i64 r3, .int .i64 r4, .int .i64 r5, .int .i64 r6, .int .i64 r7, .int .i64 r8, .string p, .slice A l.length c] 37)
 have hm0 : CB (((w.alloc (.cells #[.int .i64 m0, .int .i64 m1, .int .i64 m2, .int .i64 m3, .int .i64 m4, .int .i64 m5, .int .i64 m6, .int .i64 m7, .int .i64 m8, .int .i64 m9, .int .i64 m10, .string x, .string y, .string z, .int .i64 r0, .int .i64 r1, .int .i64 r2, .int .i64 r3, .int .i64 r4, .int .i64 r5, .int .i64 r6, .int .i64 r7, .int .i64 r8, .string p, .slice A l.length c, .int .i64 at_, .int .u8 (by_.toNat : Int)] 58)).alloc (.cells #[.int .i64 m0, .int .i64 m1, .int .i64 m2, .int .i64 m3, .int .i64 m4, .int .i64 m5, .int .i64 m6, .int .i64 m7, .int .i64 m8, .int .i64 m9, .int .i64 m10, .string x, .string y, .string z] 32)).alloc (.cells #[.int .i64 r0, .int .i64 r1, .int .i64 r2, .int .i64 r3, .int .i64 r4, .int .i64 r5, .int .i64 r6, .int .i64 r7, .int .i64 r8, .string p, .slice A l.length c] 37)) (w.heap.size + 1) #[.int .i64 m0, .int .i64 m1, .int .i64 m2, .int .i64 m3, .int .i64 m4, .int .i64 m5, .int .i64 m6, .int .i64 m7, .int .i64 m8, .int .i64 m9, .int .i64 m10, .string x, .string y, .string z] 32 := blk_alloc (by have := heap_alloc_last (w.alloc (.cells #[.int .i64 m0, .int .i64 m1, .int .i64 m2, .int .i64 m3, .int .i64 m4, .int .i64 m5, .int .i64 m6, .int .i64 m7, .int .i64 m8, .int .i64 m9, .int .i64 m10, .string x, .string y, .string z, .int .i64 r0, .int .i64 r1, .int .i64 r2, .int .i64 r3, .int .i64 r4, .int .i64 r5, .int .i64 r6, .int .i64 r7, .int .i64 r8, .string p, .slice A l.length c, .int .i64 at_, .int .u8 (by_.toNat : Int)] 58)) (.cells #[.int .i64 m0, .int .i64 m1, .int .i64 m2, .int .i64 m3, .int .i64 m4, .int .i64 m5, .int .i64 m6, .int .i64 m7, .int .i64 m8, .int .i64 m9, .int .i64 m10, .string x, .string y, .string z] 32); rwa [World.size_alloc] at this) _
 have hr0 : CB (((w.alloc (.cells #[.int .i64 m0, .int .i64 m1, .int .i64 m2, .int .i64 m3, .int .i64 m4, .int .i64 m5, .int .i64 m6, .int .i64 m7, .int .i64 m8, .int .i64 m9, .int .i64 m10, .string x, .string y, .string z, .int .i64 r0, .int .i64 r1, .int .i64 r2, .int .i64 r3, .int .i64 r4, .int .i64 r5, .int .i64 r6, .int .i64 r7, .int .i64 r8, .string p, .slice A l.length c, .int .i64 at_, .int .u8 (by_.toNat : Int)] 58)).alloc (.cells #[.int .i64 m0, .int .i64 m1, .int .i64 m2, .int .i64 m3, .int .i64 m4, .int .i64 m5, .int .i64 m6, .int .i64 m7, .int .i64 m8, .int .i64 m9, .int .i64 m10, .string x, .string y, .string z] 32)).alloc (.cells #[.int .i64 r0, .int .i64 r1, .int .i64 r2, .int .i64 r3, .int .i64 r4, .int .i64 r5, .int .i64 r6, .int .i64 r7, .int .i64 r8, .string p, .slice A l.length c] 37)) (w.heap.size + 1 + 1) #[.int .i64 r0, .int .i64 r1, .int .i64 r2, .int .i64 r3, .int .i64 r4, .int .i64 r5, .int .i64 r6, .int .i64 r7, .int .i64 r8, .string p, .slice A l.length c] 37 := by have := heap_alloc_last ((w.alloc (.cells #[.int .i64 m0, .int .i64 m1, .int .i64 m2, .int .i64 m3, .int .i64 m4, .int .i64 m5, .int .i64 m6, .int .i64 m7, .int .i64 m8, .int .i64 m9, .int .i64 m10, .string x, .string y, .string z, .int .i64 r0, .int .i64 r1, .int .i64 r2, .int .i64 r3, .int .i64 r4, .int .i64 r5, .int .i64 r6, .int .i64 r7, .int .i64 r8, .string p, .slice A l.length c, .int .i64 at_, .int .u8 (by_.toNat : Int)] 58)).alloc (.cells #[.int .i64 m0, .int .i64 m1, .int .i64 m2, .int .i64 m3, .int .i64 m4, .int .i64 m5, .int .i64 m6, .int .i64 m7, .int .i64 m8, .int .i64 m9, .int .i64 m10, .string x, .string y, .string z] 32)) (.cells #[.int .i64 r0, .int .i64 r1, .int .i64 r2, .int .i64 r3, .int .i64 r4, .int .i64 r5, .int .i64 r6, .int .i64 r7, .int .i64 r8, .string p, .slice A l.length c] 37); rwa [World.size_alloc, World.size_alloc] at this
 have HB0 := Lib.hid hb0; have HM0 := Lib.hid hm0; have HR0 := Lib.hid hr0
 have HS := Lib.hid hs1; have HL := Lib.hid hLN; have HA := Lib.hid hA; have HC := Lib.hid hc; have HMS := Lib.hid hms; have HRS := Lib.hid hrs; have HMZ := Lib.hid hmz; have HRZ := Lib.hid hrz
 clear hb0 hm0 hr0 hs1 hLN hA hc hms hrs hmz hrz
 go_enter Try.func7, Try.ntmps7
 go_wp2_with fail
 refine (Q.copyholdlaw15_shown.calls true _ shown_eq).mono ?_
 rintro e w1 ⟨rfl, hb1⟩
 have HM1 : Hid (CB w1.drew _ _ _) := Lib.hid ((hb1.block _ (blk_lt HM0.out)).trans HM0.out)
 have HR1 : Hid (CB w1.drew _ _ _) := Lib.hid ((hb1.block _ (blk_lt HR0.out)).trans HR0.out)
 have HB1 : Hid (Below w.heap.size w w1.drew) := Lib.hid (below_drew (below_then HB0.out HB0.out.size hb1))
 clear hb1 HB0 HM0 HR0
 cases s1
 ·go_wp2_with fail
  refine start_ (n := 24) (S := fun w' => w'.cell? ⟨w.heap.size + 1, 6, none⟩ = some (.int .i64 m6) ∧ w'.cell? ⟨w.heap.size + 1, 7, none⟩ = some (.int .i64 m7) ∧ w'.cell? ⟨w.heap.size + 1, 8, none⟩ = some (.int .i64 m8) ∧ w'.cell? ⟨w.heap.size + 1, 9, none⟩ = some (.int .i64 m9) ∧ w'.cell? ⟨w.heap.size + 1, 10, none⟩ = some (.int .i64 m10) ∧ w'.cell? ⟨w.heap.size + 1, 11, none⟩ = some (.string x) ∧ w'.cell? ⟨w.heap.size + 1, 12, none⟩ = some (.string y) ∧ w'.cell? ⟨w.heap.size + 1, 13, none⟩ = some (.string z) ∧ w'.cell? ⟨w.heap.size + 1 + 1, 9, none⟩ = some (.string p) ∧ w'.cell? ⟨w.heap.size + 1 + 1, 10, none⟩ = some (.slice A l.length c)) (ds := []) #[false, false, false, false, false, false, false, false, false, false, false, false, false, false, false, false, false, false, false, false, false, false, false, false] (by kernel_rfl) rfl rfl ⟨(blk_cell HM1.out 6).trans rfl, (blk_cell HM1.out 7).trans rfl, (blk_cell HM1.out 8).trans rfl, (blk_cell HM1.out 9).trans rfl, (blk_cell HM1.out 10).trans rfl, (blk_cell HM1.out 11).trans rfl, (blk_cell HM1.out 12).trans rfl, (blk_cell HM1.out 13).trans rfl, (blk_cell HR1.out 9).trans rfl, (blk_cell HR1.out 10).trans rfl⟩ (fun hHeld => ?_)
  refine pure_ (i := 0) (N := some 23) (v := ?_) (a' := ?_) #[true, false, false, false, false, false, false, false, false, false, false, false, false, false, false, false, false, false, false, false, false, false, false, false] rfl rfl (by kernel_rfl) (fun _ _ _ h => h) (Or.inl ⟨by rfl, ?_⟩) ?_ ?_
  (rotate_left; · (intro w'; go_simp; with_reducible rfl))
  (rotate_left; · (simp only [Act.put, List.setIfInBounds_toArray, List.set_cons_zero, List.set_cons_succ, i64_w, i32_w]; rfl))
  refine take_ (i := 1) (N := some 24) (v := ?_) (a' := ?_) #[true, true, false, false, false, false, false, false, false, false, false, false, false, false, false, false, false, false, false, false, false, false, false, false] rfl rfl (by kernel_rfl) (fun _ _ _ h => h) (Or.inl ⟨by rfl, ?_⟩) hHeld ?_ ?_
  rotate_left
  ·rintro w' ⟨s0, s1, s2, s3, s4, s5, s6, s7, s8, s9⟩
   go_simp
   with_reducible rfl
  (rotate_left; · (simp only [Act.put, List.setIfInBounds_toArray, List.set_cons_zero, List.set_cons_succ, i64_w, i32_w]; rfl))
  refine one_ (i := 2) (N := some 25) #[true, true, true, false, false, false, false, false, false, false, false, false, false, false, false, false, false, false, false, false, false, false, false, false] rfl rfl (by kernel_rfl) (by decide) (fun K hK => ?_)
  refine goes_ Try.func11 (by kernel_rfl) rfl #[.agg #[.int .i64 m6, .int .i64 m7, .int .i64 m8, .int .i64 m9, .int .i64 m10, .string x, .string y, .string z]] (by rfl) rfl rfl (by simp only [List.map_toArray, List.map_cons, List.map_nil]; rfl) ?_
  with_reducible refine ((Q.copyholdlaw15_short.calls m6 m7 m8 m9 m10 x y z _ _ HS.out)).mono ?_
  rintro e w3 ⟨rfl, hb3⟩
  refine ⟨_, rfl, ?_⟩
  have HM3 : Hid (CB w3 _ _ _) := Lib.hid ((hb3.block _ (blk_lt HM1.out)).trans HM1.out)
  have HR3 : Hid (CB w3 _ _ _) := Lib.hid ((hb3.block _ (blk_lt HR1.out)).trans HR1.out)
  have HB3 := Lib.hid (below_then HB1.out HB1.out.size hb3)
  clear hb3 HM1 HR1 HB1
  refine hK.out _ _ ⟨(blk_cell HM3.out 6).trans rfl, (blk_cell HM3.out 7).trans rfl, (blk_cell HM3.out 8).trans rfl, (blk_cell HM3.out 9).trans rfl, (blk_cell HM3.out 10).trans rfl, (blk_cell HM3.out 11).trans rfl, (blk_cell HM3.out 12).trans rfl, (blk_cell HM3.out 13).trans rfl, (blk_cell HR3.out 9).trans rfl, (blk_cell HR3.out 10).trans rfl⟩ (fun hHeld => ?_)
  clear hK K
  refine norm_ (a' := ?_) ?_ ?_
  rotate_left
  ·show Act.put _ (some 25) _ = _
   simp only [Act.put, List.setIfInBounds_toArray, List.set_cons_zero, List.set_cons_succ, i64_w, i32_w]
   rfl
  refine pure_ (i := 3) (N := some 26) (v := ?_) (a' := ?_) #[true, true, true, true, false, false, false, false, false, false, false, false, false, false, false, false, false, false, false, false, false, false, false, false] rfl rfl (by kernel_rfl) (fun _ _ _ h => h) (Or.inl ⟨by rfl, ?_⟩) ?_ ?_
  (rotate_left; · (intro w'; go_simp; with_reducible rfl))
  (rotate_left; · (simp only [Act.put, List.setIfInBounds_toArray, List.set_cons_zero, List.set_cons_succ, i64_w, i32_w]; rfl))
  refine pure_ (i := 4) (N := some 27) (v := ?_) (a' := ?_) #[true, true, true, true, true, false, false, false, false, false, false, false, false, false, false, false, false, false, false, false, false, false, false, false] rfl rfl (by kernel_rfl) (fun _ _ _ h => h) (Or.inl ⟨by rfl, ?_⟩) ?_ ?_
  (rotate_left; · (intro w'; go_simp; with_reducible rfl))
  (rotate_left; · (simp only [Act.put, List.setIfInBounds_toArray, List.set_cons_zero, List.set_cons_succ, i64_w, i32_w]; rfl))
  refine pure_ (i := 5) (N := some 28) (v := undef) (a' := ?_) #[true, true, true, true, true, true, false, false, false, false, false, false, false, false, false, false, false, false, false, false, false, false, false, false] rfl rfl (by kernel_rfl) (fun _ _ _ h => h) (Or.inr ⟨by rfl, rfl⟩) ?_ ?_
  (rotate_left; · (simp only [Act.put, List.setIfInBounds_toArray, List.set_cons_zero, List.set_cons_succ, i64_w, i32_w]; rfl))
  refine pure_ (i := 6) (N := some 29) (v := undef) (a' := ?_) #[true, true, true, true, true, true, true, false, false, false, false, false, false, false, false, false, false, false, false, false, false, false, false, false] rfl rfl (by kernel_rfl) (fun _ _ _ h => h) (Or.inr ⟨by rfl, rfl⟩) ?_ ?_
  (rotate_left; · (simp only [Act.put, List.setIfInBounds_toArray, List.set_cons_zero, List.set_cons_succ, i64_w, i32_w]; rfl))
  refine pure_ (i := 7) (N := some 30) (v := undef) (a' := ?_) #[true, true, true, true, true, true, true, true, false, false, false, false, false, false, false, false, false, false, false, false, false, false, false, false] rfl rfl (by kernel_rfl) (fun _ _ _ h => h) (Or.inr ⟨by rfl, rfl⟩) ?_ ?_
  (rotate_left; · (simp only [Act.put, List.setIfInBounds_toArray, List.set_cons_zero, List.set_cons_succ, i64_w, i32_w]; rfl))
  refine pure_ (i := 8) (N := some 31) (v := undef) (a' := ?_) #[true, true, true, true, true, true, true, true, true, false, false, false, false, false, false, false, false, false, false, false, false, false, false, false] rfl rfl (by kernel_rfl) (fun _ _ _ h => h) (Or.inr ⟨by rfl, rfl⟩) ?_ ?_
  (rotate_left; · (simp only [Act.put, List.setIfInBounds_toArray, List.set_cons_zero, List.set_cons_succ, i64_w, i32_w]; rfl))
  refine pure_ (i := 9) (N := some 32) (v := undef) (a' := ?_) #[true, true, true, true, true, true, true, true, true, true, false, false, false, false, false, false, false, false, false, false, false, false, false, false] rfl rfl (by kernel_rfl) (fun _ _ _ h => h) (Or.inr ⟨by rfl, rfl⟩) ?_ ?_
  (rotate_left; · (simp only [Act.put, List.setIfInBounds_toArray, List.set_cons_zero, List.set_cons_succ, i64_w, i32_w]; rfl))
  refine pure_ (i := 10) (N := some 33) (v := undef) (a' := ?_) #[true, true, true, true, true, true, true, true, true, true, true, false, false, false, false, false, false, false, false, false, false, false, false, false] rfl rfl (by kernel_rfl) (fun _ _ _ h => h) (Or.inr ⟨by rfl, rfl⟩) ?_ ?_
  (rotate_left; · (simp only [Act.put, List.setIfInBounds_toArray, List.set_cons_zero, List.set_cons_succ, i64_w, i32_w]; rfl))
  refine pure_ (i := 11) (N := some 34) (v := undef) (a' := ?_) #[true, true, true, true, true, true, true, true, true, true, true, true, false, false, false, false, false, false, false, false, false, false, false, false] rfl rfl (by kernel_rfl) (fun _ _ _ h => h) (Or.inr ⟨by rfl, rfl⟩) ?_ ?_
  (rotate_left; · (simp only [Act.put, List.setIfInBounds_toArray, List.set_cons_zero, List.set_cons_succ, i64_w, i32_w]; rfl))
  refine pure_ (i := 12) (N := some 35) (v := undef) (a' := ?_) #[true, true, true, true, true, true, true, true, true, true, true, true, true, false, false, false, false, false, false, false, false, false, false, false] rfl rfl (by kernel_rfl) (fun _ _ _ h => h) (Or.inr ⟨by rfl, rfl⟩) ?_ ?_
  (rotate_left; · (simp only [Act.put, List.setIfInBounds_toArray, List.set_cons_zero, List.set_cons_succ, i64_w, i32_w]; rfl))
  refine pure_ (i := 13) (N := some 36) (v := undef) (a' := ?_) #[true, true, true, true, true, true, true, true, true, true, true, true, true, true, false, false, false, false, false, false, false, false, false, false] rfl rfl (by kernel_rfl) (fun _ _ _ h => h) (Or.inr ⟨by rfl, rfl⟩) ?_ ?_
  (rotate_left; · (simp only [Act.put, List.setIfInBounds_toArray, List.set_cons_zero, List.set_cons_succ, i64_w, i32_w]; rfl))
  refine pure_ (i := 14) (N := some 37) (v := undef) (a' := ?_) #[true, true, true, true, true, true, true, true, true, true, true, true, true, true, true, false, false, false, false, false, false, false, false, false] rfl rfl (by kernel_rfl) (fun _ _ _ h => h) (Or.inr ⟨by rfl, rfl⟩) ?_ ?_
  (rotate_left; · (simp only [Act.put, List.setIfInBounds_toArray, List.set_cons_zero, List.set_cons_succ, i64_w, i32_w]; rfl))
  refine pure_ (i := 15) (N := some 38) (v := ?_) (a' := ?_) #[true, true, true, true, true, true, true, true, true, true, true, true, true, true, true, true, false, false, false, false, false, false, false, false] rfl rfl (by kernel_rfl) (fun _ _ _ h => h) (Or.inl ⟨by rfl, ?_⟩) ?_ ?_
  (rotate_left; · (intro w'; go_simp; with_reducible rfl))
  (rotate_left; · (simp only [Act.put, List.setIfInBounds_toArray, List.set_cons_zero, List.set_cons_succ, i64_w, i32_w]; rfl))
  refine pure_ (i := 16) (N := some 39) (v := ?_) (a' := ?_) #[true, true, true, true, true, true, true, true, true, true, true, true, true, true, true, true, true, false, false, false, false, false, false, false] rfl rfl (by kernel_rfl) (fun _ _ _ h => h) (Or.inl ⟨by rfl, ?_⟩) ?_ ?_
  (rotate_left; · (intro w'; go_simp; with_reducible rfl))
  (rotate_left; · (simp only [Act.put, List.setIfInBounds_toArray, List.set_cons_zero, List.set_cons_succ, i64_w, i32_w]; rfl))
  refine pure_ (i := 17) (N := some 40) (v := undef) (a' := ?_) #[true, true, true, true, true, true, true, true, true, true, true, true, true, true, true, true, true, true, false, false, false, false, false, false] rfl rfl (by kernel_rfl) (fun _ _ _ h => h) (Or.inr ⟨by rfl, rfl⟩) ?_ ?_
  (rotate_left; · (simp only [Act.put, List.setIfInBounds_toArray, List.set_cons_zero, List.set_cons_succ, i64_w, i32_w]; rfl))
  refine pure_ (i := 18) (N := some 41) (v := undef) (a' := ?_) #[true, true, true, true, true, true, true, true, true, true, true, true, true, true, true, true, true, true, true, false, false, false, false, false] rfl rfl (by kernel_rfl) (fun _ _ _ h => h) (Or.inr ⟨by rfl, rfl⟩) ?_ ?_
  (rotate_left; · (simp only [Act.put, List.setIfInBounds_toArray, List.set_cons_zero, List.set_cons_succ, i64_w, i32_w]; rfl))
  refine pure_ (i := 19) (N := some 42) (v := ?_) (a' := ?_) #[true, true, true, true, true, true, true, true, true, true, true, true, true, true, true, true, true, true, true, true, false, false, false, false] rfl rfl (by kernel_rfl) (fun _ _ _ h => h) (Or.inl ⟨by rfl, ?_⟩) ?_ ?_
  (rotate_left; · (intro w'; go_simp; with_reducible rfl))
  (rotate_left; · (simp only [Act.put, List.setIfInBounds_toArray, List.set_cons_zero, List.set_cons_succ, i64_w, i32_w]; rfl))
  refine pure_ (i := 20) (N := some 43) (v := ?_) (a' := ?_) #[true, true, true, true, true, true, true, true, true, true, true, true, true, true, true, true, true, true, true, true, true, false, false, false] rfl rfl (by kernel_rfl) (fun _ _ _ h => h) (Or.inl ⟨by rfl, ?_⟩) ?_ ?_
  (rotate_left; · (intro w'; go_simp; with_reducible rfl))
  (rotate_left; · (simp only [Act.put, List.setIfInBounds_toArray, List.set_cons_zero, List.set_cons_succ, i64_w, i32_w]; rfl))
  refine pure_ (i := 21) (N := some 44) (v := undef) (a' := ?_) #[true, true, true, true, true, true, true, true, true, true, true, true, true, true, true, true, true, true, true, true, true, true, false, false] rfl rfl (by kernel_rfl) (fun _ _ _ h => h) (Or.inr ⟨by rfl, rfl⟩) ?_ ?_
  (rotate_left; · (simp only [Act.put, List.setIfInBounds_toArray, List.set_cons_zero, List.set_cons_succ, i64_w, i32_w]; rfl))
  refine pure_ (i := 22) (N := some 45) (v := undef) (a' := ?_) #[true, true, true, true, true, true, true, true, true, true, true, true, true, true, true, true, true, true, true, true, true, true, true, false] rfl rfl (by kernel_rfl) (fun _ _ _ h => h) (Or.inr ⟨by rfl, rfl⟩) ?_ ?_
  (rotate_left; · (simp only [Act.put, List.setIfInBounds_toArray, List.set_cons_zero, List.set_cons_succ, i64_w, i32_w]; rfl))
  refine pure_ (i := 23) (N := some 46) (v := ?_) (a' := ?_) #[true, true, true, true, true, true, true, true, true, true, true, true, true, true, true, true, true, true, true, true, true, true, true, true] rfl rfl (by kernel_rfl) (fun _ _ _ h => h) (Or.inl ⟨by rfl, ?_⟩) ?_ ?_
  (rotate_left; · (intro w'; go_simp; with_reducible rfl))
  (rotate_left; · (simp only [Act.put, List.setIfInBounds_toArray, List.set_cons_zero, List.set_cons_succ, i64_w, i32_w]; rfl))
  refine done_ (by kernel_rfl) ?_
  go_wp2_with fail
  go_ret
  exact ⟨rfl, HB3.out⟩
 ·cases d2 : decide (4000 < wrap64 ((p.size : Int) + LN))
  rotate_left
  ·go_wp2_with fail
   refine start_ (n := 24) (S := fun w' => w'.cell? ⟨w.heap.size + 1, 6, none⟩ = some (.int .i64 m6) ∧ w'.cell? ⟨w.heap.size + 1, 7, none⟩ = some (.int .i64 m7) ∧ w'.cell? ⟨w.heap.size + 1, 8, none⟩ = some (.int .i64 m8) ∧ w'.cell? ⟨w.heap.size + 1, 9, none⟩ = some (.int .i64 m9) ∧ w'.cell? ⟨w.heap.size + 1, 10, none⟩ = some (.int .i64 m10) ∧ w'.cell? ⟨w.heap.size + 1, 11, none⟩ = some (.string x) ∧ w'.cell? ⟨w.heap.size + 1, 12, none⟩ = some (.string y) ∧ w'.cell? ⟨w.heap.size + 1, 13, none⟩ = some (.string z) ∧ w'.cell? ⟨w.heap.size + 1 + 1, 9, none⟩ = some (.string p) ∧ w'.cell? ⟨w.heap.size + 1 + 1, 10, none⟩ = some (.slice A l.length c)) (ds := []) #[false, false, false, false, false, false, false, false, false, false, false, false, false, false, false, false, false, false, false, false, false, false, false, false] (by kernel_rfl) rfl rfl ⟨(blk_cell HM1.out 6).trans rfl, (blk_cell HM1.out 7).trans rfl, (blk_cell HM1.out 8).trans rfl, (blk_cell HM1.out 9).trans rfl, (blk_cell HM1.out 10).trans rfl, (blk_cell HM1.out 11).trans rfl, (blk_cell HM1.out 12).trans rfl, (blk_cell HM1.out 13).trans rfl, (blk_cell HR1.out 9).trans rfl, (blk_cell HR1.out 10).trans rfl⟩ (fun hHeld => ?_)
   refine pure_ (i := 0) (N := some 23) (v := ?_) (a' := ?_) #[true, false, false, false, false, false, false, false, false, false, false, false, false, false, false, false, false, false, false, false, false, false, false, false] rfl rfl (by kernel_rfl) (fun _ _ _ h => h) (Or.inl ⟨by rfl, ?_⟩) ?_ ?_
   (rotate_left; · (intro w'; go_simp; with_reducible rfl))
   (rotate_left; · (simp only [Act.put, List.setIfInBounds_toArray, List.set_cons_zero, List.set_cons_succ, i64_w, i32_w]; rfl))
   refine take_ (i := 1) (N := some 24) (v := ?_) (a' := ?_) #[true, true, false, false, false, false, false, false, false, false, false, false, false, false, false, false, false, false, false, false, false, false, false, false] rfl rfl (by kernel_rfl) (fun _ _ _ h => h) (Or.inl ⟨by rfl, ?_⟩) hHeld ?_ ?_
   rotate_left
   ·rintro w' ⟨s0, s1, s2, s3, s4, s5, s6, s7, s8, s9⟩
    go_simp
    with_reducible rfl
   (rotate_left; · (simp only [Act.put, List.setIfInBounds_toArray, List.set_cons_zero, List.set_cons_succ, i64_w, i32_w]; rfl))
   refine one_ (i := 2) (N := some 25) #[true, true, true, false, false, false, false, false, false, false, false, false, false, false, false, false, false, false, false, false, false, false, false, false] rfl rfl (by kernel_rfl) (by decide) (fun K hK => ?_)
   refine goes_ Try.func11 (by kernel_rfl) rfl #[.agg #[.int .i64 m6, .int .i64 m7, .int .i64 m8, .int .i64 m9, .int .i64 m10, .string x, .string y, .string z]] (by rfl) rfl rfl (by simp only [List.map_toArray, List.map_cons, List.map_nil]; rfl) ?_
   with_reducible refine ((Q.copyholdlaw15_short.calls m6 m7 m8 m9 m10 x y z _ _ HS.out)).mono ?_
   rintro e w3 ⟨rfl, hb3⟩
   refine ⟨_, rfl, ?_⟩
   have HM3 : Hid (CB w3 _ _ _) := Lib.hid ((hb3.block _ (blk_lt HM1.out)).trans HM1.out)
   have HR3 : Hid (CB w3 _ _ _) := Lib.hid ((hb3.block _ (blk_lt HR1.out)).trans HR1.out)
   have HB3 := Lib.hid (below_then HB1.out HB1.out.size hb3)
   clear hb3 HM1 HR1 HB1
   refine hK.out _ _ ⟨(blk_cell HM3.out 6).trans rfl, (blk_cell HM3.out 7).trans rfl, (blk_cell HM3.out 8).trans rfl, (blk_cell HM3.out 9).trans rfl, (blk_cell HM3.out 10).trans rfl, (blk_cell HM3.out 11).trans rfl, (blk_cell HM3.out 12).trans rfl, (blk_cell HM3.out 13).trans rfl, (blk_cell HR3.out 9).trans rfl, (blk_cell HR3.out 10).trans rfl⟩ (fun hHeld => ?_)
   clear hK K
   refine norm_ (a' := ?_) ?_ ?_
   rotate_left
   ·show Act.put _ (some 25) _ = _
    simp only [Act.put, List.setIfInBounds_toArray, List.set_cons_zero, List.set_cons_succ, i64_w, i32_w]
    rfl
   refine pure_ (i := 3) (N := some 26) (v := ?_) (a' := ?_) #[true, true, true, true, false, false, false, false, false, false, false, false, false, false, false, false, false, false, false, false, false, false, false, false] rfl rfl (by kernel_rfl) (fun _ _ _ h => h) (Or.inl ⟨by rfl, ?_⟩) ?_ ?_
   (rotate_left; · (intro w'; go_simp; with_reducible rfl))
   (rotate_left; · (simp only [Act.put, List.setIfInBounds_toArray, List.set_cons_zero, List.set_cons_succ, i64_w, i32_w]; rfl))
   refine pure_ (i := 4) (N := some 27) (v := ?_) (a' := ?_) #[true, true, true, true, true, false, false, false, false, false, false, false, false, false, false, false, false, false, false, false, false, false, false, false] rfl rfl (by kernel_rfl) (fun _ _ _ h => h) (Or.inl ⟨by rfl, ?_⟩) ?_ ?_
   (rotate_left; · (intro w'; go_simp; with_reducible rfl))
   (rotate_left; · (simp only [Act.put, List.setIfInBounds_toArray, List.set_cons_zero, List.set_cons_succ, i64_w, i32_w]; rfl))
   refine pure_ (i := 5) (N := some 28) (v := ?_) (a' := ?_) #[true, true, true, true, true, true, false, false, false, false, false, false, false, false, false, false, false, false, false, false, false, false, false, false] rfl rfl (by kernel_rfl) (fun _ _ _ h => h) (Or.inl ⟨by rfl, ?_⟩) ?_ ?_
   (rotate_left; · (intro w'; go_simp; with_reducible rfl))
   (rotate_left; · (simp only [Act.put, List.setIfInBounds_toArray, List.set_cons_zero, List.set_cons_succ, i64_w, i32_w]; rfl))
   refine pure_ (i := 6) (N := some 29) (v := ?_) (a' := ?_) #[true, true, true, true, true, true, true, false, false, false, false, false, false, false, false, false, false, false, false, false, false, false, false, false] rfl rfl (by kernel_rfl) (fun _ _ _ h => h) (Or.inl ⟨by rfl, ?_⟩) ?_ ?_
   (rotate_left; · (intro w'; go_simp; with_reducible rfl))
   (rotate_left; · (simp only [Act.put, List.setIfInBounds_toArray, List.set_cons_zero, List.set_cons_succ, i64_w, i32_w]; rfl))
   refine pure_ (i := 9) (N := some 32) (v := ?_) (a' := ?_) #[true, true, true, true, true, true, true, false, false, true, false, false, false, false, false, false, false, false, false, false, false, false, false, false] rfl rfl (by kernel_rfl) (fun _ _ _ h => h) (Or.inl ⟨by rfl, ?_⟩) ?_ ?_
   (rotate_left; · (intro w'; go_simp; with_reducible rfl))
   (rotate_left; · (simp only [Act.put, List.setIfInBounds_toArray, List.set_cons_zero, List.set_cons_succ, i64_w, i32_w]; rfl))
   refine pure_ (i := 10) (N := some 33) (v := ?_) (a' := ?_) #[true, true, true, true, true, true, true, false, false, true, true, false, false, false, false, false, false, false, false, false, false, false, false, false] rfl rfl (by kernel_rfl) (fun _ _ _ h => h) (Or.inl ⟨by rfl, ?_⟩) ?_ ?_
   (rotate_left; · (intro w'; go_simp; with_reducible rfl))
   (rotate_left; · (simp only [Act.put, List.setIfInBounds_toArray, List.set_cons_zero, List.set_cons_succ, i64_w, i32_w]; rfl))
   refine take_ (i := 7) (N := some 30) (v := ?_) (a' := ?_) #[true, true, true, true, true, true, true, true, false, true, true, false, false, false, false, false, false, false, false, false, false, false, false, false] rfl rfl (by kernel_rfl) (fun _ _ _ h => h) (Or.inl ⟨by rfl, ?_⟩) hHeld ?_ ?_
   rotate_left
   ·rintro w' ⟨s0, s1, s2, s3, s4, s5, s6, s7, s8, s9⟩
    go_simp
    with_reducible rfl
   (rotate_left; · (simp only [Act.put, List.setIfInBounds_toArray, List.set_cons_zero, List.set_cons_succ, i64_w, i32_w]; rfl))
   refine pure_ (i := 8) (N := some 31) (v := ?_) (a' := ?_) #[true, true, true, true, true, true, true, true, true, true, true, false, false, false, false, false, false, false, false, false, false, false, false, false] rfl rfl (by kernel_rfl) (fun _ _ _ h => h) (Or.inl ⟨by rfl, ?_⟩) ?_ ?_
   (rotate_left; · (intro w'; go_simp; with_reducible rfl))
   (rotate_left; · (simp only [Act.put, List.setIfInBounds_toArray, List.set_cons_zero, List.set_cons_succ, i64_w, i32_w]; rfl))
   refine take_ (i := 11) (N := some 34) (v := ?_) (a' := ?_) #[true, true, true, true, true, true, true, true, true, true, true, true, false, false, false, false, false, false, false, false, false, false, false, false] rfl rfl (by kernel_rfl) (fun _ _ _ h => h) (Or.inl ⟨by rfl, ?_⟩) hHeld ?_ ?_
   rotate_left
   ·rintro w' ⟨s0, s1, s2, s3, s4, s5, s6, s7, s8, s9⟩
    go_simp
    with_reducible rfl
   (rotate_left; · (simp only [Act.put, List.setIfInBounds_toArray, List.set_cons_zero, List.set_cons_succ, i64_w, i32_w]; rfl))
   refine one_ (i := 12) (N := some 35) #[true, true, true, true, true, true, true, true, true, true, true, true, true, false, false, false, false, false, false, false, false, false, false, false] rfl rfl (by kernel_rfl) (by decide) (fun K hK => ?_)
   refine goes_ Try.func17 (by kernel_rfl) rfl #[.slice A l.length c] (by rfl) rfl rfl (by simp only [List.map_toArray, List.map_cons, List.map_nil]; rfl) ?_
   with_reducible refine ((Q.copyholdref01_Long.calls kk A c l _ _ (Kd.C_below HA.out HB3.out) HC.out HL.out)).mono ?_
   rintro e w4 ⟨rfl, ⟨nd, rfl⟩⟩
   refine ⟨_, rfl, ?_⟩
   have HM4 : Hid (CB (w3.drewN nd) _ _ _) := Lib.hid HM3.out
   have HR4 : Hid (CB (w3.drewN nd) _ _ _) := Lib.hid HR3.out
   refine hK.out _ _ ⟨(blk_cell HM4.out 6).trans rfl, (blk_cell HM4.out 7).trans rfl, (blk_cell HM4.out 8).trans rfl, (blk_cell HM4.out 9).trans rfl, (blk_cell HM4.out 10).trans rfl, (blk_cell HM4.out 11).trans rfl, (blk_cell HM4.out 12).trans rfl, (blk_cell HM4.out 13).trans rfl, (blk_cell HR4.out 9).trans rfl, (blk_cell HR4.out 10).trans rfl⟩ (fun hHeld => ?_)
   clear hK K
   refine norm_ (a' := ?_) ?_ ?_
   rotate_left
   ·show Act.put _ (some 35) _ = _
    simp only [Act.put, List.setIfInBounds_toArray, List.set_cons_zero, List.set_cons_succ, i64_w, i32_w]
    rfl
   refine pure_ (i := 13) (N := some 36) (v := ?_) (a' := ?_) #[true, true, true, true, true, true, true, true, true, true, true, true, true, true, false, false, false, false, false, false, false, false, false, false] rfl rfl (by kernel_rfl) (fun _ _ _ h => h) (Or.inl ⟨by rfl, ?_⟩) ?_ ?_
   (rotate_left; · (intro w'; go_simp; with_reducible rfl))
   (rotate_left; · (simp only [Act.put, List.setIfInBounds_toArray, List.set_cons_zero, List.set_cons_succ, i64_w, i32_w]; rfl))
   refine pure_ (i := 14) (N := some 37) (v := ?_) (a' := ?_) #[true, true, true, true, true, true, true, true, true, true, true, true, true, true, true, false, false, false, false, false, false, false, false, false] rfl rfl (by kernel_rfl) (fun _ _ _ h => h) (Or.inl ⟨by rfl, ?_⟩) ?_ ?_
   (rotate_left; · (intro w'; go_simp; with_reducible rfl))
   (rotate_left; · (simp only [Act.put, List.setIfInBounds_toArray, List.set_cons_zero, List.set_cons_succ, i64_w, i32_w]; rfl))
   refine pure_ (i := 15) (N := some 38) (v := ?_) (a' := ?_) #[true, true, true, true, true, true, true, true, true, true, true, true, true, true, true, true, false, false, false, false, false, false, false, false] rfl rfl (by kernel_rfl) (fun _ _ _ h => h) (Or.inl ⟨by rfl, ?_⟩) ?_ ?_
   (rotate_left; · (intro w'; go_simp; with_reducible rfl))
   (rotate_left; · (simp only [Act.put, List.setIfInBounds_toArray, List.set_cons_zero, List.set_cons_succ, i64_w, i32_w]; rfl))
   refine pure_ (i := 16) (N := some 39) (v := ?_) (a' := ?_) #[true, true, true, true, true, true, true, true, true, true, true, true, true, true, true, true, true, false, false, false, false, false, false, false] rfl rfl (by kernel_rfl) (fun _ _ _ h => h) (Or.inl ⟨by rfl, ?_⟩) ?_ ?_
   (rotate_left; · (intro w'; go_simp; with_reducible rfl))
   (rotate_left; · (simp only [Act.put, List.setIfInBounds_toArray, List.set_cons_zero, List.set_cons_succ, i64_w, i32_w]; rfl))
   refine pure_ (i := 17) (N := some 40) (v := undef) (a' := ?_) #[true, true, true, true, true, true, true, true, true, true, true, true, true, true, true, true, true, true, false, false, false, false, false, false] rfl rfl (by kernel_rfl) (fun _ _ _ h => h) (Or.inr ⟨by rfl, rfl⟩) ?_ ?_
   (rotate_left; · (simp only [Act.put, List.setIfInBounds_toArray, List.set_cons_zero, List.set_cons_succ, i64_w, i32_w]; rfl))
   refine pure_ (i := 18) (N := some 41) (v := undef) (a' := ?_) #[true, true, true, true, true, true, true, true, true, true, true, true, true, true, true, true, true, true, true, false, false, false, false, false] rfl rfl (by kernel_rfl) (fun _ _ _ h => h) (Or.inr ⟨by rfl, rfl⟩) ?_ ?_
   (rotate_left; · (simp only [Act.put, List.setIfInBounds_toArray, List.set_cons_zero, List.set_cons_succ, i64_w, i32_w]; rfl))
   refine pure_ (i := 19) (N := some 42) (v := ?_) (a' := ?_) #[true, true, true, true, true, true, true, true, true, true, true, true, true, true, true, true, true, true, true, true, false, false, false, false] rfl rfl (by kernel_rfl) (fun _ _ _ h => h) (Or.inl ⟨by rfl, ?_⟩) ?_ ?_
   (rotate_left; · (intro w'; go_simp; with_reducible rfl))
   (rotate_left; · (simp only [Act.put, List.setIfInBounds_toArray, List.set_cons_zero, List.set_cons_succ, i64_w, i32_w]; rfl))
   refine pure_ (i := 20) (N := some 43) (v := ?_) (a' := ?_) #[true, true, true, true, true, true, true, true, true, true, true, true, true, true, true, true, true, true, true, true, true, false, false, false] rfl rfl (by kernel_rfl) (fun _ _ _ h => h) (Or.inl ⟨by rfl, ?_⟩) ?_ ?_
   (rotate_left; · (intro w'; go_simp; with_reducible rfl))
   (rotate_left; · (simp only [Act.put, List.setIfInBounds_toArray, List.set_cons_zero, List.set_cons_succ, i64_w, i32_w]; rfl))
   refine pure_ (i := 21) (N := some 44) (v := undef) (a' := ?_) #[true, true, true, true, true, true, true, true, true, true, true, true, true, true, true, true, true, true, true, true, true, true, false, false] rfl rfl (by kernel_rfl) (fun _ _ _ h => h) (Or.inr ⟨by rfl, rfl⟩) ?_ ?_
   (rotate_left; · (simp only [Act.put, List.setIfInBounds_toArray, List.set_cons_zero, List.set_cons_succ, i64_w, i32_w]; rfl))
   refine pure_ (i := 22) (N := some 45) (v := undef) (a' := ?_) #[true, true, true, true, true, true, true, true, true, true, true, true, true, true, true, true, true, true, true, true, true, true, true, false] rfl rfl (by kernel_rfl) (fun _ _ _ h => h) (Or.inr ⟨by rfl, rfl⟩) ?_ ?_
   (rotate_left; · (simp only [Act.put, List.setIfInBounds_toArray, List.set_cons_zero, List.set_cons_succ, i64_w, i32_w]; rfl))
   refine pure_ (i := 23) (N := some 46) (v := ?_) (a' := ?_) #[true, true, true, true, true, true, true, true, true, true, true, true, true, true, true, true, true, true, true, true, true, true, true, true] rfl rfl (by kernel_rfl) (fun _ _ _ h => h) (Or.inl ⟨by rfl, ?_⟩) ?_ ?_
   (rotate_left; · (intro w'; go_simp; with_reducible rfl))
   (rotate_left; · (simp only [Act.put, List.setIfInBounds_toArray, List.set_cons_zero, List.set_cons_succ, i64_w, i32_w]; rfl))
   refine done_ (by kernel_rfl) ?_
   go_wp2_with fail
   go_ret
   exact ⟨rfl, pw_below_drewN HB3.out _⟩
  cases d3 : ((by_.toNat : Int) == 0)
  rotate_left
  ·go_wp2_with fail
   refine start_ (n := 24) (S := fun w' => w'.cell? ⟨w.heap.size + 1, 6, none⟩ = some (.int .i64 m6) ∧ w'.cell? ⟨w.heap.size + 1, 7, none⟩ = some (.int .i64 m7) ∧ w'.cell? ⟨w.heap.size + 1, 8, none⟩ = some (.int .i64 m8) ∧ w'.cell? ⟨w.heap.size + 1, 9, none⟩ = some (.int .i64 m9) ∧ w'.cell? ⟨w.heap.size + 1, 10, none⟩ = some (.int .i64 m10) ∧ w'.cell? ⟨w.heap.size + 1, 11, none⟩ = some (.string x) ∧ w'.cell? ⟨w.heap.size + 1, 12, none⟩ = some (.string y) ∧ w'.cell? ⟨w.heap.size + 1, 13, none⟩ = some (.string z) ∧ w'.cell? ⟨w.heap.size + 1 + 1, 9, none⟩ = some (.string p) ∧ w'.cell? ⟨w.heap.size + 1 + 1, 10, none⟩ = some (.slice A l.length c)) (ds := []) #[false, false, false, false, false, false, false, false, false, false, false, false, false, false, false, false, false, false, false, false, false, false, false, false] (by kernel_rfl) rfl rfl ⟨(blk_cell HM1.out 6).trans rfl, (blk_cell HM1.out 7).trans rfl, (blk_cell HM1.out 8).trans rfl, (blk_cell HM1.out 9).trans rfl, (blk_cell HM1.out 10).trans rfl, (blk_cell HM1.out 11).trans rfl, (blk_cell HM1.out 12).trans rfl, (blk_cell HM1.out 13).trans rfl, (blk_cell HR1.out 9).trans rfl, (blk_cell HR1.out 10).trans rfl⟩ (fun hHeld => ?_)
   refine pure_ (i := 0) (N := some 23) (v := ?_) (a' := ?_) #[true, false, false, false, false, false, false, false, false, false, false, false, false, false, false, false, false, false, false, false, false, false, false, false] rfl rfl (by kernel_rfl) (fun _ _ _ h => h) (Or.inl ⟨by rfl, ?_⟩) ?_ ?_
   (rotate_left; · (intro w'; go_simp; with_reducible rfl))
   (rotate_left; · (simp only [Act.put, List.setIfInBounds_toArray, List.set_cons_zero, List.set_cons_succ, i64_w, i32_w]; rfl))
   refine take_ (i := 1) (N := some 24) (v := ?_) (a' := ?_) #[true, true, false, false, false, false, false, false, false, false, false, false, false, false, false, false, false, false, false, false, false, false, false, false] rfl rfl (by kernel_rfl) (fun _ _ _ h => h) (Or.inl ⟨by rfl, ?_⟩) hHeld ?_ ?_
   rotate_left
   ·rintro w' ⟨s0, s1, s2, s3, s4, s5, s6, s7, s8, s9⟩
    go_simp
    with_reducible rfl
   (rotate_left; · (simp only [Act.put, List.setIfInBounds_toArray, List.set_cons_zero, List.set_cons_succ, i64_w, i32_w]; rfl))
   refine one_ (i := 2) (N := some 25) #[true, true, true, false, false, false, false, false, false, false, false, false, false, false, false, false, false, false, false, false, false, false, false, false] rfl rfl (by kernel_rfl) (by decide) (fun K hK => ?_)
   refine goes_ Try.func11 (by kernel_rfl) rfl #[.agg #[.int .i64 m6, .int .i64 m7, .int .i64 m8, .int .i64 m9, .int .i64 m10, .string x, .string y, .string z]] (by rfl) rfl rfl (by simp only [List.map_toArray, List.map_cons, List.map_nil]; rfl) ?_
   with_reducible refine ((Q.copyholdlaw15_short.calls m6 m7 m8 m9 m10 x y z _ _ HS.out)).mono ?_
   rintro e w3 ⟨rfl, hb3⟩
   refine ⟨_, rfl, ?_⟩
   have HM3 : Hid (CB w3 _ _ _) := Lib.hid ((hb3.block _ (blk_lt HM1.out)).trans HM1.out)
   have HR3 : Hid (CB w3 _ _ _) := Lib.hid ((hb3.block _ (blk_lt HR1.out)).trans HR1.out)
   have HB3 := Lib.hid (below_then HB1.out HB1.out.size hb3)
   clear hb3 HM1 HR1 HB1
   refine hK.out _ _ ⟨(blk_cell HM3.out 6).trans rfl, (blk_cell HM3.out 7).trans rfl, (blk_cell HM3.out 8).trans rfl, (blk_cell HM3.out 9).trans rfl, (blk_cell HM3.out 10).trans rfl, (blk_cell HM3.out 11).trans rfl, (blk_cell HM3.out 12).trans rfl, (blk_cell HM3.out 13).trans rfl, (blk_cell HR3.out 9).trans rfl, (blk_cell HR3.out 10).trans rfl⟩ (fun hHeld => ?_)
   clear hK K
   refine norm_ (a' := ?_) ?_ ?_
   rotate_left
   ·show Act.put _ (some 25) _ = _
    simp only [Act.put, List.setIfInBounds_toArray, List.set_cons_zero, List.set_cons_succ, i64_w, i32_w]
    rfl
   refine pure_ (i := 3) (N := some 26) (v := ?_) (a' := ?_) #[true, true, true, true, false, false, false, false, false, false, false, false, false, false, false, false, false, false, false, false, false, false, false, false] rfl rfl (by kernel_rfl) (fun _ _ _ h => h) (Or.inl ⟨by rfl, ?_⟩) ?_ ?_
   (rotate_left; · (intro w'; go_simp; with_reducible rfl))
   (rotate_left; · (simp only [Act.put, List.setIfInBounds_toArray, List.set_cons_zero, List.set_cons_succ, i64_w, i32_w]; rfl))
   refine pure_ (i := 4) (N := some 27) (v := ?_) (a' := ?_) #[true, true, true, true, true, false, false, false, false, false, false, false, false, false, false, false, false, false, false, false, false, false, false, false] rfl rfl (by kernel_rfl) (fun _ _ _ h => h) (Or.inl ⟨by rfl, ?_⟩) ?_ ?_
   (rotate_left; · (intro w'; go_simp; with_reducible rfl))
   (rotate_left; · (simp only [Act.put, List.setIfInBounds_toArray, List.set_cons_zero, List.set_cons_succ, i64_w, i32_w]; rfl))
   refine pure_ (i := 5) (N := some 28) (v := ?_) (a' := ?_) #[true, true, true, true, true, true, false, false, false, false, false, false, false, false, false, false, false, false, false, false, false, false, false, false] rfl rfl (by kernel_rfl) (fun _ _ _ h => h) (Or.inl ⟨by rfl, ?_⟩) ?_ ?_
   (rotate_left; · (intro w'; go_simp; with_reducible rfl))
   (rotate_left; · (simp only [Act.put, List.setIfInBounds_toArray, List.set_cons_zero, List.set_cons_succ, i64_w, i32_w]; rfl))
   refine pure_ (i := 6) (N := some 29) (v := ?_) (a' := ?_) #[true, true, true, true, true, true, true, false, false, false, false, false, false, false, false, false, false, false, false, false, false, false, false, false] rfl rfl (by kernel_rfl) (fun _ _ _ h => h) (Or.inl ⟨by rfl, ?_⟩) ?_ ?_
   (rotate_left; · (intro w'; go_simp; with_reducible rfl))
   (rotate_left; · (simp only [Act.put, List.setIfInBounds_toArray, List.set_cons_zero, List.set_cons_succ, i64_w, i32_w]; rfl))
   refine pure_ (i := 9) (N := some 32) (v := ?_) (a' := ?_) #[true, true, true, true, true, true, true, false, false, true, false, false, false, false, false, false, false, false, false, false, false, false, false, false] rfl rfl (by kernel_rfl) (fun _ _ _ h => h) (Or.inl ⟨by rfl, ?_⟩) ?_ ?_
   (rotate_left; · (intro w'; go_simp; with_reducible rfl))
   (rotate_left; · (simp only [Act.put, List.setIfInBounds_toArray, List.set_cons_zero, List.set_cons_succ, i64_w, i32_w]; rfl))
   refine pure_ (i := 10) (N := some 33) (v := ?_) (a' := ?_) #[true, true, true, true, true, true, true, false, false, true, true, false, false, false, false, false, false, false, false, false, false, false, false, false] rfl rfl (by kernel_rfl) (fun _ _ _ h => h) (Or.inl ⟨by rfl, ?_⟩) ?_ ?_
   (rotate_left; · (intro w'; go_simp; with_reducible rfl))
   (rotate_left; · (simp only [Act.put, List.setIfInBounds_toArray, List.set_cons_zero, List.set_cons_succ, i64_w, i32_w]; rfl))
   refine take_ (i := 7) (N := some 30) (v := ?_) (a' := ?_) #[true, true, true, true, true, true, true, true, false, true, true, false, false, false, false, false, false, false, false, false, false, false, false, false] rfl rfl (by kernel_rfl) (fun _ _ _ h => h) (Or.inl ⟨by rfl, ?_⟩) hHeld ?_ ?_
   rotate_left
   ·rintro w' ⟨s0, s1, s2, s3, s4, s5, s6, s7, s8, s9⟩
    go_simp
    with_reducible rfl
   (rotate_left; · (simp only [Act.put, List.setIfInBounds_toArray, List.set_cons_zero, List.set_cons_succ, i64_w, i32_w]; rfl))
   refine pure_ (i := 8) (N := some 31) (v := ?_) (a' := ?_) #[true, true, true, true, true, true, true, true, true, true, true, false, false, false, false, false, false, false, false, false, false, false, false, false] rfl rfl (by kernel_rfl) (fun _ _ _ h => h) (Or.inl ⟨by rfl, ?_⟩) ?_ ?_
   (rotate_left; · (intro w'; go_simp; with_reducible rfl))
   (rotate_left; · (simp only [Act.put, List.setIfInBounds_toArray, List.set_cons_zero, List.set_cons_succ, i64_w, i32_w]; rfl))
   refine take_ (i := 11) (N := some 34) (v := ?_) (a' := ?_) #[true, true, true, true, true, true, true, true, true, true, true, true, false, false, false, false, false, false, false, false, false, false, false, false] rfl rfl (by kernel_rfl) (fun _ _ _ h => h) (Or.inl ⟨by rfl, ?_⟩) hHeld ?_ ?_
   rotate_left
   ·rintro w' ⟨s0, s1, s2, s3, s4, s5, s6, s7, s8, s9⟩
    go_simp
    with_reducible rfl
   (rotate_left; · (simp only [Act.put, List.setIfInBounds_toArray, List.set_cons_zero, List.set_cons_succ, i64_w, i32_w]; rfl))
   refine one_ (i := 12) (N := some 35) #[true, true, true, true, true, true, true, true, true, true, true, true, true, false, false, false, false, false, false, false, false, false, false, false] rfl rfl (by kernel_rfl) (by decide) (fun K hK => ?_)
   refine goes_ Try.func17 (by kernel_rfl) rfl #[.slice A l.length c] (by rfl) rfl rfl (by simp only [List.map_toArray, List.map_cons, List.map_nil]; rfl) ?_
   with_reducible refine ((Q.copyholdref01_Long.calls kk A c l _ _ (Kd.C_below HA.out HB3.out) HC.out HL.out)).mono ?_
   rintro e w4 ⟨rfl, ⟨nd, rfl⟩⟩
   refine ⟨_, rfl, ?_⟩
   have HM4 : Hid (CB (w3.drewN nd) _ _ _) := Lib.hid HM3.out
   have HR4 : Hid (CB (w3.drewN nd) _ _ _) := Lib.hid HR3.out
   refine hK.out _ _ ⟨(blk_cell HM4.out 6).trans rfl, (blk_cell HM4.out 7).trans rfl, (blk_cell HM4.out 8).trans rfl, (blk_cell HM4.out 9).trans rfl, (blk_cell HM4.out 10).trans rfl, (blk_cell HM4.out 11).trans rfl, (blk_cell HM4.out 12).trans rfl, (blk_cell HM4.out 13).trans rfl, (blk_cell HR4.out 9).trans rfl, (blk_cell HR4.out 10).trans rfl⟩ (fun hHeld => ?_)
   clear hK K
   refine norm_ (a' := ?_) ?_ ?_
   rotate_left
   ·show Act.put _ (some 35) _ = _
    simp only [Act.put, List.setIfInBounds_toArray, List.set_cons_zero, List.set_cons_succ, i64_w, i32_w]
    rfl
   refine pure_ (i := 13) (N := some 36) (v := ?_) (a' := ?_) #[true, true, true, true, true, true, true, true, true, true, true, true, true, true, false, false, false, false, false, false, false, false, false, false] rfl rfl (by kernel_rfl) (fun _ _ _ h => h) (Or.inl ⟨by rfl, ?_⟩) ?_ ?_
   (rotate_left; · (intro w'; go_simp; with_reducible rfl))
   (rotate_left; · (simp only [Act.put, List.setIfInBounds_toArray, List.set_cons_zero, List.set_cons_succ, i64_w, i32_w]; rfl))
   refine pure_ (i := 14) (N := some 37) (v := ?_) (a' := ?_) #[true, true, true, true, true, true, true, true, true, true, true, true, true, true, true, false, false, false, false, false, false, false, false, false] rfl rfl (by kernel_rfl) (fun _ _ _ h => h) (Or.inl ⟨by rfl, ?_⟩) ?_ ?_
   (rotate_left; · (intro w'; go_simp; with_reducible rfl))
   (rotate_left; · (simp only [Act.put, List.setIfInBounds_toArray, List.set_cons_zero, List.set_cons_succ, i64_w, i32_w]; rfl))
   refine pure_ (i := 15) (N := some 38) (v := ?_) (a' := ?_) #[true, true, true, true, true, true, true, true, true, true, true, true, true, true, true, true, false, false, false, false, false, false, false, false] rfl rfl (by kernel_rfl) (fun _ _ _ h => h) (Or.inl ⟨by rfl, ?_⟩) ?_ ?_
   (rotate_left; · (intro w'; go_simp; with_reducible rfl))
   (rotate_left; · (simp only [Act.put, List.setIfInBounds_toArray, List.set_cons_zero, List.set_cons_succ, i64_w, i32_w]; rfl))
   refine pure_ (i := 16) (N := some 39) (v := ?_) (a' := ?_) #[true, true, true, true, true, true, true, true, true, true, true, true, true, true, true, true, true, false, false, false, false, false, false, false] rfl rfl (by kernel_rfl) (fun _ _ _ h => h) (Or.inl ⟨by rfl, ?_⟩) ?_ ?_
   (rotate_left; · (intro w'; go_simp; with_reducible rfl))
   (rotate_left; · (simp only [Act.put, List.setIfInBounds_toArray, List.set_cons_zero, List.set_cons_succ, i64_w, i32_w]; rfl))
   refine pure_ (i := 17) (N := some 40) (v := ?_) (a' := ?_) #[true, true, true, true, true, true, true, true, true, true, true, true, true, true, true, true, true, true, false, false, false, false, false, false] rfl rfl (by kernel_rfl) (fun _ _ _ h => h) (Or.inl ⟨by rfl, ?_⟩) ?_ ?_
   (rotate_left; · (intro w'; go_simp; with_reducible rfl))
   (rotate_left; · (simp only [Act.put, List.setIfInBounds_toArray, List.set_cons_zero, List.set_cons_succ, i64_w, i32_w]; rfl))
   refine pure_ (i := 18) (N := some 41) (v := ?_) (a' := ?_) #[true, true, true, true, true, true, true, true, true, true, true, true, true, true, true, true, true, true, true, false, false, false, false, false] rfl rfl (by kernel_rfl) (fun _ _ _ h => h) (Or.inl ⟨by rfl, ?_⟩) ?_ ?_
   (rotate_left; · (intro w'; go_simp; with_reducible rfl))
   (rotate_left; · (simp only [Act.put, List.setIfInBounds_toArray, List.set_cons_zero, List.set_cons_succ, i64_w, i32_w]; rfl))
   refine pure_ (i := 19) (N := some 42) (v := ?_) (a' := ?_) #[true, true, true, true, true, true, true, true, true, true, true, true, true, true, true, true, true, true, true, true, false, false, false, false] rfl rfl (by kernel_rfl) (fun _ _ _ h => h) (Or.inl ⟨by rfl, ?_⟩) ?_ ?_
   (rotate_left; · (intro w'; go_simp; with_reducible rfl))
   (rotate_left; · (simp only [Act.put, List.setIfInBounds_toArray, List.set_cons_zero, List.set_cons_succ, i64_w, i32_w]; rfl))
   refine pure_ (i := 20) (N := some 43) (v := ?_) (a' := ?_) #[true, true, true, true, true, true, true, true, true, true, true, true, true, true, true, true, true, true, true, true, true, false, false, false] rfl rfl (by kernel_rfl) (fun _ _ _ h => h) (Or.inl ⟨by rfl, ?_⟩) ?_ ?_
   (rotate_left; · (intro w'; go_simp; with_reducible rfl))
   (rotate_left; · (simp only [Act.put, List.setIfInBounds_toArray, List.set_cons_zero, List.set_cons_succ, i64_w, i32_w]; rfl))
   refine pure_ (i := 21) (N := some 44) (v := undef) (a' := ?_) #[true, true, true, true, true, true, true, true, true, true, true, true, true, true, true, true, true, true, true, true, true, true, false, false] rfl rfl (by kernel_rfl) (fun _ _ _ h => h) (Or.inr ⟨by rfl, rfl⟩) ?_ ?_
   (rotate_left; · (simp only [Act.put, List.setIfInBounds_toArray, List.set_cons_zero, List.set_cons_succ, i64_w, i32_w]; rfl))
   refine pure_ (i := 22) (N := some 45) (v := undef) (a' := ?_) #[true, true, true, true, true, true, true, true, true, true, true, true, true, true, true, true, true, true, true, true, true, true, true, false] rfl rfl (by kernel_rfl) (fun _ _ _ h => h) (Or.inr ⟨by rfl, rfl⟩) ?_ ?_
   (rotate_left; · (simp only [Act.put, List.setIfInBounds_toArray, List.set_cons_zero, List.set_cons_succ, i64_w, i32_w]; rfl))
   refine pure_ (i := 23) (N := some 46) (v := ?_) (a' := ?_) #[true, true, true, true, true, true, true, true, true, true, true, true, true, true, true, true, true, true, true, true, true, true, true, true] rfl rfl (by kernel_rfl) (fun _ _ _ h => h) (Or.inl ⟨by rfl, ?_⟩) ?_ ?_
   (rotate_left; · (intro w'; go_simp; with_reducible rfl))
   (rotate_left; · (simp only [Act.put, List.setIfInBounds_toArray, List.set_cons_zero, List.set_cons_succ, i64_w, i32_w]; rfl))
   refine done_ (by kernel_rfl) ?_
   go_wp2_with fail
   go_ret
   exact ⟨rfl, pw_below_drewN HB3.out _⟩
  cases d4 : decide (at_ < 0)
  rotate_left
  ·go_wp2_with fail
   refine start_ (n := 24) (S := fun w' => w'.cell? ⟨w.heap.size + 1, 6, none⟩ = some (.int .i64 m6) ∧ w'.cell? ⟨w.heap.size + 1, 7, none⟩ = some (.int .i64 m7) ∧ w'.cell? ⟨w.heap.size + 1, 8, none⟩ = some (.int .i64 m8) ∧ w'.cell? ⟨w.heap.size + 1, 9, none⟩ = some (.int .i64 m9) ∧ w'.cell? ⟨w.heap.size + 1, 10, none⟩ = some (.int .i64 m10) ∧ w'.cell? ⟨w.heap.size + 1, 11, none⟩ = some (.string x) ∧ w'.cell? ⟨w.heap.size + 1, 12, none⟩ = some (.string y) ∧ w'.cell? ⟨w.heap.size + 1, 13, none⟩ = some (.string z) ∧ w'.cell? ⟨w.heap.size + 1 + 1, 9, none⟩ = some (.string p) ∧ w'.cell? ⟨w.heap.size + 1 + 1, 10, none⟩ = some (.slice A l.length c)) (ds := []) #[false, false, false, false, false, false, false, false, false, false, false, false, false, false, false, false, false, false, false, false, false, false, false, false] (by kernel_rfl) rfl rfl ⟨(blk_cell HM1.out 6).trans rfl, (blk_cell HM1.out 7).trans rfl, (blk_cell HM1.out 8).trans rfl, (blk_cell HM1.out 9).trans rfl, (blk_cell HM1.out 10).trans rfl, (blk_cell HM1.out 11).trans rfl, (blk_cell HM1.out 12).trans rfl, (blk_cell HM1.out 13).trans rfl, (blk_cell HR1.out 9).trans rfl, (blk_cell HR1.out 10).trans rfl⟩ (fun hHeld => ?_)
   refine pure_ (i := 0) (N := some 23) (v := ?_) (a' := ?_) #[true, false, false, false, false, false, false, false, false, false, false, false, false, false, false, false, false, false, false, false, false, false, false, false] rfl rfl (by kernel_rfl) (fun _ _ _ h => h) (Or.inl ⟨by rfl, ?_⟩) ?_ ?_
   (rotate_left; · (intro w'; go_simp; with_reducible rfl))
   (rotate_left; · (simp only [Act.put, List.setIfInBounds_toArray, List.set_cons_zero, List.set_cons_succ, i64_w, i32_w]; rfl))
   refine take_ (i := 1) (N := some 24) (v := ?_) (a' := ?_) #[true, true, false, false, false, false, false, false, false, false, false, false, false, false, false, false, false, false, false, false, false, false, false, false] rfl rfl (by kernel_rfl) (fun _ _ _ h => h) (Or.inl ⟨by rfl, ?_⟩) hHeld ?_ ?_
   rotate_left
   ·rintro w' ⟨s0, s1, s2, s3, s4, s5, s6, s7, s8, s9⟩
    go_simp
    with_reducible rfl
   (rotate_left; · (simp only [Act.put, List.setIfInBounds_toArray, List.set_cons_zero, List.set_cons_succ, i64_w, i32_w]; rfl))
   refine one_ (i := 2) (N := some 25) #[true, true, true, false, false, false, false, false, false, false, false, false, false, false, false, false, false, false, false, false, false, false, false, false] rfl rfl (by kernel_rfl) (by decide) (fun K hK => ?_)
   refine goes_ Try.func11 (by kernel_rfl) rfl #[.agg #[.int .i64 m6, .int .i64 m7, .int .i64 m8, .int .i64 m9, .int .i64 m10, .string x, .string y, .string z]] (by rfl) rfl rfl (by simp only [List.map_toArray, List.map_cons, List.map_nil]; rfl) ?_
   with_reducible refine ((Q.copyholdlaw15_short.calls m6 m7 m8 m9 m10 x y z _ _ HS.out)).mono ?_
   rintro e w3 ⟨rfl, hb3⟩
   refine ⟨_, rfl, ?_⟩
   have HM3 : Hid (CB w3 _ _ _) := Lib.hid ((hb3.block _ (blk_lt HM1.out)).trans HM1.out)
   have HR3 : Hid (CB w3 _ _ _) := Lib.hid ((hb3.block _ (blk_lt HR1.out)).trans HR1.out)
   have HB3 := Lib.hid (below_then HB1.out HB1.out.size hb3)
   clear hb3 HM1 HR1 HB1
   refine hK.out _ _ ⟨(blk_cell HM3.out 6).trans rfl, (blk_cell HM3.out 7).trans rfl, (blk_cell HM3.out 8).trans rfl, (blk_cell HM3.out 9).trans rfl, (blk_cell HM3.out 10).trans rfl, (blk_cell HM3.out 11).trans rfl, (blk_cell HM3.out 12).trans rfl, (blk_cell HM3.out 13).trans rfl, (blk_cell HR3.out 9).trans rfl, (blk_cell HR3.out 10).trans rfl⟩ (fun hHeld => ?_)
   clear hK K
   refine norm_ (a' := ?_) ?_ ?_
   rotate_left
   ·show Act.put _ (some 25) _ = _
    simp only [Act.put, List.setIfInBounds_toArray, List.set_cons_zero, List.set_cons_succ, i64_w, i32_w]
    rfl
   refine pure_ (i := 3) (N := some 26) (v := ?_) (a' := ?_) #[true, true, true, true, false, false, false, false, false, false, false, false, false, false, false, false, false, false, false, false, false, false, false, false] rfl rfl (by kernel_rfl) (fun _ _ _ h => h) (Or.inl ⟨by rfl, ?_⟩) ?_ ?_
   (rotate_left; · (intro w'; go_simp; with_reducible rfl))
   (rotate_left; · (simp only [Act.put, List.setIfInBounds_toArray, List.set_cons_zero, List.set_cons_succ, i64_w, i32_w]; rfl))
   refine pure_ (i := 4) (N := some 27) (v := ?_) (a' := ?_) #[true, true, true, true, true, false, false, false, false, false, false, false, false, false, false, false, false, false, false, false, false, false, false, false] rfl rfl (by kernel_rfl) (fun _ _ _ h => h) (Or.inl ⟨by rfl, ?_⟩) ?_ ?_
   (rotate_left; · (intro w'; go_simp; with_reducible rfl))
   (rotate_left; · (simp only [Act.put, List.setIfInBounds_toArray, List.set_cons_zero, List.set_cons_succ, i64_w, i32_w]; rfl))
   refine pure_ (i := 5) (N := some 28) (v := ?_) (a' := ?_) #[true, true, true, true, true, true, false, false, false, false, false, false, false, false, false, false, false, false, false, false, false, false, false, false] rfl rfl (by kernel_rfl) (fun _ _ _ h => h) (Or.inl ⟨by rfl, ?_⟩) ?_ ?_
   (rotate_left; · (intro w'; go_simp; with_reducible rfl))
   (rotate_left; · (simp only [Act.put, List.setIfInBounds_toArray, List.set_cons_zero, List.set_cons_succ, i64_w, i32_w]; rfl))
   refine pure_ (i := 6) (N := some 29) (v := ?_) (a' := ?_) #[true, true, true, true, true, true, true, false, false, false, false, false, false, false, false, false, false, false, false, false, false, false, false, false] rfl rfl (by kernel_rfl) (fun _ _ _ h => h) (Or.inl ⟨by rfl, ?_⟩) ?_ ?_
   (rotate_left; · (intro w'; go_simp; with_reducible rfl))
   (rotate_left; · (simp only [Act.put, List.setIfInBounds_toArray, List.set_cons_zero, List.set_cons_succ, i64_w, i32_w]; rfl))
   refine pure_ (i := 9) (N := some 32) (v := ?_) (a' := ?_) #[true, true, true, true, true, true, true, false, false, true, false, false, false, false, false, false, false, false, false, false, false, false, false, false] rfl rfl (by kernel_rfl) (fun _ _ _ h => h) (Or.inl ⟨by rfl, ?_⟩) ?_ ?_
   (rotate_left; · (intro w'; go_simp; with_reducible rfl))
   (rotate_left; · (simp only [Act.put, List.setIfInBounds_toArray, List.set_cons_zero, List.set_cons_succ, i64_w, i32_w]; rfl))
   refine pure_ (i := 10) (N := some 33) (v := ?_) (a' := ?_) #[true, true, true, true, true, true, true, false, false, true, true, false, false, false, false, false, false, false, false, false, false, false, false, false] rfl rfl (by kernel_rfl) (fun _ _ _ h => h) (Or.inl ⟨by rfl, ?_⟩) ?_ ?_
   (rotate_left; · (intro w'; go_simp; with_reducible rfl))
   (rotate_left; · (simp only [Act.put, List.setIfInBounds_toArray, List.set_cons_zero, List.set_cons_succ, i64_w, i32_w]; rfl))
   refine take_ (i := 7) (N := some 30) (v := ?_) (a' := ?_) #[true, true, true, true, true, true, true, true, false, true, true, false, false, false, false, false, false, false, false, false, false, false, false, false] rfl rfl (by kernel_rfl) (fun _ _ _ h => h) (Or.inl ⟨by rfl, ?_⟩) hHeld ?_ ?_
   rotate_left
   ·rintro w' ⟨s0, s1, s2, s3, s4, s5, s6, s7, s8, s9⟩
    go_simp
    with_reducible rfl
   (rotate_left; · (simp only [Act.put, List.setIfInBounds_toArray, List.set_cons_zero, List.set_cons_succ, i64_w, i32_w]; rfl))
   refine pure_ (i := 8) (N := some 31) (v := ?_) (a' := ?_) #[true, true, true, true, true, true, true, true, true, true, true, false, false, false, false, false, false, false, false, false, false, false, false, false] rfl rfl (by kernel_rfl) (fun _ _ _ h => h) (Or.inl ⟨by rfl, ?_⟩) ?_ ?_
   (rotate_left; · (intro w'; go_simp; with_reducible rfl))
   (rotate_left; · (simp only [Act.put, List.setIfInBounds_toArray, List.set_cons_zero, List.set_cons_succ, i64_w, i32_w]; rfl))
   refine take_ (i := 11) (N := some 34) (v := ?_) (a' := ?_) #[true, true, true, true, true, true, true, true, true, true, true, true, false, false, false, false, false, false, false, false, false, false, false, false] rfl rfl (by kernel_rfl) (fun _ _ _ h => h) (Or.inl ⟨by rfl, ?_⟩) hHeld ?_ ?_
   rotate_left
   ·rintro w' ⟨s0, s1, s2, s3, s4, s5, s6, s7, s8, s9⟩
    go_simp
    with_reducible rfl
   (rotate_left; · (simp only [Act.put, List.setIfInBounds_toArray, List.set_cons_zero, List.set_cons_succ, i64_w, i32_w]; rfl))
   refine one_ (i := 12) (N := some 35) #[true, true, true, true, true, true, true, true, true, true, true, true, true, false, false, false, false, false, false, false, false, false, false, false] rfl rfl (by kernel_rfl) (by decide) (fun K hK => ?_)
   refine goes_ Try.func17 (by kernel_rfl) rfl #[.slice A l.length c] (by rfl) rfl rfl (by simp only [List.map_toArray, List.map_cons, List.map_nil]; rfl) ?_
   with_reducible refine ((Q.copyholdref01_Long.calls kk A c l _ _ (Kd.C_below HA.out HB3.out) HC.out HL.out)).mono ?_
   rintro e w4 ⟨rfl, ⟨nd, rfl⟩⟩
   refine ⟨_, rfl, ?_⟩
   have HM4 : Hid (CB (w3.drewN nd) _ _ _) := Lib.hid HM3.out
   have HR4 : Hid (CB (w3.drewN nd) _ _ _) := Lib.hid HR3.out
   refine hK.out _ _ ⟨(blk_cell HM4.out 6).trans rfl, (blk_cell HM4.out 7).trans rfl, (blk_cell HM4.out 8).trans rfl, (blk_cell HM4.out 9).trans rfl, (blk_cell HM4.out 10).trans rfl, (blk_cell HM4.out 11).trans rfl, (blk_cell HM4.out 12).trans rfl, (blk_cell HM4.out 13).trans rfl, (blk_cell HR4.out 9).trans rfl, (blk_cell HR4.out 10).trans rfl⟩ (fun hHeld => ?_)
   clear hK K
   refine norm_ (a' := ?_) ?_ ?_
   rotate_left
   ·show Act.put _ (some 35) _ = _
    simp only [Act.put, List.setIfInBounds_toArray, List.set_cons_zero, List.set_cons_succ, i64_w, i32_w]
    rfl
   refine pure_ (i := 13) (N := some 36) (v := ?_) (a' := ?_) #[true, true, true, true, true, true, true, true, true, true, true, true, true, true, false, false, false, false, false, false, false, false, false, false] rfl rfl (by kernel_rfl) (fun _ _ _ h => h) (Or.inl ⟨by rfl, ?_⟩) ?_ ?_
   (rotate_left; · (intro w'; go_simp; with_reducible rfl))
   (rotate_left; · (simp only [Act.put, List.setIfInBounds_toArray, List.set_cons_zero, List.set_cons_succ, i64_w, i32_w]; rfl))
   refine pure_ (i := 14) (N := some 37) (v := ?_) (a' := ?_) #[true, true, true, true, true, true, true, true, true, true, true, true, true, true, true, false, false, false, false, false, false, false, false, false] rfl rfl (by kernel_rfl) (fun _ _ _ h => h) (Or.inl ⟨by rfl, ?_⟩) ?_ ?_
   (rotate_left; · (intro w'; go_simp; with_reducible rfl))
   (rotate_left; · (simp only [Act.put, List.setIfInBounds_toArray, List.set_cons_zero, List.set_cons_succ, i64_w, i32_w]; rfl))
   refine pure_ (i := 15) (N := some 38) (v := ?_) (a' := ?_) #[true, true, true, true, true, true, true, true, true, true, true, true, true, true, true, true, false, false, false, false, false, false, false, false] rfl rfl (by kernel_rfl) (fun _ _ _ h => h) (Or.inl ⟨by rfl, ?_⟩) ?_ ?_
   (rotate_left; · (intro w'; go_simp; with_reducible rfl))
   (rotate_left; · (simp only [Act.put, List.setIfInBounds_toArray, List.set_cons_zero, List.set_cons_succ, i64_w, i32_w]; rfl))
   refine pure_ (i := 16) (N := some 39) (v := ?_) (a' := ?_) #[true, true, true, true, true, true, true, true, true, true, true, true, true, true, true, true, true, false, false, false, false, false, false, false] rfl rfl (by kernel_rfl) (fun _ _ _ h => h) (Or.inl ⟨by rfl, ?_⟩) ?_ ?_
   (rotate_left; · (intro w'; go_simp; with_reducible rfl))
   (rotate_left; · (simp only [Act.put, List.setIfInBounds_toArray, List.set_cons_zero, List.set_cons_succ, i64_w, i32_w]; rfl))
   refine pure_ (i := 17) (N := some 40) (v := ?_) (a' := ?_) #[true, true, true, true, true, true, true, true, true, true, true, true, true, true, true, true, true, true, false, false, false, false, false, false] rfl rfl (by kernel_rfl) (fun _ _ _ h => h) (Or.inl ⟨by rfl, ?_⟩) ?_ ?_
   (rotate_left; · (intro w'; go_simp; with_reducible rfl))
   (rotate_left; · (simp only [Act.put, List.setIfInBounds_toArray, List.set_cons_zero, List.set_cons_succ, i64_w, i32_w]; rfl))
   refine pure_ (i := 18) (N := some 41) (v := ?_) (a' := ?_) #[true, true, true, true, true, true, true, true, true, true, true, true, true, true, true, true, true, true, true, false, false, false, false, false] rfl rfl (by kernel_rfl) (fun _ _ _ h => h) (Or.inl ⟨by rfl, ?_⟩) ?_ ?_
   (rotate_left; · (intro w'; go_simp; with_reducible rfl))
   (rotate_left; · (simp only [Act.put, List.setIfInBounds_toArray, List.set_cons_zero, List.set_cons_succ, i64_w, i32_w]; rfl))
   refine pure_ (i := 19) (N := some 42) (v := ?_) (a' := ?_) #[true, true, true, true, true, true, true, true, true, true, true, true, true, true, true, true, true, true, true, true, false, false, false, false] rfl rfl (by kernel_rfl) (fun _ _ _ h => h) (Or.inl ⟨by rfl, ?_⟩) ?_ ?_
   (rotate_left; · (intro w'; go_simp; with_reducible rfl))
   (rotate_left; · (simp only [Act.put, List.setIfInBounds_toArray, List.set_cons_zero, List.set_cons_succ, i64_w, i32_w]; rfl))
   refine pure_ (i := 20) (N := some 43) (v := ?_) (a' := ?_) #[true, true, true, true, true, true, true, true, true, true, true, true, true, true, true, true, true, true, true, true, true, false, false, false] rfl rfl (by kernel_rfl) (fun _ _ _ h => h) (Or.inl ⟨by rfl, ?_⟩) ?_ ?_
   (rotate_left; · (intro w'; go_simp; with_reducible rfl))
   (rotate_left; · (simp only [Act.put, List.setIfInBounds_toArray, List.set_cons_zero, List.set_cons_succ, i64_w, i32_w]; rfl))
   refine pure_ (i := 21) (N := some 44) (v := ?_) (a' := ?_) #[true, true, true, true, true, true, true, true, true, true, true, true, true, true, true, true, true, true, true, true, true, true, false, false] rfl rfl (by kernel_rfl) (fun _ _ _ h => h) (Or.inl ⟨by rfl, ?_⟩) ?_ ?_
   (rotate_left; · (intro w'; go_simp; with_reducible rfl))
   (rotate_left; · (simp only [Act.put, List.setIfInBounds_toArray, List.set_cons_zero, List.set_cons_succ, i64_w, i32_w]; rfl))
   refine pure_ (i := 22) (N := some 45) (v := ?_) (a' := ?_) #[true, true, true, true, true, true, true, true, true, true, true, true, true, true, true, true, true, true, true, true, true, true, true, false] rfl rfl (by kernel_rfl) (fun _ _ _ h => h) (Or.inl ⟨by rfl, ?_⟩) ?_ ?_
   (rotate_left; · (intro w'; go_simp; with_reducible rfl))
   (rotate_left; · (simp only [Act.put, List.setIfInBounds_toArray, List.set_cons_zero, List.set_cons_succ, i64_w, i32_w]; rfl))
   refine pure_ (i := 23) (N := some 46) (v := ?_) (a' := ?_) #[true, true, true, true, true, true, true, true, true, true, true, true, true, true, true, true, true, true, true, true, true, true, true, true] rfl rfl (by kernel_rfl) (fun _ _ _ h => h) (Or.inl ⟨by rfl, ?_⟩) ?_ ?_
   (rotate_left; · (intro w'; go_simp; with_reducible rfl))
   (rotate_left; · (simp only [Act.put, List.setIfInBounds_toArray, List.set_cons_zero, List.set_cons_succ, i64_w, i32_w]; rfl))
   refine done_ (by kernel_rfl) ?_
   go_wp2_with fail
   go_ret
   exact ⟨rfl, pw_below_drewN HB3.out _⟩
  go_wp2_with fail
  refine start_ (n := 24) (S := fun w' => w'.cell? ⟨w.heap.size + 1, 6, none⟩ = some (.int .i64 m6) ∧ w'.cell? ⟨w.heap.size + 1, 7, none⟩ = some (.int .i64 m7) ∧ w'.cell? ⟨w.heap.size + 1, 8, none⟩ = some (.int .i64 m8) ∧ w'.cell? ⟨w.heap.size + 1, 9, none⟩ = some (.int .i64 m9) ∧ w'.cell? ⟨w.heap.size + 1, 10, none⟩ = some (.int .i64 m10) ∧ w'.cell? ⟨w.heap.size + 1, 11, none⟩ = some (.string x) ∧ w'.cell? ⟨w.heap.size + 1, 12, none⟩ = some (.string y) ∧ w'.cell? ⟨w.heap.size + 1, 13, none⟩ = some (.string z) ∧ w'.cell? ⟨w.heap.size + 1 + 1, 9, none⟩ = some (.string p) ∧ w'.cell? ⟨w.heap.size + 1 + 1, 10, none⟩ = some (.slice A l.length c)) (ds := []) #[false, false, false, false, false, false, false, false, false, false, false, false, false, false, false, false, false, false, false, false, false, false, false, false] (by kernel_rfl) rfl rfl ⟨(blk_cell HM1.out 6).trans rfl, (blk_cell HM1.out 7).trans rfl, (blk_cell HM1.out 8).trans rfl, (blk_cell HM1.out 9).trans rfl, (blk_cell HM1.out 10).trans rfl, (blk_cell HM1.out 11).trans rfl, (blk_cell HM1.out 12).trans rfl, (blk_cell HM1.out 13).trans rfl, (blk_cell HR1.out 9).trans rfl, (blk_cell HR1.out 10).trans rfl⟩ (fun hHeld => ?_)
  refine pure_ (i := 0) (N := some 23) (v := ?_) (a' := ?_) #[true, false, false, false, false, false, false, false, false, false, false, false, false, false, false, false, false, false, false, false, false, false, false, false] rfl rfl (by kernel_rfl) (fun _ _ _ h => h) (Or.inl ⟨by rfl, ?_⟩) ?_ ?_
  (rotate_left; · (intro w'; go_simp; with_reducible rfl))
  (rotate_left; · (simp only [Act.put, List.setIfInBounds_toArray, List.set_cons_zero, List.set_cons_succ, i64_w, i32_w]; rfl))
  refine take_ (i := 1) (N := some 24) (v := ?_) (a' := ?_) #[true, true, false, false, false, false, false, false, false, false, false, false, false, false, false, false, false, false, false, false, false, false, false, false] rfl rfl (by kernel_rfl) (fun _ _ _ h => h) (Or.inl ⟨by rfl, ?_⟩) hHeld ?_ ?_
  rotate_left
  ·rintro w' ⟨s0, s1, s2, s3, s4, s5, s6, s7, s8, s9⟩
   go_simp
   with_reducible rfl
  (rotate_left; · (simp only [Act.put, List.setIfInBounds_toArray, List.set_cons_zero, List.set_cons_succ, i64_w, i32_w]; rfl))
  refine one_ (i := 2) (N := some 25) #[true, true, true, false, false, false, false, false, false, false, false, false, false, false, false, false, false, false, false, false, false, false, false, false] rfl rfl (by kernel_rfl) (by decide) (fun K hK => ?_)
  refine goes_ Try.func11 (by kernel_rfl) rfl #[.agg #[.int .i64 m6, .int .i64 m7, .int .i64 m8, .int .i64 m9, .int .i64 m10, .string x, .string y, .string z]] (by rfl) rfl rfl (by simp only [List.map_toArray, List.map_cons, List.map_nil]; rfl) ?_
  with_reducible refine ((Q.copyholdlaw15_short.calls m6 m7 m8 m9 m10 x y z _ _ HS.out)).mono ?_
  rintro e w3 ⟨rfl, hb3⟩
  refine ⟨_, rfl, ?_⟩
  have HM3 : Hid (CB w3 _ _ _) := Lib.hid ((hb3.block _ (blk_lt HM1.out)).trans HM1.out)
  have HR3 : Hid (CB w3 _ _ _) := Lib.hid ((hb3.block _ (blk_lt HR1.out)).trans HR1.out)
  have HB3 := Lib.hid (below_then HB1.out HB1.out.size hb3)
  clear hb3 HM1 HR1 HB1
  refine hK.out _ _ ⟨(blk_cell HM3.out 6).trans rfl, (blk_cell HM3.out 7).trans rfl, (blk_cell HM3.out 8).trans rfl, (blk_cell HM3.out 9).trans rfl, (blk_cell HM3.out 10).trans rfl, (blk_cell HM3.out 11).trans rfl, (blk_cell HM3.out 12).trans rfl, (blk_cell HM3.out 13).trans rfl, (blk_cell HR3.out 9).trans rfl, (blk_cell HR3.out 10).trans rfl⟩ (fun hHeld => ?_)
  clear hK K
  refine norm_ (a' := ?_) ?_ ?_
  rotate_left
  ·show Act.put _ (some 25) _ = _
   simp only [Act.put, List.setIfInBounds_toArray, List.set_cons_zero, List.set_cons_succ, i64_w, i32_w]
   rfl
  refine pure_ (i := 3) (N := some 26) (v := ?_) (a' := ?_) #[true, true, true, true, false, false, false, false, false, false, false, false, false, false, false, false, false, false, false, false, false, false, false, false] rfl rfl (by kernel_rfl) (fun _ _ _ h => h) (Or.inl ⟨by rfl, ?_⟩) ?_ ?_
  (rotate_left; · (intro w'; go_simp; with_reducible rfl))
  (rotate_left; · (simp only [Act.put, List.setIfInBounds_toArray, List.set_cons_zero, List.set_cons_succ, i64_w, i32_w]; rfl))
  refine pure_ (i := 4) (N := some 27) (v := ?_) (a' := ?_) #[true, true, true, true, true, false, false, false, false, false, false, false, false, false, false, false, false, false, false, false, false, false, false, false] rfl rfl (by kernel_rfl) (fun _ _ _ h => h) (Or.inl ⟨by rfl, ?_⟩) ?_ ?_
  (rotate_left; · (intro w'; go_simp; with_reducible rfl))
  (rotate_left; · (simp only [Act.put, List.setIfInBounds_toArray, List.set_cons_zero, List.set_cons_succ, i64_w, i32_w]; rfl))
  refine pure_ (i := 5) (N := some 28) (v := ?_) (a' := ?_) #[true, true, true, true, true, true, false, false, false, false, false, false, false, false, false, false, false, false, false, false, false, false, false, false] rfl rfl (by kernel_rfl) (fun _ _ _ h => h) (Or.inl ⟨by rfl, ?_⟩) ?_ ?_
  (rotate_left; · (intro w'; go_simp; with_reducible rfl))
  (rotate_left; · (simp only [Act.put, List.setIfInBounds_toArray, List.set_cons_zero, List.set_cons_succ, i64_w, i32_w]; rfl))
  refine pure_ (i := 6) (N := some 29) (v := ?_) (a' := ?_) #[true, true, true, true, true, true, true, false, false, false, false, false, false, false, false, false, false, false, false, false, false, false, false, false] rfl rfl (by kernel_rfl) (fun _ _ _ h => h) (Or.inl ⟨by rfl, ?_⟩) ?_ ?_
  (rotate_left; · (intro w'; go_simp; with_reducible rfl))
  (rotate_left; · (simp only [Act.put, List.setIfInBounds_toArray, List.set_cons_zero, List.set_cons_succ, i64_w, i32_w]; rfl))
  refine pure_ (i := 9) (N := some 32) (v := ?_) (a' := ?_) #[true, true, true, true, true, true, true, false, false, true, false, false, false, false, false, false, false, false, false, false, false, false, false, false] rfl rfl (by kernel_rfl) (fun _ _ _ h => h) (Or.inl ⟨by rfl, ?_⟩) ?_ ?_
  (rotate_left; · (intro w'; go_simp; with_reducible rfl))
  (rotate_left; · (simp only [Act.put, List.setIfInBounds_toArray, List.set_cons_zero, List.set_cons_succ, i64_w, i32_w]; rfl))
  refine pure_ (i := 10) (N := some 33) (v := ?_) (a' := ?_) #[true, true, true, true, true, true, true, false, false, true, true, false, false, false, false, false, false, false, false, false, false, false, false, false] rfl rfl (by kernel_rfl) (fun _ _ _ h => h) (Or.inl ⟨by rfl, ?_⟩) ?_ ?_
  (rotate_left; · (intro w'; go_simp; with_reducible rfl))
  (rotate_left; · (simp only [Act.put, List.setIfInBounds_toArray, List.set_cons_zero, List.set_cons_succ, i64_w, i32_w]; rfl))
  refine take_ (i := 7) (N := some 30) (v := ?_) (a' := ?_) #[true, true, true, true, true, true, true, true, false, true, true, false, false, false, false, false, false, false, false, false, false, false, false, false] rfl rfl (by kernel_rfl) (fun _ _ _ h => h) (Or.inl ⟨by rfl, ?_⟩) hHeld ?_ ?_
  rotate_left
  ·rintro w' ⟨s0, s1, s2, s3, s4, s5, s6, s7, s8, s9⟩
   go_simp
   with_reducible rfl
  (rotate_left; · (simp only [Act.put, List.setIfInBounds_toArray, List.set_cons_zero, List.set_cons_succ, i64_w, i32_w]; rfl))
  refine pure_ (i := 8) (N := some 31) (v := ?_) (a' := ?_) #[true, true, true, true, true, true, true, true, true, true, true, false, false, false, false, false, false, false, false, false, false, false, false, false] rfl rfl (by kernel_rfl) (fun _ _ _ h => h) (Or.inl ⟨by rfl, ?_⟩) ?_ ?_
  (rotate_left; · (intro w'; go_simp; with_reducible rfl))
  (rotate_left; · (simp only [Act.put, List.setIfInBounds_toArray, List.set_cons_zero, List.set_cons_succ, i64_w, i32_w]; rfl))
  refine take_ (i := 11) (N := some 34) (v := ?_) (a' := ?_) #[true, true, true, true, true, true, true, true, true, true, true, true, false, false, false, false, false, false, false, false, false, false, false, false] rfl rfl (by kernel_rfl) (fun _ _ _ h => h) (Or.inl ⟨by rfl, ?_⟩) hHeld ?_ ?_
  rotate_left
  ·rintro w' ⟨s0, s1, s2, s3, s4, s5, s6, s7, s8, s9⟩
   go_simp
   with_reducible rfl
  (rotate_left; · (simp only [Act.put, List.setIfInBounds_toArray, List.set_cons_zero, List.set_cons_succ, i64_w, i32_w]; rfl))
  refine one_ (i := 12) (N := some 35) #[true, true, true, true, true, true, true, true, true, true, true, true, true, false, false, false, false, false, false, false, false, false, false, false] rfl rfl (by kernel_rfl) (by decide) (fun K hK => ?_)
  refine goes_ Try.func17 (by kernel_rfl) rfl #[.slice A l.length c] (by rfl) rfl rfl (by simp only [List.map_toArray, List.map_cons, List.map_nil]; rfl) ?_
  with_reducible refine ((Q.copyholdref01_Long.calls kk A c l _ _ (Kd.C_below HA.out HB3.out) HC.out HL.out)).mono ?_
  rintro e w4 ⟨rfl, ⟨nd, rfl⟩⟩
  refine ⟨_, rfl, ?_⟩
  have HM4 : Hid (CB (w3.drewN nd) _ _ _) := Lib.hid HM3.out
  have HR4 : Hid (CB (w3.drewN nd) _ _ _) := Lib.hid HR3.out
  refine hK.out _ _ ⟨(blk_cell HM4.out 6).trans rfl, (blk_cell HM4.out 7).trans rfl, (blk_cell HM4.out 8).trans rfl, (blk_cell HM4.out 9).trans rfl, (blk_cell HM4.out 10).trans rfl, (blk_cell HM4.out 11).trans rfl, (blk_cell HM4.out 12).trans rfl, (blk_cell HM4.out 13).trans rfl, (blk_cell HR4.out 9).trans rfl, (blk_cell HR4.out 10).trans rfl⟩ (fun hHeld => ?_)
  clear hK K
  refine norm_ (a' := ?_) ?_ ?_
  rotate_left
  ·show Act.put _ (some 35) _ = _
   simp only [Act.put, List.setIfInBounds_toArray, List.set_cons_zero, List.set_cons_succ, i64_w, i32_w]
   rfl
  refine pure_ (i := 13) (N := some 36) (v := ?_) (a' := ?_) #[true, true, true, true, true, true, true, true, true, true, true, true, true, true, false, false, false, false, false, false, false, false, false, false] rfl rfl (by kernel_rfl) (fun _ _ _ h => h) (Or.inl ⟨by rfl, ?_⟩) ?_ ?_
  (rotate_left; · (intro w'; go_simp; with_reducible rfl))
  (rotate_left; · (simp only [Act.put, List.setIfInBounds_toArray, List.set_cons_zero, List.set_cons_succ, i64_w, i32_w]; rfl))
  refine pure_ (i := 14) (N := some 37) (v := ?_) (a' := ?_) #[true, true, true, true, true, true, true, true, true, true, true, true, true, true, true, false, false, false, false, false, false, false, false, false] rfl rfl (by kernel_rfl) (fun _ _ _ h => h) (Or.inl ⟨by rfl, ?_⟩) ?_ ?_
  (rotate_left; · (intro w'; go_simp; with_reducible rfl))
  (rotate_left; · (simp only [Act.put, List.setIfInBounds_toArray, List.set_cons_zero, List.set_cons_succ, i64_w, i32_w]; rfl))
  refine pure_ (i := 15) (N := some 38) (v := ?_) (a' := ?_) #[true, true, true, true, true, true, true, true, true, true, true, true, true, true, true, true, false, false, false, false, false, false, false, false] rfl rfl (by kernel_rfl) (fun _ _ _ h => h) (Or.inl ⟨by rfl, ?_⟩) ?_ ?_
  (rotate_left; · (intro w'; go_simp; with_reducible rfl))
  (rotate_left; · (simp only [Act.put, List.setIfInBounds_toArray, List.set_cons_zero, List.set_cons_succ, i64_w, i32_w]; rfl))
  refine pure_ (i := 16) (N := some 39) (v := ?_) (a' := ?_) #[true, true, true, true, true, true, true, true, true, true, true, true, true, true, true, true, true, false, false, false, false, false, false, false] rfl rfl (by kernel_rfl) (fun _ _ _ h => h) (Or.inl ⟨by rfl, ?_⟩) ?_ ?_
  (rotate_left; · (intro w'; go_simp; with_reducible rfl))
  (rotate_left; · (simp only [Act.put, List.setIfInBounds_toArray, List.set_cons_zero, List.set_cons_succ, i64_w, i32_w]; rfl))
  refine pure_ (i := 17) (N := some 40) (v := ?_) (a' := ?_) #[true, true, true, true, true, true, true, true, true, true, true, true, true, true, true, true, true, true, false, false, false, false, false, false] rfl rfl (by kernel_rfl) (fun _ _ _ h => h) (Or.inl ⟨by rfl, ?_⟩) ?_ ?_
  (rotate_left; · (intro w'; go_simp; with_reducible rfl))
  (rotate_left; · (simp only [Act.put, List.setIfInBounds_toArray, List.set_cons_zero, List.set_cons_succ, i64_w, i32_w]; rfl))
  refine pure_ (i := 18) (N := some 41) (v := ?_) (a' := ?_) #[true, true, true, true, true, true, true, true, true, true, true, true, true, true, true, true, true, true, true, false, false, false, false, false] rfl rfl (by kernel_rfl) (fun _ _ _ h => h) (Or.inl ⟨by rfl, ?_⟩) ?_ ?_
  (rotate_left; · (intro w'; go_simp; with_reducible rfl))
  (rotate_left; · (simp only [Act.put, List.setIfInBounds_toArray, List.set_cons_zero, List.set_cons_succ, i64_w, i32_w]; rfl))
  refine pure_ (i := 19) (N := some 42) (v := ?_) (a' := ?_) #[true, true, true, true, true, true, true, true, true, true, true, true, true, true, true, true, true, true, true, true, false, false, false, false] rfl rfl (by kernel_rfl) (fun _ _ _ h => h) (Or.inl ⟨by rfl, ?_⟩) ?_ ?_
  (rotate_left; · (intro w'; go_simp; with_reducible rfl))
  (rotate_left; · (simp only [Act.put, List.setIfInBounds_toArray, List.set_cons_zero, List.set_cons_succ, i64_w, i32_w]; rfl))
  refine pure_ (i := 20) (N := some 43) (v := ?_) (a' := ?_) #[true, true, true, true, true, true, true, true, true, true, true, true, true, true, true, true, true, true, true, true, true, false, false, false] rfl rfl (by kernel_rfl) (fun _ _ _ h => h) (Or.inl ⟨by rfl, ?_⟩) ?_ ?_
  (rotate_left; · (intro w'; go_simp; with_reducible rfl))
  (rotate_left; · (simp only [Act.put, List.setIfInBounds_toArray, List.set_cons_zero, List.set_cons_succ, i64_w, i32_w]; rfl))
  refine pure_ (i := 21) (N := some 44) (v := ?_) (a' := ?_) #[true, true, true, true, true, true, true, true, true, true, true, true, true, true, true, true, true, true, true, true, true, true, false, false] rfl rfl (by kernel_rfl) (fun _ _ _ h => h) (Or.inl ⟨by rfl, ?_⟩) ?_ ?_
  (rotate_left; · (intro w'; go_simp; with_reducible rfl))
  (rotate_left; · (simp only [Act.put, List.setIfInBounds_toArray, List.set_cons_zero, List.set_cons_succ, i64_w, i32_w]; rfl))
  refine pure_ (i := 22) (N := some 45) (v := ?_) (a' := ?_) #[true, true, true, true, true, true, true, true, true, true, true, true, true, true, true, true, true, true, true, true, true, true, true, false] rfl rfl (by kernel_rfl) (fun _ _ _ h => h) (Or.inl ⟨by rfl, ?_⟩) ?_ ?_
  (rotate_left; · (intro w'; go_simp; with_reducible rfl))
  (rotate_left; · (simp only [Act.put, List.setIfInBounds_toArray, List.set_cons_zero, List.set_cons_succ, i64_w, i32_w]; rfl))
  refine pure_ (i := 23) (N := some 46) (v := ?_) (a' := ?_) #[true, true, true, true, true, true, true, true, true, true, true, true, true, true, true, true, true, true, true, true, true, true, true, true] rfl rfl (by kernel_rfl) (fun _ _ _ h => h) (Or.inl ⟨by rfl, ?_⟩) ?_ ?_
  (rotate_left; · (intro w'; go_simp; with_reducible rfl))
  (rotate_left; · (simp only [Act.put, List.setIfInBounds_toArray, List.set_cons_zero, List.set_cons_succ, i64_w, i32_w]; rfl))
  refine done_ (by kernel_rfl) ?_
  have hy : by_ ≠ 0 := by rintro rfl; simp at d3
  obtain ⟨j, rfl⟩ := Int.eq_ofNat_of_zero_le (show 0 ≤ at_ by have := of_decide_eq_false d4; omega)
  have HY := Lib.hid hy
  have HBE : Hid (Below w.heap.size w (w3.drewN nd)) := Lib.hid (pw_below_drewN HB3.out _)
  generalize w3.drewN nd = w4 at *
  clear hy d2 d3 d4 HB3 HM3 HR3 HS HL
  have c0 := (blk_cell HM4.out 0).trans rfl
  have c1 := (blk_cell HM4.out 1).trans rfl
  have c2 := (blk_cell HM4.out 2).trans rfl
  have c3 := (blk_cell HM4.out 3).trans rfl
  have c4 := (blk_cell HM4.out 4).trans rfl
  have c5 := (blk_cell HM4.out 5).trans rfl
  have c6 := (blk_cell HM4.out 6).trans rfl
  have c7 := (blk_cell HM4.out 7).trans rfl
  have c8 := (blk_cell HM4.out 8).trans rfl
  have c9 := (blk_cell HM4.out 9).trans rfl
  have c10 := (blk_cell HM4.out 10).trans rfl
  have c11 := (blk_cell HM4.out 11).trans rfl
  have c12 := (blk_cell HM4.out 12).trans rfl
  have c13 := (blk_cell HM4.out 13).trans rfl
  go_wp2_with fail
  refine (Q.wire_Msg.calls m0 m1 m2 m3 m4 m5 m6 m7 m8 m9 m10 x y z _ _ HMS.out).mono ?_
  rintro e w5 ⟨rfl, hb5⟩
  have HR5 : Hid (CB w5 _ _ _) := Lib.hid ((hb5.block _ (blk_lt HR4.out)).trans HR4.out)
  have HB5 := Lib.hid (below_then HBE.out HBE.out.size hb5)
  clear hb5 HM4 HR4 HBE HMS c0 c1 c2 c3 c4 c5 c6 c7 c8 c9 c10 c11 c12 c13
  have kb := fun W => print_bytes (P := Try.prog) 9 59 5 Try.underlying9 Try.underlying59 Try.underlying5 (putS ms) W
  have hbw := bytes_below (Below.refl w5.heap.size w5) (Nat.le_refl _) 5 (putS ms)
  have HB6 := Lib.hid (bytes_below HB5.out HB5.out.size 5 (putS ms))
  have HR6 : Hid (CB (Lib.bytesWorld w5 5 (putS ms)) _ _ _) := Lib.hid ((hbw.block _ (blk_lt HR5.out)).trans HR5.out)
  have HA6 := Lib.hid (BB.new w5 5 (putS ms) (by have := HMZ.out; omega))
  have HG6 : Hid (w5.heap.size < (Lib.bytesWorld w5 5 (putS ms)).heap.size) := Lib.hid (by rw [Lib.bytesWorld_size]; omega)
  have HGA := Lib.hid HB5.out.size
  clear hbw HB5 HR5
  have c0 := (blk_cell HR6.out 0).trans rfl
  have c1 := (blk_cell HR6.out 1).trans rfl
  have c2 := (blk_cell HR6.out 2).trans rfl
  have c3 := (blk_cell HR6.out 3).trans rfl
  have c4 := (blk_cell HR6.out 4).trans rfl
  have c5 := (blk_cell HR6.out 5).trans rfl
  have c6 := (blk_cell HR6.out 6).trans rfl
  have c7 := (blk_cell HR6.out 7).trans rfl
  have c8 := (blk_cell HR6.out 8).trans rfl
  have c9 := (blk_cell HR6.out 9).trans rfl
  have c10 := (blk_cell HR6.out 10).trans rfl
  go_wp2_with fail
  refine (Q.wire_Rsp.calls r0 r1 r2 r3 r4 r5 r6 r7 r8 p A c l _ _ (Kd.C_below HA.out HB6.out) HC.out HRS.out).mono ?_
  rintro e w7 ⟨rfl, hb7⟩
  have HA7 := Lib.hid (HA6.out.keep (hb7.block _ HG6.out))
  have HB7 := Lib.hid (below_then HB6.out HB6.out.size hb7)
  have HG7 : Hid (w5.heap.size < w7.heap.size) := Lib.hid (Nat.lt_of_lt_of_le HG6.out hb7.size)
  clear hb7 kb HA6 HB6 HR6 HG6 HA HC HRS c0 c1 c2 c3 c4 c5 c6 c7 c8 c9 c10
  generalize grownCap w5 (putS ms).size 0 5 = ca at *
  generalize w5.heap.size = ga at *
  have kb := fun W => print_bytes (P := Try.prog) 9 59 5 Try.underlying9 Try.underlying59 Try.underlying5 (putS rs) W
  have HB8 := Lib.hid (bytes_below HB7.out HB7.out.size 5 (putS rs))
  have HA8 := Lib.hid (HA7.out.keep ((bytes_below (Below.refl w7.heap.size w7) (Nat.le_refl _) 5 (putS rs)).block _ HG7.out))
  have HC8 := Lib.hid (BB.new w7 5 (putS rs) (by have := HRZ.out; omega))
  have HGC := Lib.hid HB7.out.size
  clear HA7 HB7
  by_cases h1 : j < (putS ms).size
  rotate_left
  ·have q1 : decide (((putS ms).size : Int) ≤ (j : Int)) = true := decide_eq_true (by omega); have q1n : decide ((putS ms).size ≤ j) = true := decide_eq_true (by omega)
   clear h1 HA8 HC8
   go_wp2_with fail
   go_ret
   exact ⟨rfl, HB8.out⟩
  have q1 : decide (((putS ms).size : Int) ≤ (j : Int)) = false := decide_eq_false (by omega); have q1n : decide ((putS ms).size ≤ j) = false := decide_eq_false (by omega)
  by_cases h2 : j < (putS rs).size
  rotate_left
  ·have q2 : decide (((putS rs).size : Int) ≤ (j : Int)) = true := decide_eq_true (by omega); have q2n : decide ((putS rs).size ≤ j) = true := decide_eq_true (by omega)
   clear h1 h2 HA8 HC8
   go_wp2_with fail
   go_ret
   exact ⟨rfl, HB8.out⟩
  have q2 : decide (((putS rs).size : Int) ≤ (j : Int)) = false := decide_eq_false (by omega); have q2n : decide ((putS rs).size ≤ j) = false := decide_eq_false (by omega)
  obtain ⟨q0, q1, q2, q3, q4, q5, q6, q7, q8, q9, q10, q11, q12, q13, hT⟩ := tm_spoilt ms HMZ.out j h1 by_ HY.out
  obtain ⟨u0, u1, u2, u3, u4, u5, u6, u7, u8, u9, u10, hU⟩ := tr_spoilt rs HRZ.out j h2 by_ HY.out
  have hx1 := bits_xor_u8 ((putS ms).data.toList.getD j 0) by_
  have hx2 := bits_xor_u8 ((putS rs).data.toList.getD j 0) by_
  have e1 := putAt_size (putS ms) j ((putS ms).data.toList.getD j 0 ^^^ by_)
  have e2 := putAt_size (putS rs) j ((putS rs).data.toList.getD j 0 ^^^ by_)
  have hne : ga ≠ w7.heap.size := Nat.ne_of_lt HG7.out
  have hcell1 := (HA8.out.2 j h1).1; have hfz1 := (HA8.out.2 j h1).2
  have r9 := HA8.out.set j h1 ((putS ms).data.toList.getD j 0 ^^^ by_)
  have c9 := HC8.out.far hne.symm j (.int .u8 ((((putS ms).data.toList.getD j 0 ^^^ by_).toNat : Nat) : Int))
  have hcell2 := (c9.2 j h2).1; have hfz2 := (c9.2 j h2).2
  have s10 := c9.set j h2 ((putS rs).data.toList.getD j 0 ^^^ by_)
  have r10 := r9.far hne j (.int .u8 ((((putS rs).data.toList.getD j 0 ^^^ by_).toNat : Nat) : Int))
  have HB10 := Lib.hid ((HB8.out.setCell (p := ⟨ga, j, none⟩) HGA.out (.int .u8 ((((putS ms).data.toList.getD j 0 ^^^ by_).toNat : Nat) : Int))).setCell (p := ⟨w7.heap.size, j, none⟩) HGC.out (.int .u8 ((((putS rs).data.toList.getD j 0 ^^^ by_).toNat : Nat) : Int)))
  have hcv1 := fun c => r10.str c
  rw [e1] at hcv1
  have hz2 : 0 < (putAt (putS rs) j ((putS rs).data.toList.getD j 0 ^^^ by_)).size := by rw [e2]; omega
  have HT := Lib.hid hT; have HU := Lib.hid hU; have HS10 := Lib.hid s10; have HZ2 := Lib.hid hz2; have HE2 := Lib.hid e2
  clear hT hU r9 c9 s10 r10 e1 e2 hz2 hne HA8 HC8 HB8
  generalize putAt (putS ms) j ((putS ms).data.toList.getD j 0 ^^^ by_) = sa at *
  generalize putAt (putS rs) j ((putS rs).data.toList.getD j 0 ^^^ by_) = sb at *
  generalize ((putS ms).data.toList.getD j 0 ^^^ by_) = xa at *
  generalize ((putS rs).data.toList.getD j 0 ^^^ by_) = xb at *
  generalize (putS ms).data.toList.getD j 0 = ya at *
  generalize (putS rs).data.toList.getD j 0 = yb at *
  go_wp2_with fail
  refine (wire_TakeMsg.calls sa _ _ _ _ _ _ _ _ _ _ _ _ _ _ _ _ HT.out).mono ?_
  rintro e w9 ⟨rfl, hb9⟩
  have hlt := HS10.out.lt HZ2.out
  have hs11 := HS10.out.keep (hb9.block _ hlt)
  have hlt9 := hs11.lt HZ2.out
  have hcv2 : ∀ cs t c, (convert 59 9 (.slice (some ⟨w7.heap.size, 0, none⟩) (putS rs).size c)).run Try.prog (w9.alloc (.cells cs t)) = .ok (.string sb) (w9.alloc (.cells cs t)) := by
   intro cs t c
   have := (hs11.keep (heap_alloc_old w9 (.cells cs t) hlt9)).str c
   rwa [HE2.out] at this
  have HB11 := Lib.hid (below_then HB10.out HB10.out.size hb9)
  clear hb9 hcv1 hcell1 hcell2 hfz1 hfz2 HB10 HS10 hlt hlt9 hs11 HT
  go_wp2_with fail
  refine (wire_TakeRsp.calls sb _ _ _ _ _ _ _ _ _ _ _ _ _ HU.out).mono ?_
  rintro e w10 ⟨v, rfl, ⟨_, _, ho, _⟩, hb10⟩
  obtain ⟨Av, cv, rfl⟩ := own_slice ho
  clear ho
  have HB12 := Lib.hid (below_then (HB11.out.alloc HB11.out.size _) (HB11.out.alloc HB11.out.size _).size hb10)
  clear hb10 hcv2 HB11 HU
  go_wp2_with fail
  go_ret
  exact ⟨rfl, HB12.out.alloc HB12.out.size _⟩
end Go.Proofs.Ytgnmhbkialgeaaa
end

section
namespace Go.Proofs.Ytgnmhbkialgeaaa
open Go.RowKit Go.Proofs.Ytgnmhbkialgeaaa.Q Go.Proofs.YtgnmhbkialgeaaaW.PrintWords Go.Proofs.YtgnmhbkialgeaaaW.PrintLast Go.Proofs.YtgnmhbkialgeaaaW.PrintMore Math
theorem rspS_sz {l : List Int} {x : ByteArray} {t : List ByteArray} (hl : l.length = 9) (hi : InL l) (hx : x.size ≤ 100000000000) (ht : lensS t ≤ 100000000000) : (rspS l x.data.toList (lists t)).size ≤ 8000000000000 := by
  have h0 := numsB_len l hi
  have h1 := textS_sz hx
  have h3 : (listS t).size ≤ lensS t + 10 := by
    have := lensS_len t
    rw [sz, listS]
    exact flat_listP t (by omega) (by omega)
  rw [sz, textS_dl] at h1
  rw [sz, listS_dl] at h3
  refine putS_le _ ?_
  rw [arr_sz, List.length_cons, rspB, List.length_append, List.length_append]
  omega
end Go.Proofs.Ytgnmhbkialgeaaa
end

section
namespace Go.Proofs.Ytgnmhbkialgeaaa
open Go.RowKit Go.Proofs.Ytgnmhbkialgeaaa.Q Go.Proofs.YtgnmhbkialgeaaaW.PrintWords Go.Proofs.YtgnmhbkialgeaaaW.PrintLast Go.Proofs.YtgnmhbkialgeaaaW.PrintMore Math
theorem rd_getO {l : List ByteArray} {i : Nat} (h : i < l.length) : rdOf ByteArray.empty l (i : Int) = l[i] := by
  simp [rdOf, List.getD_eq_getElem?_getD, List.getElem?_eq_getElem h]
def sumsO (l : List ByteArray) : Nat := (l.map fun s => s.size).sum
theorem sumsO_cons (s : ByteArray) (l : List ByteArray) : sumsO (s :: l) = s.size + sumsO l := rfl
theorem sumsO_le (l : List ByteArray) : sumsO l ≤ lensS l := by
  induction l with
  | nil => exact Nat.le_refl _
  | cons a l ih =>
    have e : lensS (a :: l) = a.size + 20 + lensS l := rfl
    rw [sumsO_cons]; omega
theorem longO_l0 (l : List ByteArray) (hl : l.length ≤ 8796093022208) (d : Nat) : ∀ (i k acc : Nat), i + d = l.length → d < k → acc + sumsO (l.drop i) ≤ 9223372036854775807 →
    copyholdref01_Long.l0 k l (acc : Int) (i : Int) = some ((acc + sumsO (l.drop i) : Nat) : Int) := by
  induction d with
  | zero =>
    intro i k acc hi hk hs
    obtain ⟨k, rfl⟩ : ∃ m, k = m + 1 := ⟨k - 1, by omega⟩
    rw [copyholdref01_Long.l0, if_neg (by omega), List.drop_eq_nil_of_le (by omega)]
    rfl
  | succ d ih =>
    intro i k acc hi hk hs
    obtain ⟨k, rfl⟩ : ∃ m, k = m + 1 := ⟨k - 1, by omega⟩
    have hlt : i < l.length := by omega
    rw [List.drop_eq_getElem_cons hlt, sumsO_cons] at hs ⊢
    rw [copyholdref01_Long.l0, if_pos (by omega), if_pos (by omega), rd_getO hlt, w64 (n := (acc : Int) + (l[i].size : Int)) (by omega) (by omega), w64 (n := (i : Int) + 1) (by omega) (by omega), show (acc : Int) + (l[i].size : Int) = ((acc + l[i].size : Nat) : Int) from by omega, show acc + (l[i].size + sumsO (l.drop (i + 1))) = (acc + l[i].size) + sumsO (l.drop (i + 1)) from by omega]
    exact ih (i + 1) k _ (by omega) (by omega) (by omega)
theorem longO {l : List ByteArray} (hl : l.length ≤ 8796093022208) (hs : l.length + sumsO l ≤ 9223372036854775807) : copyholdref01_Long.f (l.length + 1) l = some ((l.length + sumsO l : Nat) : Int) := by
  unfold copyholdref01_Long.f
  have := longO_l0 l hl l.length 0 (l.length + 1) l.length (by omega) (by omega) (by rw [List.drop_zero]; exact hs)
  rw [List.drop_zero] at this
  exact this
theorem InL.of {l m : List Int} (h : inI l = true) (hs : ∀ n ∈ m, n ∈ l) : InL m := by
  intro n hn
  have := List.all_eq_true.1 h n (hs n hn)
  simp only [Bool.and_eq_true, decide_eq_true_eq] at this
  exact this
def copyholdlaw15_WireOne.f (a0_0 : Int) (a0_1 : Int) (a0_2 : Int) (a0_3 : Int) (a0_4 : Int) (a0_5 : Int) (a0_6 : Int) (a0_7 : Int) (a0_8 : Int) (a0_9 : Int) (a0_10 : Int) (a0_11 a0_12 a0_13 : ByteArray) (a0_14 : Int) (a0_15 : Int) (a0_16 : Int) (a0_17 : Int) (a0_18 : Int) (a0_19 : Int) (a0_20 : Int) (a0_21 : Int) (a0_22 : Int) (a0_23 : ByteArray) (l0_24 : List ByteArray) (a0_25 a0_26 : Int) : Option Bool :=
  if inI [a0_0, a0_1, a0_2, a0_3, a0_4, a0_5, a0_6, a0_7, a0_8, a0_9, a0_10, a0_14, a0_15, a0_16, a0_17, a0_18, a0_19, a0_20, a0_21, a0_22] = true ∧ a0_11.size + a0_12.size + a0_13.size + a0_23.size + lensS l0_24 ≤ 100000000000 ∧ 0 ≤ a0_26 ∧ a0_26 < 256 then some true else none
theorem copyholdlaw15_WireOne.calls (a0_0 : Int) (a0_1 : Int) (a0_2 : Int) (a0_3 : Int) (a0_4 : Int) (a0_5 : Int) (a0_6 : Int) (a0_7 : Int) (a0_8 : Int) (a0_9 : Int) (a0_10 : Int) (a0_11 a0_12 a0_13 : ByteArray) (a0_14 : Int) (a0_15 : Int) (a0_16 : Int) (a0_17 : Int) (a0_18 : Int) (a0_19 : Int) (a0_20 : Int) (a0_21 : Int) (a0_22 : Int) (a0_23 : ByteArray) (A0_24 : Option Addr) (c0_24 : Nat) (l0_24 : List ByteArray) (a0_25 a0_26 : Int) (r : Bool) (w : World) (hr0_24 : Kd.C Kd.string w A0_24 l0_24.length l0_24) (hc0_24 : l0_24.length ≤ c0_24) (h : copyholdlaw15_WireOne.f a0_0 a0_1 a0_2 a0_3 a0_4 a0_5 a0_6 a0_7 a0_8 a0_9 a0_10 a0_11 a0_12 a0_13 a0_14 a0_15 a0_16 a0_17 a0_18 a0_19 a0_20 a0_21 a0_22 a0_23 l0_24 a0_25 a0_26 = some r) :
    Calls Try.prog 7 #[.agg #[.int .i64 a0_0, .int .i64 a0_1, .int .i64 a0_2, .int .i64 a0_3, .int .i64 a0_4, .int .i64 a0_5, .int .i64 a0_6, .int .i64 a0_7, .int .i64 a0_8, .int .i64 a0_9, .int .i64 a0_10, .string a0_11, .string a0_12, .string a0_13, .int .i64 a0_14, .int .i64 a0_15, .int .i64 a0_16, .int .i64 a0_17, .int .i64 a0_18, .int .i64 a0_19, .int .i64 a0_20, .int .i64 a0_21, .int .i64 a0_22, .string a0_23, .slice A0_24 l0_24.length c0_24, .int .i64 a0_25, .int .u8 a0_26]] w fun e w' => e = .returned (.bool r) ∧ Below w.heap.size w w' := by
  unfold copyholdlaw15_WireOne.f at h
  split at h
  · rename_i hh
    obtain ⟨hi, hz, h0, h256⟩ := hh
    obtain rfl := Option.some.inj h
    obtain ⟨n, rfl⟩ := Int.eq_ofNat_of_zero_le h0
    have hn : n < 256 := by omega
    have hls := lensS_len l0_24
    have hsu := sumsO_le l0_24
    have h6 : InL [a0_0, a0_1, a0_2, a0_3, a0_4, a0_5] := InL.of hi (by simp)
    have h5 : InL [a0_6, a0_7, a0_8, a0_9, a0_10] := InL.of hi (by simp)
    have h9 : InL [a0_14, a0_15, a0_16, a0_17, a0_18, a0_19, a0_20, a0_21, a0_22] := InL.of hi (by simp)
    have := one_main a0_0 a0_1 a0_2 a0_3 a0_4 a0_5 a0_6 a0_7 a0_8 a0_9 a0_10 a0_11 a0_12 a0_13 a0_14 a0_15 a0_16 a0_17 a0_18 a0_19 a0_20 a0_21 a0_22 a0_23 A0_24 c0_24 l0_24 a0_25 (UInt8.ofNat n) w _ (short_eq (by omega) (by omega) (by omega)) _ _ (longO (l := l0_24) (by omega) (by omega)) hr0_24 hc0_24 _ _
      (msg_eq h6 h5 (by omega) (by omega) (by omega)) (rsp_eq h9 (by omega) (by omega))
      (msgS_sz rfl rfl h6 h5 (by rw [← sz]; omega) (by rw [← sz]; omega) (by rw [← sz]; omega)) (rspS_sz rfl h9 (by omega) (by omega))
    rwa [UInt8.toNat_ofNat_of_lt' (by simpa using hn)] at this
  · cases h
end Go.Proofs.Ytgnmhbkialgeaaa
namespace Go.Proofs.Ytgnmhbkialgeaaa.O
end Go.Proofs.Ytgnmhbkialgeaaa.O
end

section
namespace Go.Proofs.Ytgnmhbkialgeaaa.Opn
open Go.Proofs.YtgnmhbkialgeaaaW.PrintWords
theorem mapM_some {α β : Type} {f : α → Option β} : ∀ {l : List α} {ys : List β}, l.mapM f = some ys → ys.length = l.length ∧ ∀ i (h : i < l.length) (h2 : i < ys.length), f l[i] = some ys[i] := by
  intro l
  induction l with
  | nil => intro ys h; simp at h; subst h; exact ⟨rfl, fun i h => by cases h⟩
  | cons a l ih =>
    intro ys h
    rw [List.mapM_cons] at h
    simp only [Option.bind_eq_bind, Option.bind_eq_some_iff] at h
    obtain ⟨y, h1, ys', h2, h3⟩ := h
    simp at h3; subst h3
    obtain ⟨hl, hi⟩ := ih h2
    refine ⟨by simp [hl], fun i h h2 => ?_⟩
    cases i with
    | zero => exact h1
    | succ i => exact hi i (by simpa using h) (by simpa using h2)
theorem choose_list {α : Type} {n : Nat} {R : Nat → α → Prop} (h : ∀ i, i < n → ∃ x, R i x) : ∃ xs : List α, xs.length = n ∧ ∀ i (hi : i < xs.length), R i xs[i] := by
  induction n with
  | zero => exact ⟨[], rfl, fun i hi => by cases hi⟩
  | succ n ih =>
    obtain ⟨xs, hl, hx⟩ := ih (fun i hi => h i (by omega))
    obtain ⟨x, hx'⟩ := h n (by omega)
    refine ⟨xs ++ [x], by simp [hl], fun i hi => ?_⟩
    by_cases hin : i < xs.length
    · rw [List.getElem_append_left hin]; exact hx i hin
    · have : i = n := by simp [hl] at hi; omega
      subst this
      rw [List.getElem_append_right (by omega)]
      simpa [hl] using hx'
structure Opens {H : Type} (enc : TypeId × Value → H) (P : Program) (w : World) (t : TypeId) {α : Type} (K : Kd α) (G : α → Prop) (b : α → Nat) : Prop where
  sz : P.cellsOf t = K.sz
  open_ : ∀ fuel cs (d : DataW H) ps, DataW.trod enc P w 0 (fun _ => true) true fuel t cs = some (d, ps) → ∃ x, K.K w x cs ∧ ((∀ n ∈ d.weights P t, n ≤ reachBytes) → G x) ∧ b x ≤ Rows.uptoBulk d
section
variable {H : Type} {enc : TypeId × Value → H} {P : Program} {w : World}
theorem opens_int {t : TypeId} {k : IntKind} (hu : P.underlying t = some (.int k)) (hs : P.cellsOf t = 1) : Opens enc P w t (Kd.int k) (fun x => (Lit.int k x).wf = true) (fun _ => 1) := by
  refine ⟨hs, fun fuel cs d ps h => ?_⟩
  obtain ⟨n, rfl, hx, hw⟩ := DataW.trod_int hu h
  obtain ⟨rfl, rfl⟩ := Prod.mk.inj hx
  exact ⟨n, rfl, fun _ => hw, by simp [Rows.uptoBulk]⟩
theorem opens_string {t : TypeId} (hu : P.underlying t = some .string) (hs : P.cellsOf t = 1) : Opens enc P w t Kd.string (fun x => x.size ≤ reachBytes) (fun x => x.size + 1) := by
  refine ⟨hs, fun fuel cs d ps h => ?_⟩
  obtain ⟨s, rfl, hx, _⟩ := DataW.trod_string hu h
  obtain ⟨rfl, rfl⟩ := Prod.mk.inj hx
  refine ⟨s, rfl, fun hw => ?_, ?_⟩
  · have := hw s.data.toList.length (by simp [DataW.weights])
    rw [Array.length_toList] at this; exact this
  · simp only [Rows.uptoBulk, Array.length_toList]; exact Nat.le_refl _
theorem bulk_all {α : Type} {b : α → Nat} : ∀ (xs : List α) (ds : List (DataW H)), xs.length = ds.length → (∀ i (h : i < xs.length) (h2 : i < ds.length), b xs[i] ≤ Rows.uptoBulk ds[i]) → (xs.map b).sum ≤ Rows.uptoBulkAll ds := by
  intro xs
  induction xs with
  | nil => intro ds hl _; simp
  | cons x xs ih =>
    intro ds hl h
    cases ds with
    | nil => cases hl
    | cons d ds =>
      have h0 := h 0 (by simp) (by simp)
      have h1 := ih ds (by simpa using hl) (fun i hi h2 => h (i + 1) (by simpa using hi) (by simpa using h2))
      simp only [List.map_cons, List.sum_cons, Rows.uptoBulkAll, List.getElem_cons_zero] at h0 ⊢
      omega
theorem weights_all {e : TypeId} {ds : List (DataW H)} {d : DataW H} (h : d ∈ ds) : ∀ n ∈ d.weights P e, n ∈ DataW.weightsAll P e ds := by
  induction ds with
  | nil => cases h
  | cons x ds ih =>
    intro n hn
    rw [DataW.weightsAll]
    rcases List.mem_cons.1 h with rfl | h
    · exact List.mem_append_left _ hn
    · exact List.mem_append_right _ (ih h n hn)
theorem opens_slice {t e : TypeId} {α : Type} {K : Kd α} {G : α → Prop} {b : α → Nat} (hu : P.underlying t = some (.slice e)) (hs : P.cellsOf t = 1) (ho : Opens enc P w e K G b) :
    Opens enc P w t (Kd.slice e K) (fun xs => xs.length * P.bytesOf e ≤ reachBytes ∧ ∀ x ∈ xs, G x) (fun xs => (xs.map b).sum + 1) := by
  refine ⟨hs, fun fuel cs d ps h => ?_⟩
  cases fuel with
  | zero => simp [DataW.trod] at h
  | succ fuel =>
    unfold DataW.trod at h
    rw [hu] at h
    split at h <;> try (simp_all; done)
    · rename_i h1
      simp at h
      obtain ⟨rfl, rfl⟩ := h
      refine ⟨[], ⟨none, 0, rfl, Nat.le_refl _, rfl, by simp, fun h => by simp at h⟩, fun _ => ⟨by simp, by simp⟩, by simp [Rows.uptoBulk]⟩
    · rename_i e' a len cap h1
      obtain rfl : e = e' := by simpa using h1
      dsimp only at h
      split at h
      · rename_i hc
        simp only [Option.bind_eq_some_iff, Option.map_eq_some_iff] at h
        obtain ⟨elems, he, rest, hr, h⟩ := h
        simp only [Prod.mk.injEq] at h
        obtain ⟨rfl, rfl⟩ := h
        obtain ⟨hl, hi⟩ := mapM_some he
        rw [List.length_range] at hl
        have hex : ∀ i, i < len → ∃ x, (∃ c, c.length = K.sz ∧ K.K w x c ∧ ∀ j u, c[j]? = some u → w.cell? (a.add (i * K.sz + j)) = some u) ∧ (∀ h2 : i < elems.length, ((∀ n ∈ (elems[i]).1.weights P e, n ≤ reachBytes) → G x) ∧ b x ≤ Rows.uptoBulk (elems[i]).1) := by
          intro i hilt
          have h2 : i < elems.length := by omega
          have hh := hi i (by simpa using hilt) h2
          rw [List.getElem_range] at hh
          simp only [Option.bind_eq_some_iff] at hh
          obtain ⟨c, hc1, hc2⟩ := hh
          obtain ⟨x, hx1, hx2, hx3⟩ := ho.open_ fuel c (elems[i]).1 (elems[i]).2 hc2
          refine ⟨x, ⟨c, K.K_len hx1, hx1, fun j u hju => ?_⟩, fun _ => ⟨hx2, hx3⟩⟩
          unfold World.cells? at hc1
          split at hc1
          · obtain ⟨hcl, hci⟩ := mapM_some hc1
            rw [List.length_range] at hcl
            have hj : j < c.length := (List.getElem?_eq_some_iff.1 hju).1
            have h5 := hci j (by simpa [← hcl] using hj) hj
            rw [List.getElem_range] at h5
            have h6 : c[j] = u := (List.getElem?_eq_some_iff.1 hju).2
            rw [h6, ho.sz] at h5
            rw [Addr.add_add] at h5
            exact h5
          · cases hc1
        obtain ⟨xs, hxl, hx⟩ := choose_list hex
        have hel : elems.length = xs.length := by omega
        refine ⟨xs, ⟨some a, cap, by rw [hxl], by omega, rfl, ?_, fun _ => ⟨a, rfl, fun j p hjp => ?_⟩⟩, fun hw => ⟨?_, fun x hxm => ?_⟩, ?_⟩
        · have := hc.2.2; unfold maxLen at this; omega
        · have hj : j < xs.length := (List.getElem?_eq_some_iff.1 hjp).1
          have hp : xs[j] = p := (List.getElem?_eq_some_iff.1 hjp).2
          rw [← hp]; exact (hx j hj).1
        · have h7 := hw ((((elems.map (·.1)).length) + (rest.map (·.1)).length) * P.bytesOf e) (by simp [DataW.weights, hu])
          refine Nat.le_trans (Nat.mul_le_mul_right _ ?_) h7
          simp only [List.length_map]; omega
        · obtain ⟨j, hj, rfl⟩ := List.getElem_of_mem hxm
          refine ((hx j hj).2 (by omega)).1 (fun n hn => hw n ?_)
          simp only [DataW.weights, hu]
          refine List.mem_cons_of_mem _ (List.mem_append_left _ (weights_all ?_ n hn))
          exact List.mem_map.2 ⟨elems[j]'(by omega), List.getElem_mem _, rfl⟩
        · have h8 := bulk_all (b := b) xs (elems.map (·.1)) (by simp [hel]) (fun i h h2 => by
            have := ((hx i h).2 (by simpa using h2)).2
            simpa using this)
          simp only [Rows.uptoBulk]
          omega
      · cases h
structure OpensF {H : Type} (enc : TypeId × Value → H) (P : Program) (w : World) (fs : List Field) (off : Nat) {α : Type} (K : Kd α) (G : α → Prop) (b : α → Nat) : Prop where
  open_ : ∀ fuel (cs : List Value) (xs : List (DataW H × List MemPlace)), fs.mapM (fun f => DataW.trod enc P w 0 (fun _ => true) true fuel f.type ((cs.drop f.offset).take (P.cellsOf f.type))) = some xs →
    ∃ x, K.K w x ((cs.drop off).take K.sz) ∧ ((∀ n ∈ DataW.weightsEach P (fs.map (·.type)) (xs.map (·.1)), n ≤ reachBytes) → G x) ∧ b x ≤ Rows.uptoBulkAll (xs.map (·.1))
theorem opensF_one {f : Field} {α : Type} {K : Kd α} {G : α → Prop} {b : α → Nat} (ho : Opens enc P w f.type K G b) : OpensF enc P w [f] f.offset K G b := by
  refine ⟨fun fuel cs xs h => ?_⟩
  rw [List.mapM_cons, List.mapM_nil] at h
  simp only [Option.bind_eq_bind, Option.bind_eq_some_iff] at h
  obtain ⟨y, h1, ys', h2, h3⟩ := h
  simp at h2 h3; subst h2; subst h3
  obtain ⟨x, hx1, hx2, hx3⟩ := ho.open_ fuel _ y.1 y.2 h1
  rw [ho.sz] at hx1
  refine ⟨x, hx1, fun hw => hx2 (fun n hn => hw n ?_), by simpa [Rows.uptoBulkAll] using hx3⟩
  simp [DataW.weightsEach, hn]
theorem opensF_cons {f : Field} {fs : List Field} {α β : Type} {K0 : Kd α} {G0 : α → Prop} {b0 : α → Nat} {K1 : Kd β} {G1 : β → Prop} {b1 : β → Nat} (ho : Opens enc P w f.type K0 G0 b0) {off : Nat} (hoff : off = f.offset + K0.sz) (hr : OpensF enc P w fs off K1 G1 b1) :
    OpensF enc P w (f :: fs) f.offset (Kd.pair K0 K1) (fun p => G0 p.1 ∧ G1 p.2) (fun p => b0 p.1 + b1 p.2) := by
  subst hoff
  refine ⟨fun fuel cs xs h => ?_⟩
  rw [List.mapM_cons] at h
  simp only [Option.bind_eq_bind, Option.bind_eq_some_iff] at h
  obtain ⟨y, h1, ys', h2, h3⟩ := h
  simp at h3; subst h3
  obtain ⟨x, hx1, hx2, hx3⟩ := ho.open_ fuel _ y.1 y.2 h1
  rw [ho.sz] at hx1
  obtain ⟨z, hz1, hz2, hz3⟩ := hr.open_ fuel cs ys' h2
  refine ⟨(x, z), ⟨_, _, ?_, hx1, hz1⟩, fun hw => ⟨hx2 (fun n hn => hw n ?_), hz2 (fun n hn => hw n ?_)⟩, ?_⟩
  · show List.take (K0.sz + K1.sz) _ = _
    rw [List.take_add, List.drop_drop]
  · simp only [List.map_cons, DataW.weightsEach]; exact List.mem_append_left _ hn
  · simp only [List.map_cons, DataW.weightsEach]; exact List.mem_append_right _ hn
  · simp only [List.map_cons, Rows.uptoBulkAll]; omega
theorem opens_struct {t : TypeId} {fs : Array Field} {α β : Type} {K : Kd α} {G : α → Prop} {b : α → Nat} (f : β → α) (g : α → β) (hfg : ∀ x, f (g x) = x) (hu : P.underlying t = some (.struct fs)) (hs : P.cellsOf t = K.sz) (hf : OpensF enc P w fs.toList 0 K G b) :
    Opens enc P w t (Kd.iso K f) (fun x => G (f x)) (fun x => b (f x) + 1) := by
  refine ⟨hs, fun fuel cs d ps h => ?_⟩
  cases fuel with
  | zero => simp [DataW.trod] at h
  | succ fuel =>
    unfold DataW.trod at h
    rw [hu] at h
    split at h <;> try (simp_all; done)
    rename_i fs' h1
    obtain rfl : fs = fs' := by simpa using h1
    split at h
    · rename_i hl
      simp only [Option.map_eq_some_iff] at h
      obtain ⟨xs, hx, h⟩ := h
      simp only [Prod.mk.injEq] at h
      obtain ⟨rfl, rfl⟩ := h
      obtain ⟨x, hx1, hx2, hx3⟩ := hf.open_ fuel _ xs hx
      rw [List.drop_zero, List.take_of_length_le (by omega)] at hx1
      refine ⟨g x, ?_, ?_, ?_⟩
      · show K.K w (f (g x)) _
        rw [hfg]; exact hx1
      · intro hw
        show G (f (g x))
        rw [hfg]
        refine hx2 (fun n hn => hw n ?_)
        simpa [DataW.weights, hu] using hn
      · show b (f (g x)) + 1 ≤ _
        rw [hfg]
        simp only [Rows.uptoBulk]
        omega
    · cases h
end
end Go.Proofs.Ytgnmhbkialgeaaa.Opn
end

section
namespace Go.Proofs.Ytgnmhbkialgeaaa.Pure
open Go.RowKit Go.Proofs.Ytgnmhbkialgeaaa.O
def WireOneSt : Prop := ∀ (a0_0 : Int) (a0_1 : Int) (a0_2 : Int) (a0_3 : Int) (a0_4 : Int) (a0_5 : Int) (a0_6 : Int) (a0_7 : Int) (a0_8 : Int) (a0_9 : Int) (a0_10 : Int) (a0_11 : ByteArray) (a0_12 : ByteArray) (a0_13 : ByteArray) (a0_14 : Int) (a0_15 : Int) (a0_16 : Int) (a0_17 : Int) (a0_18 : Int) (a0_19 : Int) (a0_20 : Int) (a0_21 : Int) (a0_22 : Int) (a0_23 : ByteArray) (l0_24 : List ByteArray) (a0_25 : Int) (a0_26 : Int), (Lit.int .i64 a0_0).wf = true → (Lit.int .i64 a0_1).wf = true → (Lit.int .i64 a0_2).wf = true → (Lit.int .i64 a0_3).wf = true → (Lit.int .i64 a0_4).wf = true → (Lit.int .i64 a0_5).wf = true → (Lit.int .i64 a0_6).wf = true → (Lit.int .i64 a0_7).wf = true → (Lit.int .i64 a0_8).wf = true → (Lit.int .i64 a0_9).wf = true → (Lit.int .i64 a0_10).wf = true → a0_11.size ≤ 140737488351232 → a0_12.size ≤ 140737488351232 → a0_13.size ≤ 140737488351232 → (Lit.int .i64 a0_14).wf = true → (Lit.int .i64 a0_15).wf = true → (Lit.int .i64 a0_16).wf = true → (Lit.int .i64 a0_17).wf = true → (Lit.int .i64 a0_18).wf = true → (Lit.int .i64 a0_19).wf = true → (Lit.int .i64 a0_20).wf = true → (Lit.int .i64 a0_21).wf = true → (Lit.int .i64 a0_22).wf = true → a0_23.size ≤ 140737488351232 → (l0_24.length * 16 ≤ 140737488351232 ∧ ∀ y_ ∈ l0_24, y_.size ≤ 140737488351232) → (Lit.int .i64 a0_25).wf = true → (Lit.int .u8 a0_26).wf = true → ((((1 + (1 + (1 + (1 + (1 + (1 + ((1 + (1 + (1 + (1 + (1 + ((a0_11.size + 1) + ((a0_12.size + 1) + (a0_13.size + 1)))))))) + 1))))))) + 1) + (((1 + (1 + (1 + (1 + (1 + ((1 + (1 + (1 + (1 + ((a0_23.size + 1) + ((l0_24.map fun y_ => (y_.size + 1)).sum + 1)))))) + 1)))))) + 1) + (1 + 1))) + 1) ≤ 1048576 → Go.Proofs.Ytgnmhbkialgeaaa.copyholdlaw15_WireOne.f a0_0 a0_1 a0_2 a0_3 a0_4 a0_5 a0_6 a0_7 a0_8 a0_9 a0_10 a0_11 a0_12 a0_13 a0_14 a0_15 a0_16 a0_17 a0_18 a0_19 a0_20 a0_21 a0_22 a0_23 l0_24 a0_25 a0_26 = some true
end Go.Proofs.Ytgnmhbkialgeaaa.Pure
end

section
namespace Go.Proofs.Ytgnmhbkialgeaaa.Pure
open Go.RowKit Go.Proofs.YtgnmhbkialgeaaaW.PrintWords Go.Proofs.YtgnmhbkialgeaaaW.PrintLast Math
theorem lens_bulk (l : List ByteArray) : lensS l ≤ 20 * (l.map fun y_ => (y_.size + 1)).sum := by
  induction l with
  | nil => exact Nat.le_refl _
  | cons a l ih =>
    have e : lensS (a :: l) = a.size + 20 + lensS l := rfl
    rw [e, List.map_cons, List.sum_cons]; omega
theorem WireOne : WireOneSt := by
  intro a0_0 a0_1 a0_2 a0_3 a0_4 a0_5 a0_6 a0_7 a0_8 a0_9 a0_10 a0_11 a0_12 a0_13 a0_14 a0_15 a0_16 a0_17 a0_18 a0_19 a0_20 a0_21 a0_22 a0_23 l0_24 a0_25 a0_26 w0 w1 w2 w3 w4 w5 w6 w7 w8 w9 w10 w11 w12 w13 w14 w15 w16 w17 w18 w19 w20 w21 w22 w23 w24 w25 w26 hb
  have hl := lens_bulk l0_24
  have h8 : 0 ≤ a0_26 ∧ a0_26 < 256 := lit8 w26
  unfold copyholdlaw15_WireOne.f
  refine if_pos ⟨?_, by omega, h8.1, h8.2⟩
  simp only [inI, List.all_cons, List.all_nil, Bool.and_true, Bool.and_eq_true, decide_eq_true_eq]
  exact ⟨lit64 w0, lit64 w1, lit64 w2, lit64 w3, lit64 w4, lit64 w5, lit64 w6, lit64 w7, lit64 w8, lit64 w9, lit64 w10, lit64 w14, lit64 w15, lit64 w16, lit64 w17, lit64 w18, lit64 w19, lit64 w20, lit64 w21, lit64 w22⟩
end Go.Proofs.Ytgnmhbkialgeaaa.Pure
end
