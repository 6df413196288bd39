import Derived.Test.YtcbfnfggnocndaaZRedo26
set_option linter.unusedVariables false
set_option linter.unusedSimpArgs false
section
namespace Go.Proofs.Ytcbfnfggnocndaa
open Go.RowKit Go.Shelf Go.Proofs.Ytcbfnfggnocndaa.Q Go.Proofs.YtcbfnfggnocndaaW.PrintWords Go.Proofs.YtcbfnfggnocndaaW.PrintLast Go.Proofs.YtcbfnfggnocndaaW.PrintMore Math
def LogBox (W : World) (b : Nat) (x y z v : Value) : Prop := W.heap[b]? = some (.cells #[x, y, z, v] 30 (0, 0))
theorem LogBox.facts {W : World} {b : Nat} {x y z v : Value} (h : LogBox W b x y z v) :
  W.cell? ⟨b, 0, none⟩ = some x ∧ W.cell? ⟨b, 1, none⟩ = some y ∧ W.cell? ⟨b, 2, none⟩ = some z ∧ W.cell? ⟨b, 3, none⟩ = some v ∧ W.frozen? ⟨b, 0, none⟩ = false ∧ W.frozen? ⟨b, 1, none⟩ = false ∧ W.frozen? ⟨b, 2, none⟩ = false ∧ W.frozen? ⟨b, 3, none⟩ = false := by
 refine ⟨by rw [blk_cell h]; rfl, by rw [blk_cell h]; rfl, by rw [blk_cell h]; rfl, by rw [blk_cell h]; rfl, blk_frozen h 0, blk_frozen h 1, blk_frozen h 2, blk_frozen h 3⟩
set_option maxHeartbeats 4000000 in
set_option maxRecDepth 1000000 in
theorem drop_main (A0 : Option Addr) (c0 : Nat) (l0 : List ByteArray) (A1 : Option Addr) (c1 : Nat) (l1 : List S88) (off : Bool) (fr mn at_ first many lmany : Nat) (used : Int) (w : World) (h0 : Kd.C Kd.string w A0 l0.length l0) (g0 : l0.length ≤ c0) (h1 : Kd.C k88 w A1 l1.length l1) (g1 : l1.length ≤ c1) (hok : DiskOk l0 l1)
  (hm : 1 ≤ mn) (hfm : fr + mn ≤ l0.length) (hmn : mn ≤ 10000) (hs : ∀ s ∈ ringL l0 l1 fr mn, s.size = 64) (hat : at_ < mn) (hf : first < 18446744073709551616) (hmy : many ≤ lmany) (hlm : lmany ≤ 9223372036854775807) :
  Calls Try.prog 26 #[.agg #[.slice A0 l0.length c0, .slice A1 l1.length c1, .bool off], .agg #[.int .i64 fr, .int .i64 mn], .agg #[.int .i64 at_, .int .i64 used, .int .u64 first, .int .i64 lmany], .int .i64 many] w fun e w' =>
   e = .returned (.tuple #[.agg #[.int .i64 (((at_ + (found (ringL l0 l1 fr mn) at_ first many).2) % mn : Nat) : Int), .int .i64 (wrap64 (used - ((found (ringL l0 l1 fr mn) at_ first many).2 : Int))), .int .u64 (((first + many) % 18446744073709551616 : Nat) : Int), .int .i64 ((lmany - many : Nat) : Int)], .int .i64 0]) ∧ Below w.heap.size w w' := by
 have hrl := ringL_len l0 l1 fr mn hfm
 obtain ⟨W0, hW0⟩ : ∃ W0, W0 = ((w.alloc (.cells #[.slice A0 l0.length c0, .slice A1 l1.length c1, .bool off] 25)).alloc (.cells #[.int .i64 fr, .int .i64 mn] 27)).alloc (.cells #[.int .i64 at_, .int .i64 used, .int .u64 first, .int .i64 lmany] 30) := ⟨_, rfl⟩
 obtain ⟨hx0, hl0, hz0⟩ := bx3_new w _ _ _ _ _ _ _ _ _ W0 hW0
 obtain ⟨W1, hW1⟩ : ∃ W1, W1 = W0.alloc (.cells #[.int .i64 0, .int .i64 0, .int .u64 0, .int .i64 0] 30) := ⟨_, rfl⟩
 have b1 := (Below.refl W0.heap.size W0).alloc (Nat.le_refl _) (.cells #[.int .i64 0, .int .i64 0, .int .u64 0, .int .i64 0] 30)
 have hbx : LogBox W1 (w.heap.size + 3) (.int .i64 0) (.int .i64 0) (.int .u64 0) (.int .i64 0) := by unfold LogBox; rw [← hz0, hW1]; exact heap_alloc_new W0 _
 rw [← hW1] at b1
 have hz1 : W1.heap.size = w.heap.size + 4 := by rw [hW1, World.size_alloc, hz0]
 have hx := hx0.step b1
 have hl := hl0.step b1
 have HXD : Hid (Bx2 w W1.drew _ _ _ _ _) := Lib.hid ⟨hx.d, hx.r, below_drew hx.b⟩
 have HLD : Hid (BxL w W1.drew _ _ _ _) := Lib.hid ⟨hl.l⟩
 have HZD : Hid (w.heap.size + 3 < W1.drew.heap.size) := Lib.hid (by have e : W1.drew.heap.size = W1.heap.size := rfl; omega)
 have HBX : Hid (LogBox W1.drew (w.heap.size + 3) (.int .i64 0) (.int .i64 0) (.int .u64 0) (.int .i64 0)) := Lib.hid hbx
 have hring := ring_calls A0 c0 l0 A1 c1 l1 off fr mn W1.drew (Kd.C_below h0 (below_drew hx.b)) g0 (Kd.C_below h1 (below_drew hx.b)) g1 hok hm hfm
 have heach : ∀ (A3 : Option Addr) (c3 : Nat) (w3 : World), RdS w3 A3 (ringL l0 l1 fr mn) → (ringL l0 l1 fr mn).length ≤ c3 → _ :=
  fun A3 c3 w3 hr hc => each_ring 46 #[] (ringL l0 l1 fr mn) at_ first many (fun _ _ => True) w3.heap.size A3 c3 w3 hr hc
   (fun ad h => by
    rcases hr with hr | ⟨ad2, h2, h3, _⟩
    ·rw [hr] at hrl; simp at hrl; omega
    ·rw [h] at h2; obtain rfl := Option.some.inj h2; omega) (by omega) (by omega) hs (by omega) hf (by omega) trivial (fun _ _ _ _ _ => trivial)
   (fun acc W s m _ _ _ => (nop2_calls W s m).mono fun e W' h => ⟨h.1, trivial, by rw [h.2]; exact KeepE.refl _ _ _⟩) nop2_enters
 have hnb : (found (ringL l0 l1 fr mn) at_ first many).2 ≤ (ringL l0 l1 fr mn).length := (goP_len (stR (ringL l0 l1 fr mn)) (ringL l0 l1 fr mn).length at_ first many (fun a m n => standsB_le _ m n) ((ringL l0 l1 fr mn).length + 1) [] 0 (Nat.le_refl 0) (Nat.zero_le _)).2
 rw [hrl] at hnb
 have HNB := Lib.hid hnb
 clear hnb
 have HRING := Lib.hid hring; have HEACH := Lib.hid heach; have HW1 := Lib.hid hW1; have HW0 := Lib.hid hW0
 have e1 : decide ((many : Int) < 0) = false := decide_eq_false (by omega)
 have e2 : decide ((lmany : Int) < (many : Int)) = false := decide_eq_false (by omega)
 have e2n : decide (lmany < many) = false := decide_eq_false (by omega)
 clear h0 h1 hx hl hz0 hz1 hx0 hl0 hW0 hW1 b1 hbx hring heach hok hs hrl
 go_enter Try.func26, Try.ntmps26
 go_wp2_with fail
 rw [← HW0.out, ← HW1.out]
 refine start_ (n := 14) (S := fun w' => w'.cell? ⟨w.heap.size, 0, none⟩ = some (.slice A0 l0.length c0) ∧ w'.cell? ⟨w.heap.size, 1, none⟩ = some (.slice A1 l1.length c1) ∧ w'.cell? ⟨w.heap.size, 2, none⟩ = some (.bool off) ∧ w'.cell? ⟨w.heap.size + 1, 0, none⟩ = some (.int .i64 (fr : Int)) ∧ w'.cell? ⟨w.heap.size + 1, 1, none⟩ = some (.int .i64 (mn : Int)) ∧ w'.cell? ⟨w.heap.size + 2, 0, none⟩ = some (.int .i64 (at_ : Int)) ∧ w'.cell? ⟨w.heap.size + 2, 2, none⟩ = some (.int .u64 (first : Int))) (ds := []) #[false, false, false, false, false, false, false, false, false, false, false, false, false, false] (by kernel_rfl) rfl rfl ⟨HXD.out.c0, HXD.out.c1, HXD.out.c2, HXD.out.r0, HXD.out.r1, HLD.out.l0, HLD.out.l2⟩ (fun hHeld => ?_)
 refine pure_ (i := 3) (N := some 25) (v := ?_) (a' := ?_) #[false, false, false, true, false, false, false, false, false, false, false, false, false, false] rfl rfl (by kernel_rfl) (fun _ _ _ h => h) (Or.inl ⟨by rfl, ?_⟩) ?_ ?_
 (rotate_left; · (intro w'; go_simp; with_reducible rfl))
 (rotate_left; · (simp only [Act.put, List.setIfInBounds_toArray, List.set_cons_zero, List.set_cons_succ, i64_w, i32_w]; rfl))
 refine pure_ (i := 5) (N := some 27) (v := ?_) (a' := ?_) #[false, false, false, true, false, true, false, false, false, false, false, false, false, false] rfl rfl (by kernel_rfl) (fun _ _ _ h => h) (Or.inl ⟨by rfl, ?_⟩) ?_ ?_
 (rotate_left; · (intro w'; go_simp; with_reducible rfl))
 (rotate_left; · (simp only [Act.put, List.setIfInBounds_toArray, List.set_cons_zero, List.set_cons_succ, i64_w, i32_w]; rfl))
 refine pure_ (i := 7) (N := some 29) (v := ?_) (a' := ?_) #[false, false, false, true, false, true, false, true, false, false, false, false, false, false] rfl rfl (by kernel_rfl) (fun _ _ _ h => h) (Or.inl ⟨by rfl, ?_⟩) ?_ ?_
 (rotate_left; · (intro w'; go_simp; with_reducible rfl))
 (rotate_left; · (simp only [Act.put, List.setIfInBounds_toArray, List.set_cons_zero, List.set_cons_succ, i64_w, i32_w]; rfl))
 refine take_ (i := 0) (N := some 22) (v := ?_) (a' := ?_) #[true, false, false, true, false, true, false, true, false, false, false, false, false, false] rfl rfl (by kernel_rfl) (fun _ _ _ h => h) (Or.inl ⟨by rfl, ?_⟩) hHeld ?_ ?_
 rotate_left
 ·rintro w' ⟨s0, s1, s2, s3, s4, s5, s6⟩
  go_simp
  with_reducible rfl
 (rotate_left; · (simp only [Act.put, List.setIfInBounds_toArray, List.set_cons_zero, List.set_cons_succ, i64_w, i32_w]; rfl))
 refine take_ (i := 1) (N := some 23) (v := ?_) (a' := ?_) #[true, true, false, true, false, true, false, true, false, false, false, false, false, false] rfl rfl (by kernel_rfl) (fun _ _ _ h => h) (Or.inl ⟨by rfl, ?_⟩) hHeld ?_ ?_
 rotate_left
 ·rintro w' ⟨s0, s1, s2, s3, s4, s5, s6⟩
  go_simp
  with_reducible rfl
 (rotate_left; · (simp only [Act.put, List.setIfInBounds_toArray, List.set_cons_zero, List.set_cons_succ, i64_w, i32_w]; rfl))
 refine take_ (i := 4) (N := some 26) (v := ?_) (a' := ?_) #[true, true, false, true, true, true, false, true, false, false, false, false, false, false] rfl rfl (by kernel_rfl) (fun _ _ _ h => h) (Or.inl ⟨by rfl, ?_⟩) hHeld ?_ ?_
 rotate_left
 ·rintro w' ⟨s0, s1, s2, s3, s4, s5, s6⟩
  go_simp
  with_reducible rfl
 (rotate_left; · (simp only [Act.put, List.setIfInBounds_toArray, List.set_cons_zero, List.set_cons_succ, i64_w, i32_w]; rfl))
 refine take_ (i := 6) (N := some 28) (v := ?_) (a' := ?_) #[true, true, false, true, true, true, true, true, false, false, false, false, false, false] rfl rfl (by kernel_rfl) (fun _ _ _ h => h) (Or.inl ⟨by rfl, ?_⟩) hHeld ?_ ?_
 rotate_left
 ·rintro w' ⟨s0, s1, s2, s3, s4, s5, s6⟩
  go_simp
  with_reducible rfl
 (rotate_left; · (simp only [Act.put, List.setIfInBounds_toArray, List.set_cons_zero, List.set_cons_succ, i64_w, i32_w]; rfl))
 refine one_ (i := 2) (N := some 24) #[true, true, true, true, true, true, true, true, false, false, false, false, false, false] rfl rfl (by kernel_rfl) (by decide) (fun K hK => ?_)
 refine goes_ Try.func39 (by kernel_rfl) rfl #[.agg #[.slice A0 l0.length c0, .slice A1 l1.length c1, .bool off], .agg #[.int .i64 fr, .int .i64 mn]] (by rfl) rfl rfl (by simp only [List.map_toArray, List.map_cons, List.map_nil]; rfl) ?_
 with_reducible refine (HRING.out).mono ?_
 rintro e w3 ⟨A3, c3, rfl, hr3, hc3, hA3, hb3⟩
 refine ⟨_, rfl, ?_⟩
 have HX3 := Lib.hid (HXD.out.step hb3)
 have HL3 := Lib.hid (HLD.out.step hb3)
 have HR3 := Lib.hid hr3
 have HZ3 := Lib.hid (Nat.lt_of_lt_of_le HZD.out hb3.size)
 have HBX3 : Hid (LogBox w3 _ _ _ _ _) := Lib.hid ((hb3.block _ (blk_lt HBX.out)).trans HBX.out)
 clear hr3 hA3 hb3
 refine hK.out _ _ ⟨HX3.out.c0, HX3.out.c1, HX3.out.c2, HX3.out.r0, HX3.out.r1, HL3.out.l0, HL3.out.l2⟩ (fun hHeld => ?_)
 clear hK K
 refine norm_ (a' := ?_) ?_ ?_
 rotate_left
 ·show Act.put _ (some 24) _ = _
  simp only [Act.put, List.setIfInBounds_toArray, List.set_cons_zero, List.set_cons_succ, i64_w, i32_w]
  rfl
 refine one_ (i := 8) (N := some 30) #[true, true, true, true, true, true, true, true, true, false, false, false, false, false] rfl rfl (by kernel_rfl) (by decide) (fun K hK => ?_)
 refine goes_ Try.func38 (by kernel_rfl) rfl #[.slice A3 (ringL l0 l1 fr mn).length c3, .int .i64 at_, .int .u64 first, .int .i64 many, .func (.func 46) #[] #[]] (by rfl) rfl rfl (by simp only [List.map_toArray, List.map_cons, List.map_nil]; rfl) ?_
 with_reducible refine ((HEACH.out A3 c3 w3 HR3.out hc3)).mono ?_
 rintro e w4 ⟨rfl, _, hk4⟩
 refine ⟨_, rfl, ?_⟩
 have HX4 := Lib.hid (HX3.out.keep hk4 (by have := HZ3.out; omega) (by have := HZ3.out; omega))
 have HL4 := Lib.hid (HL3.out.keep hk4 (by have := HZ3.out; omega) (by have := HZ3.out; omega))
 have HBX4 : Hid (LogBox w4 _ _ _ _ _) := Lib.hid ((hk4.block _ HZ3.out (by have := HZ3.out; omega)).trans HBX3.out)
 clear hk4
 refine hK.out _ _ ⟨HX4.out.c0, HX4.out.c1, HX4.out.c2, HX4.out.r0, HX4.out.r1, HL4.out.l0, HL4.out.l2⟩ (fun hHeld => ?_)
 clear hK K
 refine norm_ (a' := ?_) ?_ ?_
 rotate_left
 ·show Act.put _ (some 30) _ = _
  simp only [Act.put, List.setIfInBounds_toArray, List.set_cons_zero, List.set_cons_succ, i64_w, i32_w]
  rfl
 refine pure_ (i := 9) (N := some 21) (v := ?_) (a' := ?_) #[true, true, true, true, true, true, true, true, true, true, false, false, false, false] rfl rfl (by kernel_rfl) (fun _ _ _ h => h) (Or.inl ⟨by rfl, ?_⟩) ?_ ?_
 (rotate_left; · (intro w'; go_simp; with_reducible rfl))
 (rotate_left; · (simp only [Act.put, List.setIfInBounds_toArray, List.set_cons_zero, List.set_cons_succ, i64_w, i32_w]; rfl))
 refine pure_ (i := 10) (N := some 31) (v := ?_) (a' := ?_) #[true, true, true, true, true, true, true, true, true, true, true, false, false, false] rfl rfl (by kernel_rfl) (fun _ _ _ h => h) (Or.inl ⟨by rfl, ?_⟩) ?_ ?_
 (rotate_left; · (intro w'; go_simp; with_reducible rfl))
 (rotate_left; · (simp only [Act.put, List.setIfInBounds_toArray, List.set_cons_zero, List.set_cons_succ, i64_w, i32_w]; rfl))
 refine pure_ (i := 11) (N := some 32) (v := ?_) (a' := ?_) #[true, true, true, true, true, true, true, true, true, true, true, true, false, false] rfl rfl (by kernel_rfl) (fun _ _ _ h => h) (Or.inl ⟨by rfl, ?_⟩) ?_ ?_
 (rotate_left; · (intro w'; go_simp; with_reducible rfl))
 (rotate_left; · (simp only [Act.put, List.setIfInBounds_toArray, List.set_cons_zero, List.set_cons_succ, i64_w, i32_w]; rfl))
 refine pure_ (i := 12) (N := some 10) (v := ?_) (a' := ?_) #[true, true, true, true, true, true, true, true, true, true, true, true, true, false] rfl rfl (by kernel_rfl) (fun _ _ _ h => h) (Or.inl ⟨by rfl, ?_⟩) ?_ ?_
 (rotate_left; · (intro w'; go_simp; with_reducible rfl))
 (rotate_left; · (simp only [Act.put, List.setIfInBounds_toArray, List.set_cons_zero, List.set_cons_succ, i64_w, i32_w]; rfl))
 refine pure_ (i := 13) (N := some 11) (v := ?_) (a' := ?_) #[true, true, true, true, true, true, true, true, true, true, true, true, true, true] rfl rfl (by kernel_rfl) (fun _ _ _ h => h) (Or.inl ⟨by rfl, ?_⟩) ?_ ?_
 (rotate_left; · (intro w'; go_simp; with_reducible rfl))
 (rotate_left; · (simp only [Act.put, List.setIfInBounds_toArray, List.set_cons_zero, List.set_cons_succ, i64_w, i32_w]; rfl))
 refine done_ (by kernel_rfl) ?_
 obtain ⟨n2, hn2⟩ : ∃ n2, n2 = (found (ringL l0 l1 fr mn) at_ first many).2 := ⟨_, rfl⟩
 have hS4 := HBX4.out.facts
 have HS4 := Lib.hid hS4
 have HN2 := Lib.hid hn2
 have hn2l : n2 ≤ mn := by rw [hn2]; exact HNB.out
 rw [← hn2]
 clear hS4 hn2
 have hrem : Int.tmod ((at_ : Int) + (n2 : Int)) (mn : Int) = (((at_ + n2) % mn : Nat) : Int) := by
  rw [show (at_ : Int) + (n2 : Int) = ((at_ + n2 : Nat) : Int) by omega]; rfl
 have hlz2 : ((mn : Int) == 0) = false := beq_eq_false_iff_ne.2 (by omega)
 have hlz : ¬ ((mn : Int) = 0) := by omega
 have hmz : ¬ mn = 0 := by omega
 have hw0 : wrap64 ((at_ : Int) + (n2 : Int)) = (at_ : Int) + (n2 : Int) := w64 (by omega) (by omega)
 have hw1 : wrap64 ((lmany : Int) - (many : Int)) = (lmany : Int) - (many : Int) := w64 (by clear hw0; omega) (by clear hw0; omega)
 have hu0 : IntKind.u64.wrap (many : Int) = (many : Int) := u64_in (by omega)
 have hu1 := u64_add first many
 go_wp2_with fail
 refine start_ (n := 23) (S := fun w' => w'.cell? ⟨w.heap.size + 1, 1, none⟩ = some (.int .i64 (mn : Int)) ∧ w'.cell? ⟨w.heap.size + 2, 0, none⟩ = some (.int .i64 (at_ : Int)) ∧ w'.cell? ⟨w.heap.size + 2, 1, none⟩ = some (.int .i64 used) ∧ w'.cell? ⟨w.heap.size + 2, 2, none⟩ = some (.int .u64 (first : Int)) ∧ w'.cell? ⟨w.heap.size + 2, 3, none⟩ = some (.int .i64 (lmany : Int))) (ds := [21]) #[false, false, false, false, false, false, false, false, false, false, false, false, false, false, false, false, false, false, false, false, false, false, false] (by kernel_rfl) rfl rfl ⟨HX4.out.r1, HL4.out.l0, HL4.out.l1, HL4.out.l2, HL4.out.l3⟩ (fun hHeld => ?_)
 refine pure_ (i := 0) (N := some 33) (v := ?_) (a' := ?_) #[true, false, false, false, false, false, false, false, false, false, false, false, false, false, false, false, false, false, false, false, false, false, false] rfl rfl (by kernel_rfl) (fun _ _ _ h => h) (Or.inl ⟨by rfl, ?_⟩) ?_ ?_
 (rotate_left; · (intro w'; go_simp; with_reducible rfl))
 (rotate_left; · (simp only [Act.put, List.setIfInBounds_toArray, List.set_cons_zero, List.set_cons_succ, i64_w, i32_w]; rfl))
 refine pure_ (i := 2) (N := some 35) (v := ?_) (a' := ?_) #[true, false, true, false, false, false, false, false, false, false, false, false, false, false, false, false, false, false, false, false, false, false, false] rfl rfl (by kernel_rfl) (fun _ _ _ h => h) (Or.inl ⟨by rfl, ?_⟩) ?_ ?_
 (rotate_left; · (intro w'; go_simp; with_reducible rfl))
 (rotate_left; · (simp only [Act.put, List.setIfInBounds_toArray, List.set_cons_zero, List.set_cons_succ, i64_w, i32_w]; rfl))
 refine pure_ (i := 4) (N := some 37) (v := ?_) (a' := ?_) #[true, false, true, false, true, false, false, false, false, false, false, false, false, false, false, false, false, false, false, false, false, false, false] rfl rfl (by kernel_rfl) (fun _ _ _ h => h) (Or.inl ⟨by rfl, ?_⟩) ?_ ?_
 (rotate_left; · (intro w'; go_simp; with_reducible rfl))
 (rotate_left; · (simp only [Act.put, List.setIfInBounds_toArray, List.set_cons_zero, List.set_cons_succ, i64_w, i32_w]; rfl))
 refine pure_ (i := 7) (N := some 40) (v := ?_) (a' := ?_) #[true, false, true, false, true, false, false, true, false, false, false, false, false, false, false, false, false, false, false, false, false, false, false] rfl rfl (by kernel_rfl) (fun _ _ _ h => h) (Or.inl ⟨by rfl, ?_⟩) ?_ ?_
 (rotate_left; · (intro w'; go_simp; with_reducible rfl))
 (rotate_left; · (simp only [Act.put, List.setIfInBounds_toArray, List.set_cons_zero, List.set_cons_succ, i64_w, i32_w]; rfl))
 refine pure_ (i := 9) (N := some 42) (v := ?_) (a' := ?_) #[true, false, true, false, true, false, false, true, false, true, false, false, false, false, false, false, false, false, false, false, false, false, false] rfl rfl (by kernel_rfl) (fun _ _ _ h => h) (Or.inl ⟨by rfl, ?_⟩) ?_ ?_
 (rotate_left; · (intro w'; go_simp; with_reducible rfl))
 (rotate_left; · (simp only [Act.put, List.setIfInBounds_toArray, List.set_cons_zero, List.set_cons_succ, i64_w, i32_w]; rfl))
 refine pure_ (i := 11) (N := some 44) (v := ?_) (a' := ?_) #[true, false, true, false, true, false, false, true, false, true, false, true, false, false, false, false, false, false, false, false, false, false, false] rfl rfl (by kernel_rfl) (fun _ _ _ h => h) (Or.inl ⟨by rfl, ?_⟩) ?_ ?_
 (rotate_left; · (intro w'; go_simp; with_reducible rfl))
 (rotate_left; · (simp only [Act.put, List.setIfInBounds_toArray, List.set_cons_zero, List.set_cons_succ, i64_w, i32_w]; rfl))
 refine pure_ (i := 13) (N := some 46) (v := ?_) (a' := ?_) #[true, false, true, false, true, false, false, true, false, true, false, true, false, true, false, false, false, false, false, false, false, false, false] rfl rfl (by kernel_rfl) (fun _ _ _ h => h) (Or.inl ⟨by rfl, ?_⟩) ?_ ?_
 (rotate_left; · (intro w'; go_simp; with_reducible rfl))
 (rotate_left; · (simp only [Act.put, List.setIfInBounds_toArray, List.set_cons_zero, List.set_cons_succ, i64_w, i32_w]; rfl))
 refine pure_ (i := 14) (N := some 47) (v := ?_) (a' := ?_) #[true, false, true, false, true, false, false, true, false, true, false, true, false, true, true, false, false, false, false, false, false, false, false] rfl rfl (by kernel_rfl) (fun _ _ _ h => h) (Or.inl ⟨by rfl, ?_⟩) ?_ ?_
 (rotate_left; · (intro w'; go_simp; with_reducible rfl))
 (rotate_left; · (simp only [Act.put, List.setIfInBounds_toArray, List.set_cons_zero, List.set_cons_succ, i64_w, i32_w]; rfl))
 refine pure_ (i := 16) (N := some 49) (v := ?_) (a' := ?_) #[true, false, true, false, true, false, false, true, false, true, false, true, false, true, true, false, true, false, false, false, false, false, false] rfl rfl (by kernel_rfl) (fun _ _ _ h => h) (Or.inl ⟨by rfl, ?_⟩) ?_ ?_
 (rotate_left; · (intro w'; go_simp; with_reducible rfl))
 (rotate_left; · (simp only [Act.put, List.setIfInBounds_toArray, List.set_cons_zero, List.set_cons_succ, i64_w, i32_w]; rfl))
 refine pure_ (i := 18) (N := some 51) (v := ?_) (a' := ?_) #[true, false, true, false, true, false, false, true, false, true, false, true, false, true, true, false, true, false, true, false, false, false, false] rfl rfl (by kernel_rfl) (fun _ _ _ h => h) (Or.inl ⟨by rfl, ?_⟩) ?_ ?_
 (rotate_left; · (intro w'; go_simp; with_reducible rfl))
 (rotate_left; · (simp only [Act.put, List.setIfInBounds_toArray, List.set_cons_zero, List.set_cons_succ, i64_w, i32_w]; rfl))
 refine take_ (i := 1) (N := some 34) (v := ?_) (a' := ?_) #[true, true, true, false, true, false, false, true, false, true, false, true, false, true, true, false, true, false, true, false, false, false, false] rfl rfl (by kernel_rfl) (fun _ _ _ h => h) (Or.inl ⟨by rfl, ?_⟩) hHeld ?_ ?_
 rotate_left
 ·rintro w' ⟨s0, s1, s2, s3, s4⟩
  go_simp
  with_reducible rfl
 (rotate_left; · (simp only [Act.put, List.setIfInBounds_toArray, List.set_cons_zero, List.set_cons_succ, i64_w, i32_w]; rfl))
 refine pure_ (i := 3) (N := some 36) (v := ?_) (a' := ?_) #[true, true, true, true, true, false, false, true, false, true, false, true, false, true, true, false, true, false, true, false, false, false, false] rfl rfl (by kernel_rfl) (fun _ _ _ h => h) (Or.inl ⟨by rfl, ?_⟩) ?_ ?_
 (rotate_left; · (intro w'; go_simp; with_reducible rfl))
 (rotate_left; · (simp only [Act.put, List.setIfInBounds_toArray, List.set_cons_zero, List.set_cons_succ, i64_w, i32_w]; rfl))
 refine take_ (i := 5) (N := some 38) (v := ?_) (a' := ?_) #[true, true, true, true, true, true, false, true, false, true, false, true, false, true, true, false, true, false, true, false, false, false, false] rfl rfl (by kernel_rfl) (fun _ _ _ h => h) (Or.inl ⟨by rfl, ?_⟩) hHeld ?_ ?_
 rotate_left
 ·rintro w' ⟨s0, s1, s2, s3, s4⟩
  go_simp
  with_reducible rfl
 (rotate_left; · (simp only [Act.put, List.setIfInBounds_toArray, List.set_cons_zero, List.set_cons_succ, i64_w, i32_w]; rfl))
 refine pure_ (i := 6) (N := some 39) (v := ?_) (a' := ?_) #[true, true, true, true, true, true, true, true, false, true, false, true, false, true, true, false, true, false, true, false, false, false, false] rfl rfl (by kernel_rfl) (fun _ _ _ h => h) (Or.inl ⟨by rfl, ?_⟩) ?_ ?_
 (rotate_left; · (intro w'; go_simp; with_reducible rfl))
 (rotate_left; · (simp only [Act.put, List.setIfInBounds_toArray, List.set_cons_zero, List.set_cons_succ, i64_w, i32_w]; rfl))
 refine take_ (i := 8) (N := some 41) (v := ?_) (a' := ?_) #[true, true, true, true, true, true, true, true, true, true, false, true, false, true, true, false, true, false, true, false, false, false, false] rfl rfl (by kernel_rfl) (fun _ _ _ h => h) (Or.inl ⟨by rfl, ?_⟩) hHeld ?_ ?_
 rotate_left
 ·rintro w' ⟨s0, s1, s2, s3, s4⟩
  go_simp
  with_reducible rfl
 (rotate_left; · (simp only [Act.put, List.setIfInBounds_toArray, List.set_cons_zero, List.set_cons_succ, i64_w, i32_w]; rfl))
 refine pure_ (i := 10) (N := some 43) (v := ?_) (a' := ?_) #[true, true, true, true, true, true, true, true, true, true, true, true, false, true, true, false, true, false, true, false, false, false, false] rfl rfl (by kernel_rfl) (fun _ _ _ h => h) (Or.inl ⟨by rfl, ?_⟩) ?_ ?_
 (rotate_left; · (intro w'; go_simp; with_reducible rfl))
 (rotate_left; · (simp only [Act.put, List.setIfInBounds_toArray, List.set_cons_zero, List.set_cons_succ, i64_w, i32_w]; rfl))
 refine take_ (i := 12) (N := some 45) (v := ?_) (a' := ?_) #[true, true, true, true, true, true, true, true, true, true, true, true, true, true, true, false, true, false, true, false, false, false, false] rfl rfl (by kernel_rfl) (fun _ _ _ h => h) (Or.inl ⟨by rfl, ?_⟩) hHeld ?_ ?_
 rotate_left
 ·rintro w' ⟨s0, s1, s2, s3, s4⟩
  go_simp
  with_reducible rfl
 (rotate_left; · (simp only [Act.put, List.setIfInBounds_toArray, List.set_cons_zero, List.set_cons_succ, i64_w, i32_w]; rfl))
 refine pure_ (i := 15) (N := some 48) (v := ?_) (a' := ?_) #[true, true, true, true, true, true, true, true, true, true, true, true, true, true, true, true, true, false, true, false, false, false, false] rfl rfl (by kernel_rfl) (fun _ _ _ h => h) (Or.inl ⟨by rfl, ?_⟩) ?_ ?_
 (rotate_left; · (intro w'; go_simp; with_reducible rfl))
 (rotate_left; · (simp only [Act.put, List.setIfInBounds_toArray, List.set_cons_zero, List.set_cons_succ, i64_w, i32_w]; rfl))
 refine take_ (i := 17) (N := some 50) (v := ?_) (a' := ?_) #[true, true, true, true, true, true, true, true, true, true, true, true, true, true, true, true, true, true, true, false, false, false, false] rfl rfl (by kernel_rfl) (fun _ _ _ h => h) (Or.inl ⟨by rfl, ?_⟩) hHeld ?_ ?_
 rotate_left
 ·rintro w' ⟨s0, s1, s2, s3, s4⟩
  go_simp
  with_reducible rfl
 (rotate_left; · (simp only [Act.put, List.setIfInBounds_toArray, List.set_cons_zero, List.set_cons_succ, i64_w, i32_w]; rfl))
 refine pure_ (i := 19) (N := some 52) (v := ?_) (a' := ?_) #[true, true, true, true, true, true, true, true, true, true, true, true, true, true, true, true, true, true, true, true, false, false, false] rfl rfl (by kernel_rfl) (fun _ _ _ h => h) (Or.inl ⟨by rfl, ?_⟩) ?_ ?_
 (rotate_left; · (intro w'; go_simp; with_reducible rfl))
 (rotate_left; · (simp only [Act.put, List.setIfInBounds_toArray, List.set_cons_zero, List.set_cons_succ, i64_w, i32_w]; rfl))
 refine pure_ (i := 20) (N := some 53) (v := ?_) (a' := ?_) #[true, true, true, true, true, true, true, true, true, true, true, true, true, true, true, true, true, true, true, true, true, false, false] rfl rfl (by kernel_rfl) (fun _ _ _ h => h) (Or.inl ⟨by rfl, ?_⟩) ?_ ?_
 (rotate_left; · (intro w'; go_simp; with_reducible rfl))
 (rotate_left; · (simp only [Act.put, List.setIfInBounds_toArray, List.set_cons_zero, List.set_cons_succ, i64_w, i32_w]; rfl))
 refine last_ (i := 21) (N := none) #[true, true, true, true, true, true, true, true, true, true, true, true, true, true, true, true, true, true, true, true, true, true, false] rfl rfl (by kernel_rfl) (by decide) (fun K hK => ?_)
 have z0 := HS4.out.1
 have z1 := HS4.out.2.1
 have z2 := HS4.out.2.2.1
 have z3 := HS4.out.2.2.2.1
 have y0 := HS4.out.2.2.2.2.1
 have y1 := HS4.out.2.2.2.2.2.1
 have y2 := HS4.out.2.2.2.2.2.2.1
 have y3 := HS4.out.2.2.2.2.2.2.2
 refine skip_ (w1 := ?_) (by rfl) rfl ?_ ?_
 rotate_left
 ·go_simp
  rfl
 refine hK.out _ _ ?_
 clear hK K
 refine pure_ (i := 22) (N := some 9) (v := ?_) (a' := ?_) #[true, true, true, true, true, true, true, true, true, true, true, true, true, true, true, true, true, true, true, true, true, true, true] rfl rfl (by kernel_rfl) (fun _ _ _ h => h) (Or.inl ⟨by rfl, ?_⟩) ?_ ?_
 (rotate_left; · (intro w'; go_simp; with_reducible rfl))
 (rotate_left; · (simp only [Act.put, List.setIfInBounds_toArray, List.set_cons_zero, List.set_cons_succ, i64_w, i32_w]; rfl))
 refine done_ (by kernel_rfl) ?_
 go_wp2_with fail
 obtain ⟨z0, z1, z2, z3, y0, y1, y2, y3⟩ := HS4.out
 refine bodyPost_ret (v := .tuple #[.agg #[.int .i64 (((at_ : Int) + (n2 : Int)) % (mn : Int)), .int .i64 (wrap64 (used - (n2 : Int))), .int .u64 (((first : Int) + (many : Int)) % 18446744073709551616), .int .i64 ((lmany : Int) - (many : Int))], .int .i64 0]) (by simp [results, Try.results26, go_sem, z0, z1, z2, z3]) rfl ⟨?_, ?_⟩
 ·rw [← HN2.out, show (((at_ + n2) % mn : Nat) : Int) = ((at_ : Int) + (n2 : Int)) % (mn : Int) by rw [Int.natCast_emod, Int.natCast_add], show (((first + many) % 18446744073709551616 : Nat) : Int) = ((first : Int) + (many : Int)) % 18446744073709551616 by omega, show ((lmany - many : Nat) : Int) = (lmany : Int) - (many : Int) by omega]
 ·exact below_drew ((((HX4.out.b.setCell (p := ⟨w.heap.size + 1 + 1 + 1, 0, none⟩) (by show w.heap.size ≤ w.heap.size + 1 + 1 + 1; omega) _).setCell (p := ⟨w.heap.size + 1 + 1 + 1, 1, none⟩) (by show w.heap.size ≤ w.heap.size + 1 + 1 + 1; omega) _).setCell (p := ⟨w.heap.size + 1 + 1 + 1, 2, none⟩) (by show w.heap.size ≤ w.heap.size + 1 + 1 + 1; omega) _).setCell (p := ⟨w.heap.size + 1 + 1 + 1, 3, none⟩) (by show w.heap.size ≤ w.heap.size + 1 + 1 + 1; omega) _)
end Go.Proofs.Ytcbfnfggnocndaa
end

section
namespace Go.Proofs.Ytcbfnfggnocndaa
open Go.RowKit Go.Shelf Go.Proofs.Ytcbfnfggnocndaa.Q Go.Proofs.YtcbfnfggnocndaaW.PrintWords Go.Proofs.YtcbfnfggnocndaaW.PrintLast Go.Proofs.YtcbfnfggnocndaaW.PrintMore Math
set_option maxHeartbeats 2000000 in
set_option maxRecDepth 1000000 in
theorem drop_fail (A0 : Option Addr) (c0 n0 : Nat) (A1 : Option Addr) (c1 n1 : Nat) (off : Bool) (fr mn at_ used first lmany many : Int) (w : World) (h : many < 0 ∨ lmany < many) :
    Calls Try.prog 26 #[.agg #[.slice A0 n0 c0, .slice A1 n1 c1, .bool off], .agg #[.int .i64 fr, .int .i64 mn], .agg #[.int .i64 at_, .int .i64 used, .int .u64 first, .int .i64 lmany], .int .i64 many] w fun e w' =>
      e = .returned (.tuple #[.agg #[.int .i64 at_, .int .i64 used, .int .u64 first, .int .i64 lmany], .int .i64 1]) ∧ Below w.heap.size w w' := by
  obtain ⟨W1, hW1⟩ : ∃ W1, W1 = ((w.alloc (.cells #[.slice A0 n0 c0, .slice A1 n1 c1, .bool off] 25)).alloc (.cells #[.int .i64 fr, .int .i64 mn] 27)).alloc (.cells #[.int .i64 at_, .int .i64 used, .int .u64 first, .int .i64 lmany] 30) := ⟨_, rfl⟩
  obtain ⟨hx, hl, hz⟩ := bx3_new w _ _ _ _ _ _ _ _ _ W1 hW1
  obtain ⟨W2, hW2⟩ : ∃ W2, W2 = W1.alloc (.cells #[.int .i64 at_, .int .i64 used, .int .u64 first, .int .i64 lmany] 30) := ⟨_, rfl⟩
  have b1 := (Below.refl W1.heap.size W1).alloc (Nat.le_refl _) (.cells #[.int .i64 at_, .int .i64 used, .int .u64 first, .int .i64 lmany] 30)
  have hbx : LogBox W2 (w.heap.size + 1 + 1 + 1) (.int .i64 at_) (.int .i64 used) (.int .u64 first) (.int .i64 lmany) := by unfold LogBox; rw [hW2, show w.heap.size + 1 + 1 + 1 = W1.heap.size by omega]; exact heap_alloc_new W1 _
  rw [← hW2] at b1
  have HX := Lib.hid (hx.step b1); have HL := Lib.hid hl; have HW1 := Lib.hid hW1; have HW2 := Lib.hid hW2; have HBX := Lib.hid hbx
  have q0 := HL.out.l0; have q1 := HL.out.l1; have q2 := HL.out.l2; have q3 := HL.out.l3
  clear hx hl hz hW1 hW2 b1 hbx
  by_cases h1 : many < 0
  · have e1 : decide (many < 0) = true := decide_eq_true h1
    clear h h1
    go_enter Try.func26, Try.ntmps26
    go_wp2_with fail
    rw [← HW1.out, ← HW2.out]
    obtain ⟨z0, z1, z2, z3, _⟩ := HBX.out.facts
    exact bodyPost_ret (v := .tuple #[.agg #[.int .i64 at_, .int .i64 used, .int .u64 first, .int .i64 lmany], .int .i64 1]) (by simp [results, Try.results26, go_sem, z0, z1, z2, z3]) rfl ⟨rfl, HX.out.b⟩
  · have e1 : decide (many < 0) = false := decide_eq_false h1
    have h2 : lmany < many := h.resolve_left h1
    have e2 : decide (lmany < many) = true := decide_eq_true h2
    clear h h1 h2
    go_enter Try.func26, Try.ntmps26
    go_wp2_with fail
    rw [← HW1.out, ← HW2.out]
    obtain ⟨z0, z1, z2, z3, _⟩ := HBX.out.facts
    exact bodyPost_ret (v := .tuple #[.agg #[.int .i64 at_, .int .i64 used, .int .u64 first, .int .i64 lmany], .int .i64 1]) (by simp [results, Try.results26, go_sem, z0, z1, z2, z3]) rfl ⟨rfl, HX.out.b⟩
def redo_Drop.f (l0_0 : List ByteArray) (l0_1 : List S88) (a0_2 : Bool) (a1_0 a1_1 a2_0 a2_1 a2_2 a2_3 a3 : Int) : Option (Int × Int × Int × Int × Int) :=
  if a3 < 0 ∨ a2_3 < a3 then some (a2_0, a2_1, a2_2, a2_3, 1)
  else if RedOk l0_0 l0_1 a1_0 a1_1 a2_0 a2_2 ∧ a2_3 ≤ 9223372036854775807 then
    some ((a2_0 + ((foundD l0_0 l0_1 a1_0 a1_1 a2_0 a2_2 a3).2 : Int)) % a1_1, wrap64 (a2_1 - ((foundD l0_0 l0_1 a1_0 a1_1 a2_0 a2_2 a3).2 : Int)), (a2_2 + a3) % 18446744073709551616, a2_3 - a3, 0)
  else none
theorem redo_Drop.calls (A0_0 : Option Addr) (c0_0 : Nat) (l0_0 : List ByteArray) (A0_1 : Option Addr) (c0_1 : Nat) (l0_1 : List S88) (a0_2 : Bool) (a1_0 a1_1 a2_0 a2_1 a2_2 a2_3 a3 r1 r2 r3 r4 r5 : Int) (w : World)
    (hr0_0 : Kd.C Kd.string w A0_0 l0_0.length l0_0) (hc0_0 : l0_0.length ≤ c0_0) (hr0_1 : Kd.C k88 w A0_1 l0_1.length l0_1) (hc0_1 : l0_1.length ≤ c0_1) (h : redo_Drop.f l0_0 l0_1 a0_2 a1_0 a1_1 a2_0 a2_1 a2_2 a2_3 a3 = some (r1, r2, r3, r4, r5)) :
    Calls Try.prog 26 #[.agg #[.slice A0_0 l0_0.length c0_0, .slice A0_1 l0_1.length c0_1, .bool a0_2], .agg #[.int .i64 a1_0, .int .i64 a1_1], .agg #[.int .i64 a2_0, .int .i64 a2_1, .int .u64 a2_2, .int .i64 a2_3], .int .i64 a3] w fun e w' =>
      e = .returned (.tuple #[.agg #[.int .i64 r1, .int .i64 r2, .int .u64 r3, .int .i64 r4], .int .i64 r5]) ∧ Below w.heap.size w w' := by
  unfold redo_Drop.f at h
  split at h
  · rename_i hh
    have h := Option.some.inj h
    simp only [Prod.mk.injEq] at h
    obtain ⟨rfl, rfl, rfl, rfl, rfl⟩ := h
    exact drop_fail A0_0 c0_0 l0_0.length A0_1 c0_1 l0_1.length a0_2 a1_0 a1_1 a2_0 a2_1 a2_2 a2_3 a3 w hh
  · rename_i hh
    split at h
    · rename_i hk
      obtain ⟨⟨hok, q1, q2, q3, q4, q5, q6, q7, q8, q9⟩, q10⟩ := hk
      have h := Option.some.inj h
      simp only [Prod.mk.injEq] at h
      obtain ⟨rfl, rfl, rfl, rfl, rfl⟩ := h
      obtain ⟨fr, rfl⟩ := Int.eq_ofNat_of_zero_le q3
      obtain ⟨mn, rfl⟩ := Int.eq_ofNat_of_zero_le (show 0 ≤ a1_1 by omega)
      obtain ⟨at_, rfl⟩ := Int.eq_ofNat_of_zero_le q5
      obtain ⟨first, rfl⟩ := Int.eq_ofNat_of_zero_le q7
      obtain ⟨many, rfl⟩ := Int.eq_ofNat_of_zero_le (show 0 ≤ a3 by omega)
      obtain ⟨lmany, rfl⟩ := Int.eq_ofNat_of_zero_le (show 0 ≤ a2_3 by omega)
      refine (drop_main A0_0 c0_0 l0_0 A0_1 c0_1 l0_1 a0_2 fr mn at_ first many lmany a2_1 w hr0_0 hc0_0 hr0_1 hc0_1 hok (by omega) (by omega) (by omega) q9 (by omega) (by omega) (by omega) (by omega)).mono ?_
      rintro e w' ⟨rfl, hb⟩
      refine ⟨?_, hb⟩
      unfold foundD
      simp only [Int.toNat_natCast]
      generalize (found (ringL l0_0 l0_1 fr mn) at_ first many).2 = nn
      rw [show (((at_ + nn) % mn : Nat) : Int) = ((at_ : Int) + (nn : Int)) % (mn : Int) by rw [Int.natCast_emod, Int.natCast_add], show (((first + many) % 18446744073709551616 : Nat) : Int) = ((first : Int) + (many : Int)) % 18446744073709551616 by omega, show ((lmany - many : Nat) : Int) = (lmany : Int) - (many : Int) by omega]
    · cases h
end Go.Proofs.Ytcbfnfggnocndaa
end

section
namespace Go.Proofs.Ytcbfnfggnocndaa
open Go.RowKit Go.Shelf Go.Proofs.Ytcbfnfggnocndaa.Q Go.Proofs.YtcbfnfggnocndaaW.PrintWords Go.Proofs.YtcbfnfggnocndaaW.PrintLast Go.Proofs.YtcbfnfggnocndaaW.PrintMore Math
set_option maxHeartbeats 2000000 in
set_option maxRecDepth 1000000 in
theorem scan1_calls (B Rb : Nat) (acc : List ByteArray) (W : World) (s : ByteArray) (m : Int) (h : Coll B Rb acc W) (hn : acc.length ≤ 1000000) :
  Calls Try.prog 40 (#[.string s, .int .i64 m] ++ #[.pointer (some ⟨Rb, 0, none⟩)]) W fun e W' => e = .returned (.tuple #[]) ∧ Coll B Rb (acc ++ [s]) W' ∧ KeepE B Rb W W' := by
 obtain ⟨i0, hi0, hz0, hz1, hz2⟩ := info_parts info_str5
 obtain ⟨⟨v, h1, h2⟩, hRb, hle⟩ := h
 have hc0 : W.cell? ⟨Rb, 0, none⟩ = some v := by rw [blk_cell h1]; rfl
 have hz := blk_lt h1
 have H1 := Lib.hid h1; have H2 := Lib.hid h2
 obtain ⟨xs, hxs⟩ : ∃ xs, xs = acc.map Value.string := ⟨_, rfl⟩
 rw [← hxs] at h2
 have HX := Lib.hid hxs; have HO := Lib.hid h2
 have hmx : xs ++ [.string s] = (acc ++ [s]).map Value.string := by rw [hxs, List.map_append]; rfl
 have HMX := Lib.hid hmx
 obtain ⟨n, hn0⟩ : ∃ n, n = acc.length := ⟨_, rfl⟩
 rw [← hn0] at HO hn
 have HN := Lib.hid hn0
 clear h1 h2 hxs hmx hn0
 show Calls Try.prog 40 #[.string s, .int .i64 m, .pointer (some ⟨Rb, 0, none⟩)] W _
 go_enter Try.func40, Try.ntmps40
 go_wp2_with (at_builtin; refine wpList_append_own _ rfl _ _ 22 rfl B 9 i0 _ 1 16 Try.underlying22 hi0 hz0 hz1 hz2 rfl (by decide) v n xs rfl (HO.out.alloc _) ⟨W.heap.size, 0, none⟩ 1 1 [.string s] rfl rfl (World.news_of_block (cs := #[.string s]) (t := 9) (fr := (0, 0)) (heap_alloc_new W _)) (by intro u hu; rw [List.mem_singleton.1 hu]; rfl) (by unfold maxLen; omega) (by omega) (by rw [World.size_alloc]; omega) ?_)
 intro v' w5 hown hgrow _
 obtain ⟨g4, c4, rfl⟩ := ownsRow_succ hown
 rw [HMX.out] at hown
 have hown1 := HO.out
 have hne : ∀ k, k < B → some k ≠ v.ownBlock := fun k hk e => by have := (hown1.lt k e.symm).1; omega
 have hb5 : One w5 Rb v 22 := by
  unfold One
  rw [hgrow.block Rb (by rw [World.size_alloc]; omega) (hne Rb hRb), Below.heap_alloc _ _ _ hz]
  exact H1.out
 have hc5 := hb5.cell
 have hf5 := hb5.free
 have HB5 := Lib.hid hb5; have HO5 := Lib.hid hown; have HG5 := Lib.hid hgrow; have HNE := Lib.hid hne
 clear hb5 hown hgrow hown1 hne hc0
 go_wp2_with fail
 go_end0
 refine ⟨rfl, ⟨⟨_, HB5.out.set, ?_⟩, hRb, ?_⟩, ?_⟩
 ·rw [List.length_append, ← HN.out]
  exact own_far HO5.out hRb
 ·have h1 := HG5.out.size
  rw [World.size_alloc] at h1
  have h2 : (w5.setCell ⟨Rb, 0, none⟩ (.slice (some ⟨g4, 0, none⟩) (n + 1) c4)).heap.size = w5.heap.size := by simp [World.setCell]
  rw [h2]; omega
 ·have h1 := HG5.out.size
  rw [World.size_alloc] at h1
  have h2 : (w5.setCell ⟨Rb, 0, none⟩ (.slice (some ⟨g4, 0, none⟩) (n + 1) c4)).heap.size = w5.heap.size := by simp [World.setCell]
  refine ⟨HG5.out.os, HG5.out.tape, HG5.out.output, by rw [h2]; omega, fun k hk hr => ?_⟩
  rw [Below.heap_setCell _ _ _ _ (show k ≠ (⟨Rb, 0, none⟩ : Addr).block from hr), HG5.out.block k (by rw [World.size_alloc]; omega) (HNE.out k hk), Below.heap_alloc _ _ _ (by omega)]
theorem scan1_enters : ∀ args W, (callFunc 40 args).run Try.prog W = .ok (.enter 40 args) W := enters_of Try.func40 (by kernel_rfl) rfl
theorem own_set4 {w : World} {base n c : Nat} {e : TypeId} {v x y z u : Value} {xs : List Value} (h : w.ownsRow base e 1 v n xs) (hc : c < base) :
  ((((w.setCell ⟨c, 0, none⟩ x).setCell ⟨c, 1, none⟩ y).setCell ⟨c, 2, none⟩ z).setCell ⟨c, 3, none⟩ u).drew.ownsRow base e 1 v n xs :=
 own_move h (fun k hk => by
  have hk2 := own_base h k hk
  show ((((w.setCell ⟨c, 0, none⟩ x).setCell ⟨c, 1, none⟩ y).setCell ⟨c, 2, none⟩ z).setCell ⟨c, 3, none⟩ u).heap[k]? = _
  rw [heap_setCell_other _ ⟨c, 3, none⟩ k _ (show k ≠ c by omega), heap_setCell_other _ ⟨c, 2, none⟩ k _ (show k ≠ c by omega), heap_setCell_other _ ⟨c, 1, none⟩ k _ (show k ≠ c by omega), heap_setCell_other _ ⟨c, 0, none⟩ k _ (show k ≠ c by omega)])
set_option maxHeartbeats 4000000 in
set_option maxRecDepth 1000000 in
theorem scan_main (A0 : Option Addr) (c0 : Nat) (l0 : List ByteArray) (A1 : Option Addr) (c1 : Nat) (l1 : List S88) (fr mn at_ first : Nat) (w : World) (h0 : Kd.C Kd.string w A0 l0.length l0) (g0 : l0.length ≤ c0) (h1 : Kd.C k88 w A1 l1.length l1) (g1 : l1.length ≤ c1) (hok : DiskOk l0 l1)
  (hm : 1 ≤ mn) (hfm : fr + mn ≤ l0.length) (hmn : mn ≤ 10000) (hs : ∀ s ∈ ringL l0 l1 fr mn, s.size = 64) (hat : at_ < mn) (hf : first < 18446744073709551616) :
  Calls Try.prog 17 #[.agg #[.slice A0 l0.length c0, .slice A1 l1.length c1, .bool false], .agg #[.int .i64 fr, .int .i64 mn], .int .i64 at_, .int .u64 first] w fun e w' =>
   ∃ v, e = .returned (.tuple #[.agg #[.int .i64 at_, .int .i64 (found (ringL l0 l1 fr mn) at_ first mn).2, .int .u64 first, .int .i64 (found (ringL l0 l1 fr mn) at_ first mn).1.length], v, .int .i64 0]) ∧ w'.ownsRow w.heap.size 9 1 v (found (ringL l0 l1 fr mn) at_ first mn).1.length ((found (ringL l0 l1 fr mn) at_ first mn).1.map Value.string) ∧ Below w.heap.size w w' := by
 have hrl := ringL_len l0 l1 fr mn hfm
 obtain ⟨W1, hW1⟩ : ∃ W1, W1 = ((w.alloc (.cells #[.slice A0 l0.length c0, .slice A1 l1.length c1, .bool false] 25)).alloc (.cells #[.int .i64 fr, .int .i64 mn] 27)).alloc (.cells #[.int .i64 0, .int .i64 0, .int .u64 0, .int .i64 0] 30) := ⟨_, rfl⟩
 obtain ⟨hx, hl, hz⟩ := bx3_new w _ _ _ _ _ _ _ _ _ W1 hW1
 have hmay : mayR l0.length fr mn = true := by
  unfold mayR
  rw [decide_eq_true (by omega), decide_eq_true (by omega), decide_eq_true (by omega), decide_eq_true (by omega)]; rfl
 have hmc := may_calls A0 c0 l0.length A1 c1 l1.length false fr mn hok.2.1 W1
 rw [hmay] at hmc
 have hring := fun W (hb : Below w.heap.size w W) => ring_calls A0 c0 l0 A1 c1 l1 false fr mn W (Kd.C_below h0 hb) g0 (Kd.C_below h1 hb) g1 hok hm hfm
 have heach : ∀ (Rb : Nat) (A3 : Option Addr) (c3 : Nat) (w3 : World), RdS w3 A3 (ringL l0 l1 fr mn) → (ringL l0 l1 fr mn).length ≤ c3 → (∀ ad, A3 = some ad → Rb < ad.block) → One w3 Rb (.slice none 0 0) 22 → _ :=
  fun Rb A3 c3 w3 hr hc hA ho => each_ring 40 #[.pointer (some ⟨Rb, 0, none⟩)] (ringL l0 l1 fr mn) at_ first mn (Coll w3.heap.size Rb) Rb A3 c3 w3 hr hc
   (fun ad h => by have := hA ad h; omega) (by omega) (by omega) hs (by omega) hf (by omega) ⟨⟨_, ho, World.ownsRow_nil _ _ _ _⟩, ho.lt, Nat.le_refl _⟩ (fun _ _ _ h hb => h.below hb)
   (fun acc W s m hl hI _ => scan1_calls _ _ acc W s m hI (by omega)) scan1_enters
 have HRINGF := Lib.hid hring; have HEACH := Lib.hid heach; have HMC := Lib.hid hmc; have HX := Lib.hid hx; have HL := Lib.hid hl; have HZ := Lib.hid hz; have HW1 := Lib.hid hW1
 have e1 : decide ((at_ : Int) < 0) = false := decide_eq_false (by omega)
 have e2 : decide ((mn : Int) ≤ (at_ : Int)) = false := decide_eq_false (by omega)
 have e2n : decide (mn ≤ at_) = false := decide_eq_false (by omega)
 clear h0 h1 hx hl hz hW1 hmc hring heach hok hs hrl hmay
 go_enter Try.func17, Try.ntmps17
 go_wp2_with fail
 rw [← HW1.out]
 refine HMC.out.mono ?_
 rintro e w2 ⟨rfl, hb2⟩
 have hz2 : w.heap.size + 3 ≤ w2.heap.size := by rw [← HZ.out]; exact hb2.size
 have hx2 := HX.out.step hb2
 have hl2 := HL.out.step hb2
 have q4 := hx2.r1
 obtain ⟨W3, hW3⟩ : ∃ W3, W3 = w2.alloc (.cells #[.slice none 0 0] 22) := ⟨_, rfl⟩
 have b3 := (Below.refl w2.heap.size w2).alloc (Nat.le_refl _) (.cells #[.slice none 0 0] 22)
 have ho3 : One W3 w2.heap.size (.slice none 0 0) 22 := by unfold One; rw [hW3]; exact heap_alloc_new w2 _
 rw [← hW3] at b3
 have hx3 := hx2.step b3
 have hl3 := hl2.step b3
 have HXD : Hid (Bx2 w W3.drew _ _ _ _ _) := Lib.hid ⟨hx3.d, hx3.r, below_drew hx3.b⟩
 have HLD : Hid (BxL w W3.drew _ _ _ _) := Lib.hid ⟨hl3.l⟩
 have HCD : Hid (One W3.drew w2.heap.size (.slice none 0 0) 22) := Lib.hid ho3
 have HRING := Lib.hid (HRINGF.out W3.drew (below_drew hx3.b))
 have HZ2 := Lib.hid hz2; have HW3 := Lib.hid hW3
 clear hb2 hx2 hl2 hW3 b3 ho3 hx3 hl3 hz2 HMC HX HL HRINGF
 go_wp2_with fail
 rw [← HW3.out]
 refine start_ (n := 14) (S := fun w' => w'.cell? ⟨w.heap.size, 0, none⟩ = some (.slice A0 l0.length c0) ∧ w'.cell? ⟨w.heap.size, 1, none⟩ = some (.slice A1 l1.length c1) ∧ w'.cell? ⟨w.heap.size, 2, none⟩ = some (.bool false) ∧ w'.cell? ⟨w.heap.size + 1, 0, none⟩ = some (.int .i64 (fr : Int)) ∧ w'.cell? ⟨w.heap.size + 1, 1, none⟩ = some (.int .i64 (mn : Int))) (ds := []) #[false, false, false, false, false, false, false, false, false, false, false, false, false, false] (by kernel_rfl) rfl rfl ⟨HXD.out.c0, HXD.out.c1, HXD.out.c2, HXD.out.r0, HXD.out.r1⟩ (fun hHeld => ?_)
 refine pure_ (i := 3) (N := some 38) (v := ?_) (a' := ?_) #[false, false, false, true, false, false, false, false, false, false, false, false, false, false] rfl rfl (by kernel_rfl) (fun _ _ _ h => h) (Or.inl ⟨by rfl, ?_⟩) ?_ ?_
 (rotate_left; · (intro w'; go_simp; with_reducible rfl))
 (rotate_left; · (simp only [Act.put, List.setIfInBounds_toArray, List.set_cons_zero, List.set_cons_succ, i64_w, i32_w]; rfl))
 refine pure_ (i := 4) (N := some 39) (v := ?_) (a' := ?_) #[false, false, false, true, true, false, false, false, false, false, false, false, false, false] rfl rfl (by kernel_rfl) (fun _ _ _ h => h) (Or.inl ⟨by rfl, ?_⟩) ?_ ?_
 (rotate_left; · (intro w'; go_simp; with_reducible rfl))
 (rotate_left; · (simp only [Act.put, List.setIfInBounds_toArray, List.set_cons_zero, List.set_cons_succ, i64_w, i32_w]; rfl))
 refine pure_ (i := 5) (N := some 40) (v := ?_) (a' := ?_) #[false, false, false, true, true, true, false, false, false, false, false, false, false, false] rfl rfl (by kernel_rfl) (fun _ _ _ h => h) (Or.inl ⟨by rfl, ?_⟩) ?_ ?_
 (rotate_left; · (intro w'; go_simp; with_reducible rfl))
 (rotate_left; · (simp only [Act.put, List.setIfInBounds_toArray, List.set_cons_zero, List.set_cons_succ, i64_w, i32_w]; rfl))
 refine pure_ (i := 7) (N := some 42) (v := ?_) (a' := ?_) #[false, false, false, true, true, true, false, true, false, false, false, false, false, false] rfl rfl (by kernel_rfl) (fun _ _ _ h => h) (Or.inl ⟨by rfl, ?_⟩) ?_ ?_
 (rotate_left; · (intro w'; go_simp; with_reducible rfl))
 (rotate_left; · (simp only [Act.put, List.setIfInBounds_toArray, List.set_cons_zero, List.set_cons_succ, i64_w, i32_w]; rfl))
 refine take_ (i := 0) (N := some 35) (v := ?_) (a' := ?_) #[true, false, false, true, true, true, false, true, false, false, false, false, false, false] rfl rfl (by kernel_rfl) (fun _ _ _ h => h) (Or.inl ⟨by rfl, ?_⟩) hHeld ?_ ?_
 rotate_left
 ·rintro w' ⟨s0, s1, s2, s3, s4⟩
  go_simp
  with_reducible rfl
 (rotate_left; · (simp only [Act.put, List.setIfInBounds_toArray, List.set_cons_zero, List.set_cons_succ, i64_w, i32_w]; rfl))
 refine take_ (i := 1) (N := some 36) (v := ?_) (a' := ?_) #[true, true, false, true, true, true, false, true, false, false, false, false, false, false] rfl rfl (by kernel_rfl) (fun _ _ _ h => h) (Or.inl ⟨by rfl, ?_⟩) hHeld ?_ ?_
 rotate_left
 ·rintro w' ⟨s0, s1, s2, s3, s4⟩
  go_simp
  with_reducible rfl
 (rotate_left; · (simp only [Act.put, List.setIfInBounds_toArray, List.set_cons_zero, List.set_cons_succ, i64_w, i32_w]; rfl))
 refine take_ (i := 6) (N := some 41) (v := ?_) (a' := ?_) #[true, true, false, true, true, true, true, true, false, false, false, false, false, false] rfl rfl (by kernel_rfl) (fun _ _ _ h => h) (Or.inl ⟨by rfl, ?_⟩) hHeld ?_ ?_
 rotate_left
 ·rintro w' ⟨s0, s1, s2, s3, s4⟩
  go_simp
  with_reducible rfl
 (rotate_left; · (simp only [Act.put, List.setIfInBounds_toArray, List.set_cons_zero, List.set_cons_succ, i64_w, i32_w]; rfl))
 refine one_ (i := 2) (N := some 37) #[true, true, true, true, true, true, true, true, false, false, false, false, false, false] rfl rfl (by kernel_rfl) (by decide) (fun K hK => ?_)
 refine goes_ Try.func39 (by kernel_rfl) rfl #[.agg #[.slice A0 l0.length c0, .slice A1 l1.length c1, .bool false], .agg #[.int .i64 fr, .int .i64 mn]] (by rfl) rfl rfl (by simp only [List.map_toArray, List.map_cons, List.map_nil]; rfl) ?_
 with_reducible refine (HRING.out).mono ?_
 rintro e w3 ⟨A3, c3, rfl, hr3, hc3, hA3, hb3⟩
 refine ⟨_, rfl, ?_⟩
 have HX3 := Lib.hid (HXD.out.step hb3)
 have HL3 := Lib.hid (HLD.out.step hb3)
 have HC3 := Lib.hid (HCD.out.keep hb3 HCD.out.lt)
 have HR3 := Lib.hid hr3
 have HA3 : Hid (∀ ad, A3 = some ad → w2.heap.size < ad.block) := Lib.hid (fun ad h => Nat.lt_of_lt_of_le HCD.out.lt (hA3 ad h))
 clear hr3 hA3 hb3
 refine hK.out _ _ ⟨HX3.out.c0, HX3.out.c1, HX3.out.c2, HX3.out.r0, HX3.out.r1⟩ (fun hHeld => ?_)
 clear hK K
 refine norm_ (a' := ?_) ?_ ?_
 rotate_left
 ·show Act.put _ (some 37) _ = _
  simp only [Act.put, List.setIfInBounds_toArray, List.set_cons_zero, List.set_cons_succ, i64_w, i32_w]
  rfl
 refine one_ (i := 8) (N := some 43) #[true, true, true, true, true, true, true, true, true, false, false, false, false, false] rfl rfl (by kernel_rfl) (by decide) (fun K hK => ?_)
 refine goes_ Try.func38 (by kernel_rfl) rfl #[.slice A3 (ringL l0 l1 fr mn).length c3, .int .i64 at_, .int .u64 first, .int .i64 mn, .func (.func 40) #[] #[.pointer (some ⟨w2.heap.size, 0, none⟩)]] (by rfl) rfl rfl (by simp only [List.map_toArray, List.map_cons, List.map_nil]; rfl) ?_
 with_reducible refine ((HEACH.out w2.heap.size A3 c3 w3 HR3.out hc3 HA3.out HC3.out)).mono ?_
 rintro e w4 ⟨rfl, hi4, hk4⟩
 refine ⟨_, rfl, ?_⟩
 have HC4 := Lib.hid hi4
 have HX4 := Lib.hid (HX3.out.keep hk4 (by have := HC3.out.lt; have := HZ2.out; omega) (by have := HZ2.out; omega))
 have HL4 := Lib.hid (HL3.out.keep hk4 (by have := HC3.out.lt; have := HZ2.out; omega) (by have := HZ2.out; omega))
 clear hi4 hk4
 refine hK.out _ _ ⟨HX4.out.c0, HX4.out.c1, HX4.out.c2, HX4.out.r0, HX4.out.r1⟩ (fun hHeld => ?_)
 clear hK K
 refine norm_ (a' := ?_) ?_ ?_
 rotate_left
 ·show Act.put _ (some 43) _ = _
  simp only [Act.put, List.setIfInBounds_toArray, List.set_cons_zero, List.set_cons_succ, i64_w, i32_w]
  rfl
 refine pure_ (i := 9) (N := some 34) (v := ?_) (a' := ?_) #[true, true, true, true, true, true, true, true, true, true, false, false, false, false] rfl rfl (by kernel_rfl) (fun _ _ _ h => h) (Or.inl ⟨by rfl, ?_⟩) ?_ ?_
 (rotate_left; · (intro w'; go_simp; with_reducible rfl))
 (rotate_left; · (simp only [Act.put, List.setIfInBounds_toArray, List.set_cons_zero, List.set_cons_succ, i64_w, i32_w]; rfl))
 refine pure_ (i := 10) (N := some 44) (v := ?_) (a' := ?_) #[true, true, true, true, true, true, true, true, true, true, true, false, false, false] rfl rfl (by kernel_rfl) (fun _ _ _ h => h) (Or.inl ⟨by rfl, ?_⟩) ?_ ?_
 (rotate_left; · (intro w'; go_simp; with_reducible rfl))
 (rotate_left; · (simp only [Act.put, List.setIfInBounds_toArray, List.set_cons_zero, List.set_cons_succ, i64_w, i32_w]; rfl))
 refine pure_ (i := 11) (N := some 45) (v := ?_) (a' := ?_) #[true, true, true, true, true, true, true, true, true, true, true, true, false, false] rfl rfl (by kernel_rfl) (fun _ _ _ h => h) (Or.inl ⟨by rfl, ?_⟩) ?_ ?_
 (rotate_left; · (intro w'; go_simp; with_reducible rfl))
 (rotate_left; · (simp only [Act.put, List.setIfInBounds_toArray, List.set_cons_zero, List.set_cons_succ, i64_w, i32_w]; rfl))
 refine pure_ (i := 12) (N := some 12) (v := ?_) (a' := ?_) #[true, true, true, true, true, true, true, true, true, true, true, true, true, false] rfl rfl (by kernel_rfl) (fun _ _ _ h => h) (Or.inl ⟨by rfl, ?_⟩) ?_ ?_
 (rotate_left; · (intro w'; go_simp; with_reducible rfl))
 (rotate_left; · (simp only [Act.put, List.setIfInBounds_toArray, List.set_cons_zero, List.set_cons_succ, i64_w, i32_w]; rfl))
 refine pure_ (i := 13) (N := some 13) (v := ?_) (a' := ?_) #[true, true, true, true, true, true, true, true, true, true, true, true, true, true] rfl rfl (by kernel_rfl) (fun _ _ _ h => h) (Or.inl ⟨by rfl, ?_⟩) ?_ ?_
 (rotate_left; · (intro w'; go_simp; with_reducible rfl))
 (rotate_left; · (simp only [Act.put, List.setIfInBounds_toArray, List.set_cons_zero, List.set_cons_succ, i64_w, i32_w]; rfl))
 refine done_ (by kernel_rfl) ?_
 obtain ⟨v, hv1, hv2⟩ := HC4.out.v
 have HV := Lib.hid hv2; have HV1 := Lib.hid hv1
 clear hv1 hv2
 obtain ⟨n2, hn2⟩ : ∃ n2, n2 = (found (ringL l0 l1 fr mn) at_ first mn).2 := ⟨_, rfl⟩
 obtain ⟨n1, hn1⟩ : ∃ n1, n1 = (found (ringL l0 l1 fr mn) at_ first mn).1.length := ⟨_, rfl⟩
 have HN2 := Lib.hid hn2; have HN1 := Lib.hid hn1
 rw [← hn2, ← hn1]
 clear hn2 hn1
 have HS4 := Lib.hid (LogBox.facts (show LogBox w4 (w.heap.size + 1 + 1) _ _ _ _ from HL4.out.l))
 have hvc : w4.cell? ⟨w2.heap.size, 0, none⟩ = some v := by rw [blk_cell HV1.out]; rfl
 have HVC := Lib.hid hvc
 clear hvc
 go_wp2_with fail
 refine start_ (n := 9) (S := fun w' => w'.cell? ⟨w2.heap.size, 0, none⟩ = some v) (ds := []) #[false, false, false, false, false, false, false, false, false] (by kernel_rfl) rfl rfl (HVC.out) (fun hHeld => ?_)
 refine pure_ (i := 0) (N := some 46) (v := ?_) (a' := ?_) #[true, false, false, false, false, false, false, false, false] rfl rfl (by kernel_rfl) (fun _ _ _ h => h) (Or.inl ⟨by rfl, ?_⟩) ?_ ?_
 (rotate_left; · (intro w'; go_simp; with_reducible rfl))
 (rotate_left; · (simp only [Act.put, List.setIfInBounds_toArray, List.set_cons_zero, List.set_cons_succ, i64_w, i32_w]; rfl))
 refine pure_ (i := 1) (N := some 47) (v := ?_) (a' := ?_) #[true, true, false, false, false, false, false, false, false] rfl rfl (by kernel_rfl) (fun _ _ _ h => h) (Or.inl ⟨by rfl, ?_⟩) ?_ ?_
 (rotate_left; · (intro w'; go_simp; with_reducible rfl))
 (rotate_left; · (simp only [Act.put, List.setIfInBounds_toArray, List.set_cons_zero, List.set_cons_succ, i64_w, i32_w]; rfl))
 refine pure_ (i := 2) (N := some 48) (v := ?_) (a' := ?_) #[true, true, true, false, false, false, false, false, false] rfl rfl (by kernel_rfl) (fun _ _ _ h => h) (Or.inl ⟨by rfl, ?_⟩) ?_ ?_
 (rotate_left; · (intro w'; go_simp; with_reducible rfl))
 (rotate_left; · (simp only [Act.put, List.setIfInBounds_toArray, List.set_cons_zero, List.set_cons_succ, i64_w, i32_w]; rfl))
 refine pure_ (i := 3) (N := some 49) (v := ?_) (a' := ?_) #[true, true, true, true, false, false, false, false, false] rfl rfl (by kernel_rfl) (fun _ _ _ h => h) (Or.inl ⟨by rfl, ?_⟩) ?_ ?_
 (rotate_left; · (intro w'; go_simp; with_reducible rfl))
 (rotate_left; · (simp only [Act.put, List.setIfInBounds_toArray, List.set_cons_zero, List.set_cons_succ, i64_w, i32_w]; rfl))
 refine pure_ (i := 4) (N := some 50) (v := ?_) (a' := ?_) #[true, true, true, true, true, false, false, false, false] rfl rfl (by kernel_rfl) (fun _ _ _ h => h) (Or.inl ⟨by rfl, ?_⟩) ?_ ?_
 (rotate_left; · (intro w'; go_simp; with_reducible rfl))
 (rotate_left; · (simp only [Act.put, List.setIfInBounds_toArray, List.set_cons_zero, List.set_cons_succ, i64_w, i32_w]; rfl))
 refine take_ (i := 5) (N := some 51) (v := ?_) (a' := ?_) #[true, true, true, true, true, true, false, false, false] rfl rfl (by kernel_rfl) (fun _ _ _ h => h) (Or.inl ⟨by rfl, ?_⟩) hHeld ?_ ?_
 rotate_left
 ·intro w' s0
  go_simp
  with_reducible rfl
 (rotate_left; · (simp only [Act.put, List.setIfInBounds_toArray, List.set_cons_zero, List.set_cons_succ, i64_w, i32_w]; rfl))
 refine one_ (i := 6) (N := none) #[true, true, true, true, true, true, true, false, false] rfl rfl (by kernel_rfl) (by decide) (fun K hK => ?_)
 have z0 := HS4.out.1
 have z1 := HS4.out.2.1
 have z2 := HS4.out.2.2.1
 have z3 := HS4.out.2.2.2.1
 have y0 := HS4.out.2.2.2.2.1
 have y1 := HS4.out.2.2.2.2.2.1
 have y2 := HS4.out.2.2.2.2.2.2.1
 have y3 := HS4.out.2.2.2.2.2.2.2
 refine skip_ (w1 := ?_) (by rfl) rfl ?_ ?_
 rotate_left
 ·go_simp
  rfl
 refine hK.out _ _ ((by have hz := HZ2.out; show World.cell? (World.setCell (World.setCell (World.setCell (World.setCell w4 _ _) _ _) _ _) _ _) _ = _; exact (cell_far (show w2.heap.size ≠ w.heap.size + 1 + 1 by omega) _).trans ((cell_far (show w2.heap.size ≠ w.heap.size + 1 + 1 by omega) _).trans ((cell_far (show w2.heap.size ≠ w.heap.size + 1 + 1 by omega) _).trans ((cell_far (show w2.heap.size ≠ w.heap.size + 1 + 1 by omega) _).trans HVC.out))))) (fun hHeld => ?_)
 clear hK K
 refine pure_ (i := 7) (N := some 9) (v := ?_) (a' := ?_) #[true, true, true, true, true, true, true, true, false] rfl rfl (by kernel_rfl) (fun _ _ _ h => h) (Or.inl ⟨by rfl, ?_⟩) ?_ ?_
 (rotate_left; · (intro w'; go_simp; with_reducible rfl))
 (rotate_left; · (simp only [Act.put, List.setIfInBounds_toArray, List.set_cons_zero, List.set_cons_succ, i64_w, i32_w]; rfl))
 refine pure_ (i := 8) (N := some 10) (v := ?_) (a' := ?_) #[true, true, true, true, true, true, true, true, true] rfl rfl (by kernel_rfl) (fun _ _ _ h => h) (Or.inl ⟨by rfl, ?_⟩) ?_ ?_
 (rotate_left; · (intro w'; go_simp; with_reducible rfl))
 (rotate_left; · (simp only [Act.put, List.setIfInBounds_toArray, List.set_cons_zero, List.set_cons_succ, i64_w, i32_w]; rfl))
 refine done_ (by kernel_rfl) ?_
 go_wp2_with fail
 obtain ⟨z0, z1, z2, z3, y0, y1, y2, y3⟩ := HS4.out
 refine bodyPost_ret (v := .tuple #[.agg #[.int .i64 (at_ : Int), .int .i64 (n2 : Int), .int .u64 (first : Int), .int .i64 (n1 : Int)], v, .int .i64 0]) (by simp [results, Try.results17, go_sem, z0, z1, z2, z3]) rfl ⟨v, by rw [← HN2.out, ← HN1.out], ?_, ?_⟩
 ·have hz := HZ2.out
  have hz3 := HC4.out.lt
  exact own_weaken (own_set4 HV.out (show w.heap.size + 1 + 1 < w3.heap.size by omega)) (show w.heap.size ≤ w3.heap.size by omega)
 ·exact below_drew ((((HX4.out.b.setCell (p := ⟨w.heap.size + 1 + 1, 0, none⟩) (by show w.heap.size ≤ w.heap.size + 1 + 1; omega) _).setCell (p := ⟨w.heap.size + 1 + 1, 1, none⟩) (by show w.heap.size ≤ w.heap.size + 1 + 1; omega) _).setCell (p := ⟨w.heap.size + 1 + 1, 2, none⟩) (by show w.heap.size ≤ w.heap.size + 1 + 1; omega) _).setCell (p := ⟨w.heap.size + 1 + 1, 3, none⟩) (by show w.heap.size ≤ w.heap.size + 1 + 1; omega) _)
set_option maxHeartbeats 2000000 in
set_option maxRecDepth 1000000 in
theorem scan_fail (A0 : Option Addr) (c0 n0 : Nat) (A1 : Option Addr) (c1 n1 : Nat) (off : Bool) (fr mn at_ first : Int) (hn : n0 ≤ 1000000000) (w : World)
  (h : off = true ∨ mayR n0 fr mn = false ∨ at_ < 0 ∨ mn ≤ at_) :
  Calls Try.prog 17 #[.agg #[.slice A0 n0 c0, .slice A1 n1 c1, .bool off], .agg #[.int .i64 fr, .int .i64 mn], .int .i64 at_, .int .u64 first] w fun e w' => e = .returned (.tuple #[.agg #[.int .i64 0, .int .i64 0, .int .u64 0, .int .i64 0], .slice none 0 0, .int .i64 (if off = true then 19 else 1)]) ∧ Below w.heap.size w w' := by
 obtain ⟨W1, hW1⟩ : ∃ W1, W1 = ((w.alloc (.cells #[.slice A0 n0 c0, .slice A1 n1 c1, .bool off] 25)).alloc (.cells #[.int .i64 fr, .int .i64 mn] 27)).alloc (.cells #[.int .i64 0, .int .i64 0, .int .u64 0, .int .i64 0] 30) := ⟨_, rfl⟩
 obtain ⟨hx, hl, hz⟩ := bx3_new w _ _ _ _ _ _ _ _ _ W1 hW1
 have hmc := may_calls A0 c0 n0 A1 c1 n1 off fr mn hn W1
 have HMC := Lib.hid hmc; have HX := Lib.hid hx; have HL := Lib.hid hl; have HW1 := Lib.hid hW1
 clear hmc hx hl hz hW1
 cases off with
 | true =>
  clear h
  go_enter Try.func17, Try.ntmps17
  go_wp2_with fail
  rw [← HW1.out]
  obtain ⟨z0, z1, z2, z3, y0, y1, y2, y3⟩ := LogBox.facts (show LogBox W1 (w.heap.size + 1 + 1) _ _ _ _ from HL.out.l)
  exact bodyPost_ret (v := .tuple #[.agg #[.int .i64 0, .int .i64 0, .int .u64 0, .int .i64 0], .slice none 0 0, .int .i64 19]) (by simp [results, Try.results17, go_sem, z0, z1, z2, z3]) rfl ⟨rfl, HX.out.b⟩
 | false =>
  cases hm : mayR n0 fr mn with
  | false =>
   rw [hm] at HMC
   clear h
   go_enter Try.func17, Try.ntmps17
   go_wp2_with fail
   rw [← HW1.out]
   refine HMC.out.mono ?_
   rintro e w2 ⟨rfl, hb2⟩
   have HX2 := Lib.hid (HX.out.step hb2)
   obtain ⟨z0, z1, z2, z3, y0, y1, y2, y3⟩ := LogBox.facts (show LogBox w2 (w.heap.size + 1 + 1) _ _ _ _ from (HL.out.step hb2).l)
   have q4 := HX2.out.r1
   clear hb2
   go_wp2_with fail
   refine bodyPost_ret (v := .tuple #[.agg #[.int .i64 0, .int .i64 0, .int .u64 0, .int .i64 0], .slice none 0 0, .int .i64 1]) (by simp [results, Try.results17, go_sem, z0, z1, z2, z3]) rfl ⟨rfl, ?_⟩
   exact (((HX2.out.b.setCell (p := ⟨w.heap.size + 1 + 1, 0, none⟩) (by show w.heap.size ≤ w.heap.size + 1 + 1; omega) _).setCell (p := ⟨w.heap.size + 1 + 1, 1, none⟩) (by show w.heap.size ≤ w.heap.size + 1 + 1; omega) _).setCell (p := ⟨w.heap.size + 1 + 1, 2, none⟩) (by show w.heap.size ≤ w.heap.size + 1 + 1; omega) _).setCell (p := ⟨w.heap.size + 1 + 1, 3, none⟩) (by show w.heap.size ≤ w.heap.size + 1 + 1; omega) _
  | true =>
   rw [hm] at HMC
   by_cases h1 : at_ < 0
   ·have e1 : decide (at_ < 0) = true := decide_eq_true h1
    clear h h1
    go_enter Try.func17, Try.ntmps17
    go_wp2_with fail
    rw [← HW1.out]
    refine HMC.out.mono ?_
    rintro e w2 ⟨rfl, hb2⟩
    have HX2 := Lib.hid (HX.out.step hb2)
    obtain ⟨z0, z1, z2, z3, y0, y1, y2, y3⟩ := LogBox.facts (show LogBox w2 (w.heap.size + 1 + 1) _ _ _ _ from (HL.out.step hb2).l)
    have q4 := HX2.out.r1
    clear hb2
    go_wp2_with fail
    refine bodyPost_ret (v := .tuple #[.agg #[.int .i64 0, .int .i64 0, .int .u64 0, .int .i64 0], .slice none 0 0, .int .i64 1]) (by simp [results, Try.results17, go_sem, z0, z1, z2, z3]) rfl ⟨rfl, ?_⟩
    exact (((HX2.out.b.setCell (p := ⟨w.heap.size + 1 + 1, 0, none⟩) (by show w.heap.size ≤ w.heap.size + 1 + 1; omega) _).setCell (p := ⟨w.heap.size + 1 + 1, 1, none⟩) (by show w.heap.size ≤ w.heap.size + 1 + 1; omega) _).setCell (p := ⟨w.heap.size + 1 + 1, 2, none⟩) (by show w.heap.size ≤ w.heap.size + 1 + 1; omega) _).setCell (p := ⟨w.heap.size + 1 + 1, 3, none⟩) (by show w.heap.size ≤ w.heap.size + 1 + 1; omega) _
   ·have e1 : decide (at_ < 0) = false := decide_eq_false h1
    have h2 : mn ≤ at_ := by rcases h with h | h | h | h <;> first | cases h | (rw [hm] at h; cases h) | exact absurd h h1 | exact h
    have e2 : decide (mn ≤ at_) = true := decide_eq_true h2
    clear h h1 h2
    go_enter Try.func17, Try.ntmps17
    go_wp2_with fail
    rw [← HW1.out]
    refine HMC.out.mono ?_
    rintro e w2 ⟨rfl, hb2⟩
    have HX2 := Lib.hid (HX.out.step hb2)
    obtain ⟨z0, z1, z2, z3, y0, y1, y2, y3⟩ := LogBox.facts (show LogBox w2 (w.heap.size + 1 + 1) _ _ _ _ from (HL.out.step hb2).l)
    have q4 := HX2.out.r1
    clear hb2
    go_wp2_with fail
    refine bodyPost_ret (v := .tuple #[.agg #[.int .i64 0, .int .i64 0, .int .u64 0, .int .i64 0], .slice none 0 0, .int .i64 1]) (by simp [results, Try.results17, go_sem, z0, z1, z2, z3]) rfl ⟨rfl, ?_⟩
    exact (((HX2.out.b.setCell (p := ⟨w.heap.size + 1 + 1, 0, none⟩) (by show w.heap.size ≤ w.heap.size + 1 + 1; omega) _).setCell (p := ⟨w.heap.size + 1 + 1, 1, none⟩) (by show w.heap.size ≤ w.heap.size + 1 + 1; omega) _).setCell (p := ⟨w.heap.size + 1 + 1, 2, none⟩) (by show w.heap.size ≤ w.heap.size + 1 + 1; omega) _).setCell (p := ⟨w.heap.size + 1 + 1, 3, none⟩) (by show w.heap.size ≤ w.heap.size + 1 + 1; omega) _
def redo_Scan.f (l0_0 : List ByteArray) (l0_1 : List S88) (a0_2 : Bool) (a1_0 a1_1 a2 a3 : Int) : Option (Int × Int × Int × Int × List ByteArray × Int) :=
 if l0_0.length ≤ 10000 ∧ (a0_2 = true ∨ mayR l0_0.length a1_0 a1_1 = false ∨ a2 < 0 ∨ a1_1 ≤ a2) then some (0, 0, 0, 0, [], if a0_2 = true then 19 else 1)
 else if a0_2 = false ∧ RedOk l0_0 l0_1 a1_0 a1_1 a2 a3 then some (a2, ((foundD l0_0 l0_1 a1_0 a1_1 a2 a3 a1_1).2 : Int), a3, ((foundD l0_0 l0_1 a1_0 a1_1 a2 a3 a1_1).1.length : Int), (foundD l0_0 l0_1 a1_0 a1_1 a2 a3 a1_1).1, 0) else none
theorem redo_Scan.calls (A0_0 : Option Addr) (c0_0 : Nat) (l0_0 : List ByteArray) (A0_1 : Option Addr) (c0_1 : Nat) (l0_1 : List S88) (a0_2 : Bool) (a1_0 a1_1 a2 a3 : Int) (r1 r2 r3 r4 : Int) (r5 : List ByteArray) (r6 : Int) (w : World)
  (hr0_0 : Kd.C Kd.string w A0_0 l0_0.length l0_0) (hc0_0 : l0_0.length ≤ c0_0) (hr0_1 : Kd.C k88 w A0_1 l0_1.length l0_1) (hc0_1 : l0_1.length ≤ c0_1) (h : redo_Scan.f l0_0 l0_1 a0_2 a1_0 a1_1 a2 a3 = some (r1, r2, r3, r4, r5, r6)) :
  Calls Try.prog 17 #[.agg #[.slice A0_0 l0_0.length c0_0, .slice A0_1 l0_1.length c0_1, .bool a0_2], .agg #[.int .i64 a1_0, .int .i64 a1_1], .int .i64 a2, .int .u64 a3] w fun e w' =>
   ∃ v0_, e = .returned (.tuple #[.agg #[.int .i64 r1, .int .i64 r2, .int .u64 r3, .int .i64 r4], v0_, .int .i64 r6]) ∧ Kd.R Kd.string 9 w' w.heap.size (fun _ => True) v0_ r5 ∧ Below w.heap.size w w' := by
 unfold redo_Scan.f at h
 split at h
 ·rename_i hh
  have h := Option.some.inj h
  simp only [Prod.mk.injEq] at h
  obtain ⟨rfl, rfl, rfl, rfl, rfl, rfl⟩ := h
  refine (scan_fail A0_0 c0_0 l0_0.length A0_1 c0_1 l0_1.length a0_2 a1_0 a1_1 a2 a3 (by omega) w hh.2).mono ?_
  rintro e w' ⟨rfl, hb⟩
  exact ⟨_, rfl, Kd.R_of_own (xs := []) (World.ownsRow_nil _ _ _ _) (fun _ _ => trivial), hb⟩
 ·split at h
  ·rename_i hk
   obtain ⟨rfl, hok, q1, q2, q3, q4, q5, q6, q7, q8, q9⟩ := hk
   have h := Option.some.inj h
   simp only [Prod.mk.injEq] at h
   obtain ⟨rfl, rfl, rfl, rfl, rfl, rfl⟩ := h
   obtain ⟨fr, rfl⟩ := Int.eq_ofNat_of_zero_le q3
   obtain ⟨mn, rfl⟩ := Int.eq_ofNat_of_zero_le (show 0 ≤ a1_1 by omega)
   obtain ⟨at_, rfl⟩ := Int.eq_ofNat_of_zero_le q5
   obtain ⟨first, rfl⟩ := Int.eq_ofNat_of_zero_le q7
   refine (scan_main A0_0 c0_0 l0_0 A0_1 c0_1 l0_1 fr mn at_ first w hr0_0 hc0_0 hr0_1 hc0_1 hok (by omega) (by omega) (by omega) q9 (by omega) (by omega)).mono ?_
   rintro e w' ⟨v, rfl, ho, hb⟩
   exact ⟨v, rfl, Kd.R_of_own ho (fun _ _ => trivial), hb⟩
  ·cases h
end Go.Proofs.Ytcbfnfggnocndaa
end
