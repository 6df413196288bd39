import Derived.Test.YtcbfnfggnocndaaZRedoCr26
import Derived.Test.YtcbfnfggnocndaaZRedoCr22
import Derived.Test.YtcbfnfggnocndaaZRedoCr1
import Derived.Laws.IdiomStrings
import Derived.Test.YtcbfnfggnocndaaZRedoCr23
import Derived.RangeFuncBox
import Derived.RangeFuncNested
import Derived.RangeFuncLeaves
import Derived.Shelf.Abstract
import Derived.Shelf.AbstractIn
import Derived.WalkKit
import Derived.OwnWalkIn
import Derived.TacticsInMore
import Derived.LoopNIn
import Derived.LoopIn
import Derived.Maps.AppendAt
import Derived.Lib.Hide
import Derived.Outline
import Derived.BigQuiet
import Derived.Test.YtcbfnfggnocndaaZRedoCrA
set_option linter.unusedVariables false
set_option linter.unusedSimpArgs false
section
namespace Go.Proofs.Ytcbfnfggnocndaa
open Go.RowKit Go.Shelf Go.Proofs.Ytcbfnfggnocndaa.Q Go.Proofs.YtcbfnfggnocndaaW.PrintWords Go.Proofs.YtcbfnfggnocndaaW.PrintLast Go.Proofs.YtcbfnfggnocndaaW.PrintMore Math
set_option maxHeartbeats 2000000 in
set_option maxRecDepth 1000000 in
theorem scan1_calls (B Rb : Nat) (acc : List ByteArray) (W : World) (s : ByteArray) (m : Int) (h : Coll B Rb acc W) (hn : acc.length ≤ 1000000) :
  Calls Try.prog 40 (#[.string s, .int .i64 m] ++ #[.pointer (some ⟨Rb, 0, none⟩)]) W fun e W' => e = .returned (.tuple #[]) ∧ Coll B Rb (acc ++ [s]) W' ∧ KeepE B Rb W W' := by
 obtain ⟨i0, hi0, hz0, hz1, hz2⟩ := info_parts info_str5
 obtain ⟨⟨v, h1, h2⟩, hRb, hle⟩ := h
 have hc0 : W.cell? ⟨Rb, 0, none⟩ = some v := by rw [blk_cell h1]; rfl
 have hz := blk_lt h1
 have H1 := Lib.hid h1; have H2 := Lib.hid h2
 obtain ⟨xs, hxs⟩ : ∃ xs, xs = acc.map Value.string := ⟨_, rfl⟩
 rw [← hxs] at h2
 have HX := Lib.hid hxs; have HO := Lib.hid h2
 have hmx : xs ++ [.string s] = (acc ++ [s]).map Value.string := by rw [hxs, List.map_append]; rfl
 have HMX := Lib.hid hmx
 obtain ⟨n, hn0⟩ : ∃ n, n = acc.length := ⟨_, rfl⟩
 rw [← hn0] at HO hn
 have HN := Lib.hid hn0
 clear h1 h2 hxs hmx hn0
 show Calls Try.prog 40 #[.string s, .int .i64 m, .pointer (some ⟨Rb, 0, none⟩)] W _
 go_enter Try.func40, Try.ntmps40
 go_wp2_with (at_builtin; refine wpList_append_own _ rfl _ _ 22 rfl B 9 i0 _ 1 16 Try.underlying22 hi0 hz0 hz1 hz2 rfl (by decide) v n xs rfl (HO.out.alloc _) ⟨W.heap.size, 0, none⟩ 1 1 [.string s] rfl rfl (World.news_of_block (cs := #[.string s]) (t := 9) (fr := (0, 0)) (heap_alloc_new W _)) (by intro u hu; rw [List.mem_singleton.1 hu]; rfl) (by unfold maxLen; omega) (by omega) (by rw [World.size_alloc]; omega) ?_)
 intro v' w5 hown hgrow _
 obtain ⟨g4, c4, rfl⟩ := ownsRow_succ hown
 rw [HMX.out] at hown
 have hown1 := HO.out
 have hne : ∀ k, k < B → some k ≠ v.ownBlock := fun k hk e => by have := (hown1.lt k e.symm).1; omega
 have hb5 : One w5 Rb v 22 := by
  unfold One
  rw [hgrow.block Rb (by rw [World.size_alloc]; omega) (hne Rb hRb), Below.heap_alloc _ _ _ hz]
  exact H1.out
 have hc5 := hb5.cell
 have hf5 := hb5.free
 have HB5 := Lib.hid hb5; have HO5 := Lib.hid hown; have HG5 := Lib.hid hgrow; have HNE := Lib.hid hne
 clear hb5 hown hgrow hown1 hne hc0
 go_wp2_with fail
 go_end0
 refine ⟨rfl, ⟨⟨_, HB5.out.set, ?_⟩, hRb, ?_⟩, ?_⟩
 ·rw [List.length_append, ← HN.out]
  exact own_far HO5.out hRb
 ·have h1 := HG5.out.size
  rw [World.size_alloc] at h1
  have h2 : (w5.setCell ⟨Rb, 0, none⟩ (.slice (some ⟨g4, 0, none⟩) (n + 1) c4)).heap.size = w5.heap.size := by simp [World.setCell]
  rw [h2]; omega
 ·have h1 := HG5.out.size
  rw [World.size_alloc] at h1
  have h2 : (w5.setCell ⟨Rb, 0, none⟩ (.slice (some ⟨g4, 0, none⟩) (n + 1) c4)).heap.size = w5.heap.size := by simp [World.setCell]
  refine ⟨HG5.out.os, HG5.out.tape, HG5.out.output, by rw [h2]; omega, fun k hk hr => ?_⟩
  rw [Below.heap_setCell _ _ _ _ (show k ≠ (⟨Rb, 0, none⟩ : Addr).block from hr), HG5.out.block k (by rw [World.size_alloc]; omega) (HNE.out k hk), Below.heap_alloc _ _ _ (by omega)]
theorem scan1_enters : ∀ args W, (callFunc 40 args).run Try.prog W = .ok (.enter 40 args) W := enters_of Try.func40 (by kernel_rfl) rfl
theorem own_set4 {w : World} {base n c : Nat} {e : TypeId} {v x y z u : Value} {xs : List Value} (h : w.ownsRow base e 1 v n xs) (hc : c < base) :
  ((((w.setCell ⟨c, 0, none⟩ x).setCell ⟨c, 1, none⟩ y).setCell ⟨c, 2, none⟩ z).setCell ⟨c, 3, none⟩ u).drew.ownsRow base e 1 v n xs :=
 own_move h (fun k hk => by
  have hk2 := own_base h k hk
  show ((((w.setCell ⟨c, 0, none⟩ x).setCell ⟨c, 1, none⟩ y).setCell ⟨c, 2, none⟩ z).setCell ⟨c, 3, none⟩ u).heap[k]? = _
  rw [heap_setCell_other _ ⟨c, 3, none⟩ k _ (show k ≠ c by omega), heap_setCell_other _ ⟨c, 2, none⟩ k _ (show k ≠ c by omega), heap_setCell_other _ ⟨c, 1, none⟩ k _ (show k ≠ c by omega), heap_setCell_other _ ⟨c, 0, none⟩ k _ (show k ≠ c by omega)])
set_option maxHeartbeats 4000000 in
set_option maxRecDepth 1000000 in
theorem scan_main (A0 : Option Addr) (c0 : Nat) (l0 : List ByteArray) (A1 : Option Addr) (c1 : Nat) (l1 : List S88) (fr mn at_ first : Nat) (w : World) (h0 : Kd.C Kd.string w A0 l0.length l0) (g0 : l0.length ≤ c0) (h1 : Kd.C k88 w A1 l1.length l1) (g1 : l1.length ≤ c1) (hok : DiskOk l0 l1)
  (hm : 1 ≤ mn) (hfm : fr + mn ≤ l0.length) (hmn : mn ≤ 10000) (hs : ∀ s ∈ ringL l0 l1 fr mn, s.size = 64) (hat : at_ < mn) (hf : first < 18446744073709551616) :
  Calls Try.prog 17 #[.agg #[.slice A0 l0.length c0, .slice A1 l1.length c1, .bool false], .agg #[.int .i64 fr, .int .i64 mn], .int .i64 at_, .int .u64 first] w fun e w' =>
   ∃ v, e = .returned (.tuple #[.agg #[.int .i64 at_, .int .i64 (found (ringL l0 l1 fr mn) at_ first mn).2, .int .u64 first, .int .i64 (found (ringL l0 l1 fr mn) at_ first mn).1.length], v, .int .i64 0]) ∧ w'.ownsRow w.heap.size 9 1 v (found (ringL l0 l1 fr mn) at_ first mn).1.length ((found (ringL l0 l1 fr mn) at_ first mn).1.map Value.string) ∧ Below w.heap.size w w' := by
 have hrl := ringL_len l0 l1 fr mn hfm
 obtain ⟨W1, hW1⟩ : ∃ W1, W1 = ((w.alloc (.cells #[.slice A0 l0.length c0, .slice A1 l1.length c1, .bool false] 25)).alloc (.cells #[.int .i64 fr, .int .i64 mn] 27)).alloc (.cells #[.int .i64 0, .int .i64 0, .int .u64 0, .int .i64 0] 30) := ⟨_, rfl⟩
 obtain ⟨hx, hl, hz⟩ := bx3_new w _ _ _ _ _ _ _ _ _ W1 hW1
 have hmay : mayR l0.length fr mn = true := by
  unfold mayR
  rw [decide_eq_true (by omega), decide_eq_true (by omega), decide_eq_true (by omega), decide_eq_true (by omega)]; rfl
 have hmc := may_calls A0 c0 l0.length A1 c1 l1.length false fr mn hok.2.1 W1
 rw [hmay] at hmc
 have hring := fun W (hb : Below w.heap.size w W) => ring_calls A0 c0 l0 A1 c1 l1 false fr mn W (Kd.C_below h0 hb) g0 (Kd.C_below h1 hb) g1 hok hm hfm
 have heach : ∀ (Rb : Nat) (A3 : Option Addr) (c3 : Nat) (w3 : World), RdS w3 A3 (ringL l0 l1 fr mn) → (ringL l0 l1 fr mn).length ≤ c3 → (∀ ad, A3 = some ad → Rb < ad.block) → One w3 Rb (.slice none 0 0) 22 → _ :=
  fun Rb A3 c3 w3 hr hc hA ho => each_ring 40 #[.pointer (some ⟨Rb, 0, none⟩)] (ringL l0 l1 fr mn) at_ first mn (Coll w3.heap.size Rb) Rb A3 c3 w3 hr hc
   (fun ad h => by have := hA ad h; omega) (by omega) (by omega) hs (by omega) hf (by omega) ⟨⟨_, ho, World.ownsRow_nil _ _ _ _⟩, ho.lt, Nat.le_refl _⟩ (fun _ _ _ h hb => h.below hb)
   (fun acc W s m hl hI _ => scan1_calls _ _ acc W s m hI (by omega)) scan1_enters
 have HRINGF := Lib.hid hring; have HEACH := Lib.hid heach; have HMC := Lib.hid hmc; have HX := Lib.hid hx; have HL := Lib.hid hl; have HZ := Lib.hid hz; have HW1 := Lib.hid hW1
 have e1 : decide ((at_ : Int) < 0) = false := decide_eq_false (by omega)
 have e2 : decide ((mn : Int) ≤ (at_ : Int)) = false := decide_eq_false (by omega)
 have e2n : decide (mn ≤ at_) = false := decide_eq_false (by omega)
 clear h0 h1 hx hl hz hW1 hmc hring heach hok hs hrl hmay
 go_enter Try.func17, Try.ntmps17
 go_wp2_with fail
 rw [← HW1.out]
 refine HMC.out.mono ?_
 rintro e w2 ⟨rfl, hb2⟩
 have hz2 : w.heap.size + 3 ≤ w2.heap.size := by rw [← HZ.out]; exact hb2.size
 have hx2 := HX.out.step hb2
 have hl2 := HL.out.step hb2
 have q4 := hx2.r1
 obtain ⟨W3, hW3⟩ : ∃ W3, W3 = w2.alloc (.cells #[.slice none 0 0] 22) := ⟨_, rfl⟩
 have b3 := (Below.refl w2.heap.size w2).alloc (Nat.le_refl _) (.cells #[.slice none 0 0] 22)
 have ho3 : One W3 w2.heap.size (.slice none 0 0) 22 := by unfold One; rw [hW3]; exact heap_alloc_new w2 _
 rw [← hW3] at b3
 have hx3 := hx2.step b3
 have hl3 := hl2.step b3
 have HXD : Hid (Bx2 w W3.drew _ _ _ _ _) := Lib.hid ⟨hx3.d, hx3.r, below_drew hx3.b⟩
 have HLD : Hid (BxL w W3.drew _ _ _ _) := Lib.hid ⟨hl3.l⟩
 have HCD : Hid (One W3.drew w2.heap.size (.slice none 0 0) 22) := Lib.hid ho3
 have HRING := Lib.hid (HRINGF.out W3.drew (below_drew hx3.b))
 have HZ2 := Lib.hid hz2; have HW3 := Lib.hid hW3
 clear hb2 hx2 hl2 hW3 b3 ho3 hx3 hl3 hz2 HMC HX HL HRINGF
 go_wp2_with fail
 rw [← HW3.out]
 refine start_ (n := 14) (S := fun w' => w'.cell? ⟨w.heap.size, 0, none⟩ = some (.slice A0 l0.length c0) ∧ w'.cell? ⟨w.heap.size, 1, none⟩ = some (.slice A1 l1.length c1) ∧ w'.cell? ⟨w.heap.size, 2, none⟩ = some (.bool false) ∧ w'.cell? ⟨w.heap.size + 1, 0, none⟩ = some (.int .i64 (fr : Int)) ∧ w'.cell? ⟨w.heap.size + 1, 1, none⟩ = some (.int .i64 (mn : Int))) (ds := []) #[false, false, false, false, false, false, false, false, false, false, false, false, false, false] (by kernel_rfl) rfl rfl ⟨HXD.out.c0, HXD.out.c1, HXD.out.c2, HXD.out.r0, HXD.out.r1⟩ (fun hHeld => ?_)
 refine pure_ (i := 3) (N := some 38) (v := ?_) (a' := ?_) #[false, false, false, true, false, false, false, false, false, false, false, false, false, false] rfl rfl (by kernel_rfl) (fun _ _ _ h => h) (Or.inl ⟨by rfl, ?_⟩) ?_ ?_
 (rotate_left; · (intro w'; go_simp; with_reducible rfl))
 (rotate_left; · (simp only [Act.put, zqk, zql, zqm, i64_w, i32_w]; rfl))
 refine pure_ (i := 4) (N := some 39) (v := ?_) (a' := ?_) #[false, false, false, true, true, false, false, false, false, false, false, false, false, false] rfl rfl (by kernel_rfl) (fun _ _ _ h => h) (Or.inl ⟨by rfl, ?_⟩) ?_ ?_
 (rotate_left; · (intro w'; go_simp; with_reducible rfl))
 (rotate_left; · (simp only [Act.put, zqk, zql, zqm, i64_w, i32_w]; rfl))
 refine pure_ (i := 5) (N := some 40) (v := ?_) (a' := ?_) #[false, false, false, true, true, true, false, false, false, false, false, false, false, false] rfl rfl (by kernel_rfl) (fun _ _ _ h => h) (Or.inl ⟨by rfl, ?_⟩) ?_ ?_
 (rotate_left; · (intro w'; go_simp; with_reducible rfl))
 (rotate_left; · (simp only [Act.put, zqk, zql, zqm, i64_w, i32_w]; rfl))
 refine pure_ (i := 7) (N := some 42) (v := ?_) (a' := ?_) #[false, false, false, true, true, true, false, true, false, false, false, false, false, false] rfl rfl (by kernel_rfl) (fun _ _ _ h => h) (Or.inl ⟨by rfl, ?_⟩) ?_ ?_
 (rotate_left; · (intro w'; go_simp; with_reducible rfl))
 (rotate_left; · (simp only [Act.put, zqk, zql, zqm, i64_w, i32_w]; rfl))
 refine take_ (i := 0) (N := some 35) (v := ?_) (a' := ?_) #[true, false, false, true, true, true, false, true, false, false, false, false, false, false] rfl rfl (by kernel_rfl) (fun _ _ _ h => h) (Or.inl ⟨by rfl, ?_⟩) hHeld ?_ ?_
 rotate_left
 ·rintro w' ⟨s0, s1, s2, s3, s4⟩
  go_simp
  with_reducible rfl
 (rotate_left; · (simp only [Act.put, zqk, zql, zqm, i64_w, i32_w]; rfl))
 refine take_ (i := 1) (N := some 36) (v := ?_) (a' := ?_) #[true, true, false, true, true, true, false, true, false, false, false, false, false, false] rfl rfl (by kernel_rfl) (fun _ _ _ h => h) (Or.inl ⟨by rfl, ?_⟩) hHeld ?_ ?_
 rotate_left
 ·rintro w' ⟨s0, s1, s2, s3, s4⟩
  go_simp
  with_reducible rfl
 (rotate_left; · (simp only [Act.put, zqk, zql, zqm, i64_w, i32_w]; rfl))
 refine take_ (i := 6) (N := some 41) (v := ?_) (a' := ?_) #[true, true, false, true, true, true, true, true, false, false, false, false, false, false] rfl rfl (by kernel_rfl) (fun _ _ _ h => h) (Or.inl ⟨by rfl, ?_⟩) hHeld ?_ ?_
 rotate_left
 ·rintro w' ⟨s0, s1, s2, s3, s4⟩
  go_simp
  with_reducible rfl
 (rotate_left; · (simp only [Act.put, zqk, zql, zqm, i64_w, i32_w]; rfl))
 refine one_ (i := 2) (N := some 37) #[true, true, true, true, true, true, true, true, false, false, false, false, false, false] rfl rfl (by kernel_rfl) (by decide) (fun K hK => ?_)
 refine goes_ Try.func39 (by kernel_rfl) rfl #[.agg #[.slice A0 l0.length c0, .slice A1 l1.length c1, .bool false], .agg #[.int .i64 fr, .int .i64 mn]] (by rfl) rfl rfl (by simp only [List.map_toArray, List.map_cons, List.map_nil]; rfl) ?_
 with_reducible refine (HRING.out).mono ?_
 rintro e w3 ⟨A3, c3, rfl, hr3, hc3, hA3, hb3⟩
 refine ⟨_, rfl, ?_⟩
 have HX3 := Lib.hid (HXD.out.step hb3)
 have HL3 := Lib.hid (HLD.out.step hb3)
 have HC3 := Lib.hid (HCD.out.keep hb3 HCD.out.lt)
 have HR3 := Lib.hid hr3
 have HA3 : Hid (∀ ad, A3 = some ad → w2.heap.size < ad.block) := Lib.hid (fun ad h => Nat.lt_of_lt_of_le HCD.out.lt (hA3 ad h))
 clear hr3 hA3 hb3
 refine hK.out _ _ ⟨HX3.out.c0, HX3.out.c1, HX3.out.c2, HX3.out.r0, HX3.out.r1⟩ (fun hHeld => ?_)
 clear hK K
 refine norm_ (a' := ?_) ?_ ?_
 rotate_left
 ·show Act.put _ (some 37) _ = _
  simp only [Act.put, zqk, zql, zqm, i64_w, i32_w]
  rfl
 refine one_ (i := 8) (N := some 43) #[true, true, true, true, true, true, true, true, true, false, false, false, false, false] rfl rfl (by kernel_rfl) (by decide) (fun K hK => ?_)
 refine goes_ Try.func38 (by kernel_rfl) rfl #[.slice A3 (ringL l0 l1 fr mn).length c3, .int .i64 at_, .int .u64 first, .int .i64 mn, .func (.func 40) #[] #[.pointer (some ⟨w2.heap.size, 0, none⟩)]] (by rfl) rfl rfl (by simp only [List.map_toArray, List.map_cons, List.map_nil]; rfl) ?_
 with_reducible refine ((HEACH.out w2.heap.size A3 c3 w3 HR3.out hc3 HA3.out HC3.out)).mono ?_
 rintro e w4 ⟨rfl, hi4, hk4⟩
 refine ⟨_, rfl, ?_⟩
 have HC4 := Lib.hid hi4
 have HX4 := Lib.hid (HX3.out.keep hk4 (by have := HC3.out.lt; have := HZ2.out; omega) (by have := HZ2.out; omega))
 have HL4 := Lib.hid (HL3.out.keep hk4 (by have := HC3.out.lt; have := HZ2.out; omega) (by have := HZ2.out; omega))
 clear hi4 hk4
 refine hK.out _ _ ⟨HX4.out.c0, HX4.out.c1, HX4.out.c2, HX4.out.r0, HX4.out.r1⟩ (fun hHeld => ?_)
 clear hK K
 refine norm_ (a' := ?_) ?_ ?_
 rotate_left
 ·show Act.put _ (some 43) _ = _
  simp only [Act.put, zqk, zql, zqm, i64_w, i32_w]
  rfl
 refine pure_ (i := 9) (N := some 34) (v := ?_) (a' := ?_) #[true, true, true, true, true, true, true, true, true, true, false, false, false, false] rfl rfl (by kernel_rfl) (fun _ _ _ h => h) (Or.inl ⟨by rfl, ?_⟩) ?_ ?_
 (rotate_left; · (intro w'; go_simp; with_reducible rfl))
 (rotate_left; · (simp only [Act.put, zqk, zql, zqm, i64_w, i32_w]; rfl))
 refine pure_ (i := 10) (N := some 44) (v := ?_) (a' := ?_) #[true, true, true, true, true, true, true, true, true, true, true, false, false, false] rfl rfl (by kernel_rfl) (fun _ _ _ h => h) (Or.inl ⟨by rfl, ?_⟩) ?_ ?_
 (rotate_left; · (intro w'; go_simp; with_reducible rfl))
 (rotate_left; · (simp only [Act.put, zqk, zql, zqm, i64_w, i32_w]; rfl))
 refine pure_ (i := 11) (N := some 45) (v := ?_) (a' := ?_) #[true, true, true, true, true, true, true, true, true, true, true, true, false, false] rfl rfl (by kernel_rfl) (fun _ _ _ h => h) (Or.inl ⟨by rfl, ?_⟩) ?_ ?_
 (rotate_left; · (intro w'; go_simp; with_reducible rfl))
 (rotate_left; · (simp only [Act.put, zqk, zql, zqm, i64_w, i32_w]; rfl))
 refine pure_ (i := 12) (N := some 12) (v := ?_) (a' := ?_) #[true, true, true, true, true, true, true, true, true, true, true, true, true, false] rfl rfl (by kernel_rfl) (fun _ _ _ h => h) (Or.inl ⟨by rfl, ?_⟩) ?_ ?_
 (rotate_left; · (intro w'; go_simp; with_reducible rfl))
 (rotate_left; · (simp only [Act.put, zqk, zql, zqm, i64_w, i32_w]; rfl))
 refine pure_ (i := 13) (N := some 13) (v := ?_) (a' := ?_) #[true, true, true, true, true, true, true, true, true, true, true, true, true, true] rfl rfl (by kernel_rfl) (fun _ _ _ h => h) (Or.inl ⟨by rfl, ?_⟩) ?_ ?_
 (rotate_left; · (intro w'; go_simp; with_reducible rfl))
 (rotate_left; · (simp only [Act.put, zqk, zql, zqm, i64_w, i32_w]; rfl))
 refine done_ (by kernel_rfl) ?_
 obtain ⟨v, hv1, hv2⟩ := HC4.out.v
 have HV := Lib.hid hv2; have HV1 := Lib.hid hv1
 clear hv1 hv2
 obtain ⟨n2, hn2⟩ : ∃ n2, n2 = (found (ringL l0 l1 fr mn) at_ first mn).2 := ⟨_, rfl⟩
 obtain ⟨n1, hn1⟩ : ∃ n1, n1 = (found (ringL l0 l1 fr mn) at_ first mn).1.length := ⟨_, rfl⟩
 have HN2 := Lib.hid hn2; have HN1 := Lib.hid hn1
 rw [← hn2, ← hn1]
 clear hn2 hn1
 have HS4 := Lib.hid (LogBox.facts (show LogBox w4 (w.heap.size + 1 + 1) _ _ _ _ from HL4.out.l))
 have hvc : w4.cell? ⟨w2.heap.size, 0, none⟩ = some v := by rw [blk_cell HV1.out]; rfl
 have HVC := Lib.hid hvc
 clear hvc
 go_wp2_with fail
 refine start_ (n := 9) (S := fun w' => w'.cell? ⟨w2.heap.size, 0, none⟩ = some v) (ds := []) #[false, false, false, false, false, false, false, false, false] (by kernel_rfl) rfl rfl (HVC.out) (fun hHeld => ?_)
 refine pure_ (i := 0) (N := some 46) (v := ?_) (a' := ?_) #[true, false, false, false, false, false, false, false, false] rfl rfl (by kernel_rfl) (fun _ _ _ h => h) (Or.inl ⟨by rfl, ?_⟩) ?_ ?_
 (rotate_left; · (intro w'; go_simp; with_reducible rfl))
 (rotate_left; · (simp only [Act.put, zqk, zql, zqm, i64_w, i32_w]; rfl))
 refine pure_ (i := 1) (N := some 47) (v := ?_) (a' := ?_) #[true, true, false, false, false, false, false, false, false] rfl rfl (by kernel_rfl) (fun _ _ _ h => h) (Or.inl ⟨by rfl, ?_⟩) ?_ ?_
 (rotate_left; · (intro w'; go_simp; with_reducible rfl))
 (rotate_left; · (simp only [Act.put, zqk, zql, zqm, i64_w, i32_w]; rfl))
 refine pure_ (i := 2) (N := some 48) (v := ?_) (a' := ?_) #[true, true, true, false, false, false, false, false, false] rfl rfl (by kernel_rfl) (fun _ _ _ h => h) (Or.inl ⟨by rfl, ?_⟩) ?_ ?_
 (rotate_left; · (intro w'; go_simp; with_reducible rfl))
 (rotate_left; · (simp only [Act.put, zqk, zql, zqm, i64_w, i32_w]; rfl))
 refine pure_ (i := 3) (N := some 49) (v := ?_) (a' := ?_) #[true, true, true, true, false, false, false, false, false] rfl rfl (by kernel_rfl) (fun _ _ _ h => h) (Or.inl ⟨by rfl, ?_⟩) ?_ ?_
 (rotate_left; · (intro w'; go_simp; with_reducible rfl))
 (rotate_left; · (simp only [Act.put, zqk, zql, zqm, i64_w, i32_w]; rfl))
 refine pure_ (i := 4) (N := some 50) (v := ?_) (a' := ?_) #[true, true, true, true, true, false, false, false, false] rfl rfl (by kernel_rfl) (fun _ _ _ h => h) (Or.inl ⟨by rfl, ?_⟩) ?_ ?_
 (rotate_left; · (intro w'; go_simp; with_reducible rfl))
 (rotate_left; · (simp only [Act.put, zqk, zql, zqm, i64_w, i32_w]; rfl))
 refine take_ (i := 5) (N := some 51) (v := ?_) (a' := ?_) #[true, true, true, true, true, true, false, false, false] rfl rfl (by kernel_rfl) (fun _ _ _ h => h) (Or.inl ⟨by rfl, ?_⟩) hHeld ?_ ?_
 rotate_left
 ·intro w' s0
  go_simp
  with_reducible rfl
 (rotate_left; · (simp only [Act.put, zqk, zql, zqm, i64_w, i32_w]; rfl))
 refine one_ (i := 6) (N := none) #[true, true, true, true, true, true, true, false, false] rfl rfl (by kernel_rfl) (by decide) (fun K hK => ?_)
 have z0 := HS4.out.1
 have z1 := HS4.out.2.1
 have z2 := HS4.out.2.2.1
 have z3 := HS4.out.2.2.2.1
 have y0 := HS4.out.2.2.2.2.1
 have y1 := HS4.out.2.2.2.2.2.1
 have y2 := HS4.out.2.2.2.2.2.2.1
 have y3 := HS4.out.2.2.2.2.2.2.2
 refine skip_ (w1 := ?_) (by rfl) rfl ?_ ?_
 rotate_left
 ·go_simp
  rfl
 refine hK.out _ _ ((by have hz := HZ2.out; show World.cell? (World.setCell (World.setCell (World.setCell (World.setCell w4 _ _) _ _) _ _) _ _) _ = _; exact (cell_far (show w2.heap.size ≠ w.heap.size + 1 + 1 by omega) _).trans ((cell_far (show w2.heap.size ≠ w.heap.size + 1 + 1 by omega) _).trans ((cell_far (show w2.heap.size ≠ w.heap.size + 1 + 1 by omega) _).trans ((cell_far (show w2.heap.size ≠ w.heap.size + 1 + 1 by omega) _).trans HVC.out))))) (fun hHeld => ?_)
 clear hK K
 refine pure_ (i := 7) (N := some 9) (v := ?_) (a' := ?_) #[true, true, true, true, true, true, true, true, false] rfl rfl (by kernel_rfl) (fun _ _ _ h => h) (Or.inl ⟨by rfl, ?_⟩) ?_ ?_
 (rotate_left; · (intro w'; go_simp; with_reducible rfl))
 (rotate_left; · (simp only [Act.put, zqk, zql, zqm, i64_w, i32_w]; rfl))
 refine pure_ (i := 8) (N := some 10) (v := ?_) (a' := ?_) #[true, true, true, true, true, true, true, true, true] rfl rfl (by kernel_rfl) (fun _ _ _ h => h) (Or.inl ⟨by rfl, ?_⟩) ?_ ?_
 (rotate_left; · (intro w'; go_simp; with_reducible rfl))
 (rotate_left; · (simp only [Act.put, zqk, zql, zqm, i64_w, i32_w]; rfl))
 refine done_ (by kernel_rfl) ?_
 go_wp2_with fail
 obtain ⟨z0, z1, z2, z3, y0, y1, y2, y3⟩ := HS4.out
 refine bodyPost_ret (v := .tuple #[.agg #[.int .i64 (at_ : Int), .int .i64 (n2 : Int), .int .u64 (first : Int), .int .i64 (n1 : Int)], v, .int .i64 0]) (by simp [results, Try.results17, go_sem, z0, z1, z2, z3]) rfl ⟨v, by rw [← HN2.out, ← HN1.out], ?_, ?_⟩
 ·have hz := HZ2.out
  have hz3 := HC4.out.lt
  exact own_weaken (own_set4 HV.out (show w.heap.size + 1 + 1 < w3.heap.size by omega)) (show w.heap.size ≤ w3.heap.size by omega)
 ·exact below_drew ((((HX4.out.b.setCell (p := ⟨w.heap.size + 1 + 1, 0, none⟩) (by show w.heap.size ≤ w.heap.size + 1 + 1; omega) _).setCell (p := ⟨w.heap.size + 1 + 1, 1, none⟩) (by show w.heap.size ≤ w.heap.size + 1 + 1; omega) _).setCell (p := ⟨w.heap.size + 1 + 1, 2, none⟩) (by show w.heap.size ≤ w.heap.size + 1 + 1; omega) _).setCell (p := ⟨w.heap.size + 1 + 1, 3, none⟩) (by show w.heap.size ≤ w.heap.size + 1 + 1; omega) _)
set_option maxHeartbeats 2000000 in
set_option maxRecDepth 1000000 in
theorem scan_fail (A0 : Option Addr) (c0 n0 : Nat) (A1 : Option Addr) (c1 n1 : Nat) (off : Bool) (fr mn at_ first : Int) (hn : n0 ≤ 1000000000) (w : World)
  (h : off = true ∨ mayR n0 fr mn = false ∨ at_ < 0 ∨ mn ≤ at_) :
  Calls Try.prog 17 #[.agg #[.slice A0 n0 c0, .slice A1 n1 c1, .bool off], .agg #[.int .i64 fr, .int .i64 mn], .int .i64 at_, .int .u64 first] w fun e w' => e = .returned (.tuple #[.agg #[.int .i64 0, .int .i64 0, .int .u64 0, .int .i64 0], .slice none 0 0, .int .i64 (if off = true then 19 else 1)]) ∧ Below w.heap.size w w' := by
 obtain ⟨W1, hW1⟩ : ∃ W1, W1 = ((w.alloc (.cells #[.slice A0 n0 c0, .slice A1 n1 c1, .bool off] 25)).alloc (.cells #[.int .i64 fr, .int .i64 mn] 27)).alloc (.cells #[.int .i64 0, .int .i64 0, .int .u64 0, .int .i64 0] 30) := ⟨_, rfl⟩
 obtain ⟨hx, hl, hz⟩ := bx3_new w _ _ _ _ _ _ _ _ _ W1 hW1
 have hmc := may_calls A0 c0 n0 A1 c1 n1 off fr mn hn W1
 have HMC := Lib.hid hmc; have HX := Lib.hid hx; have HL := Lib.hid hl; have HW1 := Lib.hid hW1
 clear hmc hx hl hz hW1
 cases off with
 | true =>
  clear h
  go_enter Try.func17, Try.ntmps17
  go_wp2_with fail
  rw [← HW1.out]
  obtain ⟨z0, z1, z2, z3, y0, y1, y2, y3⟩ := LogBox.facts (show LogBox W1 (w.heap.size + 1 + 1) _ _ _ _ from HL.out.l)
  exact bodyPost_ret (v := .tuple #[.agg #[.int .i64 0, .int .i64 0, .int .u64 0, .int .i64 0], .slice none 0 0, .int .i64 19]) (by simp [results, Try.results17, go_sem, z0, z1, z2, z3]) rfl ⟨rfl, HX.out.b⟩
 | false =>
  cases hm : mayR n0 fr mn with
  | false =>
   rw [hm] at HMC
   clear h
   go_enter Try.func17, Try.ntmps17
   go_wp2_with fail
   rw [← HW1.out]
   refine HMC.out.mono ?_
   rintro e w2 ⟨rfl, hb2⟩
   have HX2 := Lib.hid (HX.out.step hb2)
   obtain ⟨z0, z1, z2, z3, y0, y1, y2, y3⟩ := LogBox.facts (show LogBox w2 (w.heap.size + 1 + 1) _ _ _ _ from (HL.out.step hb2).l)
   have q4 := HX2.out.r1
   clear hb2
   go_wp2_with fail
   refine bodyPost_ret (v := .tuple #[.agg #[.int .i64 0, .int .i64 0, .int .u64 0, .int .i64 0], .slice none 0 0, .int .i64 1]) (by simp [results, Try.results17, go_sem, z0, z1, z2, z3]) rfl ⟨rfl, ?_⟩
   exact (((HX2.out.b.setCell (p := ⟨w.heap.size + 1 + 1, 0, none⟩) (by show w.heap.size ≤ w.heap.size + 1 + 1; omega) _).setCell (p := ⟨w.heap.size + 1 + 1, 1, none⟩) (by show w.heap.size ≤ w.heap.size + 1 + 1; omega) _).setCell (p := ⟨w.heap.size + 1 + 1, 2, none⟩) (by show w.heap.size ≤ w.heap.size + 1 + 1; omega) _).setCell (p := ⟨w.heap.size + 1 + 1, 3, none⟩) (by show w.heap.size ≤ w.heap.size + 1 + 1; omega) _
  | true =>
   rw [hm] at HMC
   by_cases h1 : at_ < 0
   ·have e1 : decide (at_ < 0) = true := decide_eq_true h1
    clear h h1
    go_enter Try.func17, Try.ntmps17
    go_wp2_with fail
    rw [← HW1.out]
    refine HMC.out.mono ?_
    rintro e w2 ⟨rfl, hb2⟩
    have HX2 := Lib.hid (HX.out.step hb2)
    obtain ⟨z0, z1, z2, z3, y0, y1, y2, y3⟩ := LogBox.facts (show LogBox w2 (w.heap.size + 1 + 1) _ _ _ _ from (HL.out.step hb2).l)
    have q4 := HX2.out.r1
    clear hb2
    go_wp2_with fail
    refine bodyPost_ret (v := .tuple #[.agg #[.int .i64 0, .int .i64 0, .int .u64 0, .int .i64 0], .slice none 0 0, .int .i64 1]) (by simp [results, Try.results17, go_sem, z0, z1, z2, z3]) rfl ⟨rfl, ?_⟩
    exact (((HX2.out.b.setCell (p := ⟨w.heap.size + 1 + 1, 0, none⟩) (by show w.heap.size ≤ w.heap.size + 1 + 1; omega) _).setCell (p := ⟨w.heap.size + 1 + 1, 1, none⟩) (by show w.heap.size ≤ w.heap.size + 1 + 1; omega) _).setCell (p := ⟨w.heap.size + 1 + 1, 2, none⟩) (by show w.heap.size ≤ w.heap.size + 1 + 1; omega) _).setCell (p := ⟨w.heap.size + 1 + 1, 3, none⟩) (by show w.heap.size ≤ w.heap.size + 1 + 1; omega) _
   ·have e1 : decide (at_ < 0) = false := decide_eq_false h1
    have h2 : mn ≤ at_ := by rcases h with h | h | h | h <;> first | cases h | (rw [hm] at h; cases h) | exact absurd h h1 | exact h
    have e2 : decide (mn ≤ at_) = true := decide_eq_true h2
    clear h h1 h2
    go_enter Try.func17, Try.ntmps17
    go_wp2_with fail
    rw [← HW1.out]
    refine HMC.out.mono ?_
    rintro e w2 ⟨rfl, hb2⟩
    have HX2 := Lib.hid (HX.out.step hb2)
    obtain ⟨z0, z1, z2, z3, y0, y1, y2, y3⟩ := LogBox.facts (show LogBox w2 (w.heap.size + 1 + 1) _ _ _ _ from (HL.out.step hb2).l)
    have q4 := HX2.out.r1
    clear hb2
    go_wp2_with fail
    refine bodyPost_ret (v := .tuple #[.agg #[.int .i64 0, .int .i64 0, .int .u64 0, .int .i64 0], .slice none 0 0, .int .i64 1]) (by simp [results, Try.results17, go_sem, z0, z1, z2, z3]) rfl ⟨rfl, ?_⟩
    exact (((HX2.out.b.setCell (p := ⟨w.heap.size + 1 + 1, 0, none⟩) (by show w.heap.size ≤ w.heap.size + 1 + 1; omega) _).setCell (p := ⟨w.heap.size + 1 + 1, 1, none⟩) (by show w.heap.size ≤ w.heap.size + 1 + 1; omega) _).setCell (p := ⟨w.heap.size + 1 + 1, 2, none⟩) (by show w.heap.size ≤ w.heap.size + 1 + 1; omega) _).setCell (p := ⟨w.heap.size + 1 + 1, 3, none⟩) (by show w.heap.size ≤ w.heap.size + 1 + 1; omega) _
def redo_Scan.f (l0_0 : List ByteArray) (l0_1 : List S88) (a0_2 : Bool) (a1_0 a1_1 a2 a3 : Int) : Option (Int × Int × Int × Int × List ByteArray × Int) :=
 if l0_0.length ≤ 10000 ∧ (a0_2 = true ∨ mayR l0_0.length a1_0 a1_1 = false ∨ a2 < 0 ∨ a1_1 ≤ a2) then some (0, 0, 0, 0, [], if a0_2 = true then 19 else 1)
 else if a0_2 = false ∧ RedOk l0_0 l0_1 a1_0 a1_1 a2 a3 then some (a2, ((foundD l0_0 l0_1 a1_0 a1_1 a2 a3 a1_1).2 : Int), a3, ((foundD l0_0 l0_1 a1_0 a1_1 a2 a3 a1_1).1.length : Int), (foundD l0_0 l0_1 a1_0 a1_1 a2 a3 a1_1).1, 0) else none
theorem redo_Scan.calls (A0_0 : Option Addr) (c0_0 : Nat) (l0_0 : List ByteArray) (A0_1 : Option Addr) (c0_1 : Nat) (l0_1 : List S88) (a0_2 : Bool) (a1_0 a1_1 a2 a3 : Int) (r1 r2 r3 r4 : Int) (r5 : List ByteArray) (r6 : Int) (w : World)
  (hr0_0 : Kd.C Kd.string w A0_0 l0_0.length l0_0) (hc0_0 : l0_0.length ≤ c0_0) (hr0_1 : Kd.C k88 w A0_1 l0_1.length l0_1) (hc0_1 : l0_1.length ≤ c0_1) (h : redo_Scan.f l0_0 l0_1 a0_2 a1_0 a1_1 a2 a3 = some (r1, r2, r3, r4, r5, r6)) :
  Calls Try.prog 17 #[.agg #[.slice A0_0 l0_0.length c0_0, .slice A0_1 l0_1.length c0_1, .bool a0_2], .agg #[.int .i64 a1_0, .int .i64 a1_1], .int .i64 a2, .int .u64 a3] w fun e w' =>
   ∃ v0_, e = .returned (.tuple #[.agg #[.int .i64 r1, .int .i64 r2, .int .u64 r3, .int .i64 r4], v0_, .int .i64 r6]) ∧ Kd.R Kd.string 9 w' w.heap.size (fun _ => True) v0_ r5 ∧ Below w.heap.size w w' := by
 unfold redo_Scan.f at h
 split at h
 ·rename_i hh
  have h := Option.some.inj h
  simp only [Prod.mk.injEq] at h
  obtain ⟨rfl, rfl, rfl, rfl, rfl, rfl⟩ := h
  refine (scan_fail A0_0 c0_0 l0_0.length A0_1 c0_1 l0_1.length a0_2 a1_0 a1_1 a2 a3 (by omega) w hh.2).mono ?_
  rintro e w' ⟨rfl, hb⟩
  exact ⟨_, rfl, Kd.R_of_own (xs := []) (World.ownsRow_nil _ _ _ _) (fun _ _ => trivial), hb⟩
 ·split at h
  ·rename_i hk
   obtain ⟨rfl, hok, q1, q2, q3, q4, q5, q6, q7, q8, q9⟩ := hk
   have h := Option.some.inj h
   simp only [Prod.mk.injEq] at h
   obtain ⟨rfl, rfl, rfl, rfl, rfl, rfl⟩ := h
   obtain ⟨fr, rfl⟩ := Int.eq_ofNat_of_zero_le q3
   obtain ⟨mn, rfl⟩ := Int.eq_ofNat_of_zero_le (show 0 ≤ a1_1 by omega)
   obtain ⟨at_, rfl⟩ := Int.eq_ofNat_of_zero_le q5
   obtain ⟨first, rfl⟩ := Int.eq_ofNat_of_zero_le q7
   refine (scan_main A0_0 c0_0 l0_0 A0_1 c0_1 l0_1 fr mn at_ first w hr0_0 hc0_0 hr0_1 hc0_1 hok (by omega) (by omega) (by omega) q9 (by omega) (by omega)).mono ?_
   rintro e w' ⟨v, rfl, ho, hb⟩
   exact ⟨v, rfl, Kd.R_of_own ho (fun _ _ => trivial), hb⟩
  ·cases h
end Go.Proofs.Ytcbfnfggnocndaa
end

section
namespace Go.Proofs.Ytcbfnfggnocndaa
open Go.RowKit Go.Shelf Go.Proofs.Ytcbfnfggnocndaa.Q Go.Proofs.YtcbfnfggnocndaaW.PrintWords Go.Proofs.YtcbfnfggnocndaaW.PrintLast Go.Proofs.YtcbfnfggnocndaaW.PrintMore Math
def laidP (fr mn at_ : Nat) : Nat → List ByteArray → List S88
 | _, [] => []
 | i, s :: l => ⟨((fr + (at_ + i) % mn : Nat) : Int), fillS s⟩ :: laidP fr mn at_ (i + 1) l
theorem laidP_len (fr mn at_ : Nat) : ∀ (l : List ByteArray) (i : Nat), (laidP fr mn at_ i l).length = l.length
 | [], _ => rfl
 | _ :: l, i => by unfold laidP; rw [List.length_cons, List.length_cons, laidP_len fr mn at_ l]
theorem laidP_snoc (fr mn at_ : Nat) (s : ByteArray) : ∀ (l : List ByteArray) (i : Nat), laidP fr mn at_ i (l ++ [s]) = laidP fr mn at_ i l ++ [⟨((fr + (at_ + (i + l.length)) % mn : Nat) : Int), fillS s⟩]
 | [], i => rfl
 | x :: l, i => by
  rw [List.cons_append]
  unfold laidP
  rw [laidP_snoc fr mn at_ s l (i + 1), List.cons_append, List.length_cons, show i + 1 + l.length = i + (l.length + 1) by omega]
theorem set3 {W : World} {b : Nat} {a c e x y z : Value} {t : TypeId} (h : W.heap[b]? = some (.cells #[a, c, e] t (0, 0))) :
  (((W.setCell ⟨b, 0, none⟩ x).setCell ⟨b, 1, none⟩ y).setCell ⟨b, 2, none⟩ z).heap[b]? = some (.cells #[x, y, z] t (0, 0)) :=
 heap_setCell_same _ b 2 #[x, y, e] t z (heap_setCell_same _ b 1 #[x, c, e] t y (heap_setCell_same W b 0 #[a, c, e] t x h))
structure LayS (w W : World) (Q : Nat → Prop) (fr mn : Int) (l0 : List ByteArray) (l1 : List S88) (v0 v1 : Value) : Prop where
 d : W.heap[w.heap.size]? = some (.cells #[v0, v1, .bool false] 25 (0, 0))
 r : W.heap[w.heap.size + 1]? = some (.cells #[.int .i64 fr, .int .i64 mn] 27 (0, 0))
 o : W.heap[w.heap.size + 2]? = some (.cells #[.slice none 0 0, .slice none 0 0, .bool false] 25 (0, 0))
 v0 : Kd.V Kd.string 9 W w.heap.size Q v0 l0
 v1 : Kd.V k88 88 W w.heap.size Q v1 l1
 b : Below w.heap.size w W
namespace LayS
variable {w W W' : World} {Q : Nat → Prop} {fr mn : Int} {l0 : List ByteArray} {l1 : List S88} {v0 v1 : Value}
theorem step (h : LayS w W Q fr mn l0 l1 v0 v1) (hb : Below W.heap.size W W') : LayS w W' Q fr mn l0 l1 v0 v1 :=
 ⟨(hb.block _ (blk_lt h.d)).trans h.d, (hb.block _ (blk_lt h.r)).trans h.r, (hb.block _ (blk_lt h.o)).trans h.o, Kd.V_below h.v0 hb, Kd.V_below h.v1 hb, h.b.trans (hb.mono h.b.size)⟩
theorem drew (h : LayS w W Q fr mn l0 l1 v0 v1) : LayS w W.drew Q fr mn l0 l1 v0 v1 := ⟨h.d, h.r, h.o, Kd.V_drew h.v0, Kd.V_drew h.v1, below_drew h.b⟩
theorem c0 (h : LayS w W Q fr mn l0 l1 v0 v1) : W.cell? ⟨w.heap.size, 0, none⟩ = some v0 := by rw [blk_cell h.d]; rfl
theorem c1 (h : LayS w W Q fr mn l0 l1 v0 v1) : W.cell? ⟨w.heap.size, 1, none⟩ = some v1 := by rw [blk_cell h.d]; rfl
theorem c2 (h : LayS w W Q fr mn l0 l1 v0 v1) : W.cell? ⟨w.heap.size, 2, none⟩ = some (.bool false) := by rw [blk_cell h.d]; rfl
theorem r0 (h : LayS w W Q fr mn l0 l1 v0 v1) : W.cell? ⟨w.heap.size + 1, 0, none⟩ = some (.int .i64 fr) := by rw [blk_cell h.r]; rfl
theorem r1 (h : LayS w W Q fr mn l0 l1 v0 v1) : W.cell? ⟨w.heap.size + 1, 1, none⟩ = some (.int .i64 mn) := by rw [blk_cell h.r]; rfl
theorem f0 (h : LayS w W Q fr mn l0 l1 v0 v1) : W.frozen? ⟨w.heap.size, 0, none⟩ = false := zqi h.d 0
theorem f1 (h : LayS w W Q fr mn l0 l1 v0 v1) : W.frozen? ⟨w.heap.size, 1, none⟩ = false := zqi h.d 1
theorem f2 (h : LayS w W Q fr mn l0 l1 v0 v1) : W.frozen? ⟨w.heap.size, 2, none⟩ = false := zqi h.d 2
theorem p0 (h : LayS w W Q fr mn l0 l1 v0 v1) : W.cell? ⟨w.heap.size + 1 + 1, 0, none⟩ = some (.slice none 0 0) := by rw [blk_cell (g := w.heap.size + 1 + 1) h.o]; rfl
theorem p1 (h : LayS w W Q fr mn l0 l1 v0 v1) : W.cell? ⟨w.heap.size + 1 + 1, 1, none⟩ = some (.slice none 0 0) := by rw [blk_cell (g := w.heap.size + 1 + 1) h.o]; rfl
theorem p2 (h : LayS w W Q fr mn l0 l1 v0 v1) : W.cell? ⟨w.heap.size + 1 + 1, 2, none⟩ = some (.bool false) := by rw [blk_cell (g := w.heap.size + 1 + 1) h.o]; rfl
theorem g0 (h : LayS w W Q fr mn l0 l1 v0 v1) : W.frozen? ⟨w.heap.size + 1 + 1, 0, none⟩ = false := zqi (g := w.heap.size + 1 + 1) h.o 0
theorem g1 (h : LayS w W Q fr mn l0 l1 v0 v1) : W.frozen? ⟨w.heap.size + 1 + 1, 1, none⟩ = false := zqi (g := w.heap.size + 1 + 1) h.o 1
theorem g2 (h : LayS w W Q fr mn l0 l1 v0 v1) : W.frozen? ⟨w.heap.size + 1 + 1, 2, none⟩ = false := zqi (g := w.heap.size + 1 + 1) h.o 2
theorem set {u0 u1 : Value} {k0 : List ByteArray} {k1 : List S88} (h : LayS w W Q fr mn l0 l1 v0 v1) (hQ : ∀ k, Q k → k ≠ w.heap.size) (h0 : Kd.V Kd.string 9 W w.heap.size Q u0 k0) (h1 : Kd.V k88 88 W w.heap.size Q u1 k1) :
  LayS w (((W.setCell ⟨w.heap.size, 0, none⟩ u0).setCell ⟨w.heap.size, 1, none⟩ u1).setCell ⟨w.heap.size, 2, none⟩ (.bool false)) Q fr mn k0 k1 u0 u1 := by
 refine ⟨set3 h.d, ?_, ?_, ?_, ?_, ?_⟩
 ·rw [heap_setCell_other _ ⟨w.heap.size, 2, none⟩ _ _ (show w.heap.size + 1 ≠ w.heap.size by omega), heap_setCell_other _ ⟨w.heap.size, 1, none⟩ _ _ (show w.heap.size + 1 ≠ w.heap.size by omega), heap_setCell_other _ ⟨w.heap.size, 0, none⟩ _ _ (show w.heap.size + 1 ≠ w.heap.size by omega)]; exact h.r
 ·rw [heap_setCell_other _ ⟨w.heap.size, 2, none⟩ _ _ (show w.heap.size + 2 ≠ w.heap.size by omega), heap_setCell_other _ ⟨w.heap.size, 1, none⟩ _ _ (show w.heap.size + 2 ≠ w.heap.size by omega), heap_setCell_other _ ⟨w.heap.size, 0, none⟩ _ _ (show w.heap.size + 2 ≠ w.heap.size by omega)]; exact h.o
 ·exact Kd.V_far (Kd.V_far (Kd.V_far h0 hQ _) hQ _) hQ _
 ·exact Kd.V_far (Kd.V_far (Kd.V_far h1 hQ _) hQ _) hQ _
 ·exact ((h.b.setCell (p := ⟨w.heap.size, 0, none⟩) (Nat.le_refl _) _).setCell (p := ⟨w.heap.size, 1, none⟩) (Nat.le_refl _) _).setCell (p := ⟨w.heap.size, 2, none⟩) (Nat.le_refl _) _
end LayS
set_option maxHeartbeats 4000000 in
set_option maxRecDepth 1000000 in
theorem lay_calls (P0 P1 : Nat → Prop) (A0 : Option Addr) (c0 : Nat) (l0 : List ByteArray) (A1 : Option Addr) (c1 : Nat) (l1 : List S88) (fr mn at_ : Nat) (A3 : Option Addr) (c3 : Nat) (l : List ByteArray) (w : World)
  (hs0 : Kd.V Kd.string 9 w w.heap.size P0 (.slice A0 l0.length c0) l0) (hs1 : Kd.V k88 88 w w.heap.size P1 (.slice A1 l1.length c1) l1) (hr : RdS w A3 l) (hll : l.length ≤ 1000000) (hsz : ∀ s ∈ l, s.size ≤ 64)
  (hm : 1 ≤ mn) (hfm : fr + mn ≤ l0.length) (hn0 : l0.length ≤ 1000000000) (hl1 : l1.length + l.length ≤ 1000000000) (hat : at_ ≤ 1000000000) :
  Calls Try.prog 32 #[.agg #[.slice A0 l0.length c0, .slice A1 l1.length c1, .bool false], .agg #[.int .i64 fr, .int .i64 mn], .int .i64 at_, .slice A3 l.length c3] w fun e w' => ∃ v0 v1, e = .returned (.agg #[v0, v1, .bool false]) ∧
   Kd.V Kd.string 9 w' w.heap.size (fun k => (P0 k ∨ P1 k) ∨ w.heap.size ≤ k) v0 l0 ∧ Kd.V k88 88 w' w.heap.size (fun k => (P0 k ∨ P1 k) ∨ w.heap.size ≤ k) v1 (l1 ++ laidP fr mn at_ 0 l) ∧ Below w.heap.size w w' := by
 obtain ⟨Q, hQ⟩ : ∃ Q : Nat → Prop, Q = fun k => ((P0 k ∨ P1 k) ∧ k < w.heap.size) ∨ w.heap.size + 3 ≤ k := ⟨_, rfl⟩
 have hQne : ∀ k, Q k → k ≠ w.heap.size ∧ k ≠ w.heap.size + 1 ∧ k ≠ w.heap.size + 2 := by
  intro k hk
  rw [hQ] at hk
  rcases hk with ⟨_, hk⟩ | hk <;> omega
 have hQup : ∀ k, w.heap.size + 3 ≤ k → Q k := fun k hk => by rw [hQ]; exact .inr hk
 have hQout : ∀ k, Q k → (P0 k ∨ P1 k) ∨ w.heap.size ≤ k := by
  intro k hk
  rw [hQ] at hk
  rcases hk with ⟨hk, _⟩ | hk
  ·exact .inl hk
  ·exact .inr (by omega)
 have ha0 : Kd.V Kd.string 9 w w.heap.size Q (.slice A0 l0.length c0) l0 := Kd.V_mono (Kd.V_bound hs0) (fun k hk => by rw [hQ]; exact .inl ⟨.inl hk.1, hk.2⟩)
 have ha1 : Kd.V k88 88 w w.heap.size Q (.slice A1 l1.length c1) l1 := Kd.V_mono (Kd.V_bound hs1) (fun k hk => by rw [hQ]; exact .inl ⟨.inr hk.1, hk.2⟩)
 obtain ⟨W1, hW1⟩ : ∃ W1, W1 = ((w.alloc (.cells #[.slice A0 l0.length c0, .slice A1 l1.length c1, .bool false] 25)).alloc (.cells #[.int .i64 fr, .int .i64 mn] 27)).alloc (.cells #[.slice none 0 0, .slice none 0 0, .bool false] 25) := ⟨_, rfl⟩
 have hx0 := Bx2.new w (.slice A0 l0.length c0) (.slice A1 l1.length c1) (.bool false) fr mn
 obtain ⟨W2, hW2⟩ : ∃ W2, W2 = (w.alloc (.cells #[.slice A0 l0.length c0, .slice A1 l1.length c1, .bool false] 25)).alloc (.cells #[.int .i64 fr, .int .i64 mn] 27) := ⟨_, rfl⟩
 have hz2 : W2.heap.size = w.heap.size + 2 := by rw [hW2, World.size_alloc, World.size_alloc]
 rw [← hW2] at hx0 hW1
 have b3 := (Below.refl W2.heap.size W2).alloc (Nat.le_refl _) (.cells #[.slice none 0 0, .slice none 0 0, .bool false] 25)
 rw [← hW1] at b3
 have hx := hx0.step b3
 have hs : LayS w W1 Q fr mn l0 (l1 ++ laidP fr mn at_ 0 (l.take 0)) (.slice A0 l0.length c0) (.slice A1 l1.length c1) :=
  ⟨hx.d, hx.r, by rw [← hz2, hW1]; exact heap_alloc_new W2 _, Kd.V_step ha0 (fun k _ hk => hx.b.block k hk), by rw [List.take_zero]; unfold laidP; rw [List.append_nil]; exact Kd.V_step ha1 (fun k _ hk => hx.b.block k hk), hx.b⟩
 have hz1 : w.heap.size + 3 ≤ W1.heap.size := by rw [hW1, World.size_alloc, hz2]; omega
 have HS1 := Lib.hid hs; have HZ1 := Lib.hid hz1
 have HQ1 := Lib.hid hQne; have HQ2 := Lib.hid hQup; have HQ3 := Lib.hid hQout; have HR := Lib.hid hr; have HSZ := Lib.hid hsz; have HW1 := Lib.hid hW1; have HW2 := Lib.hid hW2
 clear hs0 hs1 hr hsz hQ hQne hQup hQout ha0 ha1 hx0 hx b3 hs hz1 hz2 hW1 hW2
 go_enter Try.func32, Try.ntmps32
 go_wp2_with fail
 rw [← HW2.out, ← HW1.out]
 go_loopg [13] l.length (fun gk v13 wx => ∃ i : Nat, i + gk = l.length ∧ v13 = .int .i64 i ∧ Hid (∃ v0 v1, LayS w wx Q fr mn l0 (l1 ++ laidP fr mn at_ 0 (l.take i)) v0 v1) ∧ Hid (w.heap.size + 3 ≤ wx.heap.size))
 case atStart => exact ⟨0, by omega, rfl, Lib.hid ⟨_, _, HS1.out⟩, HZ1⟩
 case round =>
  clear HS1 HZ1
  obtain ⟨i, hig, rfl, HI, HZ⟩ := hrel
  obtain ⟨u0, u1, hs⟩ := HI.out
  obtain ⟨B0, d0, rfl⟩ := Kd.V_slice hs.v0
  obtain ⟨B1, d1, rfl⟩ := Kd.V_slice hs.v1
  cases gk with
  | zero =>
   obtain rfl : i = l.length := by omega
   rw [List.take_of_length_le (Nat.le_refl _)] at hs
   have HS := Lib.hid hs
   have hiz : decide ((l.length : Int) < (l.length : Int)) = false := decide_eq_false (by omega)
   have hizn : decide (l.length < l.length) = false := decide_eq_false (by omega)
   clear hig hs HI
   have q0 := HS.out.c0; have q1 := HS.out.c1; have q2 := HS.out.c2
   have p0 := HS.out.p0; have p1 := HS.out.p1; have p2 := HS.out.p2
   have g0 := HS.out.g0; have g1 := HS.out.g1; have g2 := HS.out.g2
   go_wp2_with fail
   refine bodyPost_ret (v := .agg #[.slice B0 l0.length d0, .slice B1 (l1 ++ laidP fr mn at_ 0 l).length d1, .bool false]) (by simp [results, Try.results32, go_sem, p0, p1, p2]) rfl ⟨_, _, rfl, ?_, ?_, ?_⟩
   ·exact Kd.V_mono (Kd.V_far (Kd.V_far (Kd.V_far HS.out.v0 (fun k hk => (HQ1.out k hk).2.2) _) (fun k hk => (HQ1.out k hk).2.2) _) (fun k hk => (HQ1.out k hk).2.2) _) HQ3.out
   ·exact Kd.V_mono (Kd.V_far (Kd.V_far (Kd.V_far HS.out.v1 (fun k hk => (HQ1.out k hk).2.2) _) (fun k hk => (HQ1.out k hk).2.2) _) (fun k hk => (HQ1.out k hk).2.2) _) HQ3.out
   ·exact ((HS.out.b.setCell (p := ⟨w.heap.size + 1 + 1, 0, none⟩) (by show w.heap.size ≤ w.heap.size + 1 + 1; omega) _).setCell (p := ⟨w.heap.size + 1 + 1, 1, none⟩) (by show w.heap.size ≤ w.heap.size + 1 + 1; omega) _).setCell (p := ⟨w.heap.size + 1 + 1, 2, none⟩) (by show w.heap.size ≤ w.heap.size + 1 + 1; omega) _
  | succ g =>
   have hi : i < l.length := by omega
   have hiz : decide ((i : Int) < (l.length : Int)) = true := decide_eq_true (by omega)
   have hizn : decide (i < l.length) = true := decide_eq_true (by omega)
   obtain ⟨ad, hA, hcell⟩ := HR.out.at_ i hi
   subst hA
   replace hcell := (hs.b.cell (World.block_lt_of_cell? w _ hcell)).trans hcell
   obtain ⟨m, hm2⟩ : ∃ m, m = (at_ + i) % mn := ⟨_, rfl⟩
   have hml : m < mn := by rw [hm2]; exact Nat.mod_lt _ (by omega)
   have hrem : Int.tmod ((at_ : Int) + (i : Int)) (mn : Int) = (m : Int) := by
    rw [show (at_ : Int) + (i : Int) = ((at_ + i : Nat) : Int) by omega, hm2]; rfl
   have hsn : l1 ++ laidP fr mn at_ 0 (l.take (i + 1)) = (l1 ++ laidP fr mn at_ 0 (l.take i)) ++ [⟨((fr + m : Nat) : Int), fillS l[i]⟩] := by
    rw [List.take_succ_eq_append_getElem hi, laidP_snoc, Nat.zero_add, List.length_take, Nat.min_eq_left (by omega), ← hm2, List.append_assoc]
   have hsx := HSZ.out _ (List.getElem_mem hi)
   have hLl : (l1 ++ laidP fr mn at_ 0 (l.take i)).length ≤ 1000000000 := by rw [List.length_append, laidP_len, List.length_take, Nat.min_eq_left (by omega)]; omega
   obtain ⟨LL, hLL⟩ : ∃ LL, LL = l1 ++ laidP fr mn at_ 0 (l.take i) := ⟨_, rfl⟩
   rw [← hLL] at hs hsn hLl
   have HSN := Lib.hid hsn
   have hww : w.heap.size + 3 ≤ wr.drew.heap.size := HZ.out
   have HS := Lib.hid hs.drew
   clear hsn hLL hm2 HI
   generalize l[i] = sx at *
   have hw1 : wrap64 ((fr : Int) + (m : Int)) = (fr : Int) + (m : Int) := w64 (by omega) (by omega)
   have hwr : ∀ W, LayS w W Q fr mn l0 LL (.slice B0 l0.length d0) (.slice B1 LL.length d1) → w.heap.size + 3 ≤ W.heap.size → Calls Try.prog 50 #[.agg #[.slice B0 l0.length d0, .slice B1 LL.length d1, .bool false], .int .i64 (wrap64 ((fr : Int) + (m : Int))), .string sx] W fun e w' =>
     ∃ v0 v1, e = .returned (.tuple #[.agg #[v0, v1, .bool false], .int .i64 0]) ∧ LayS w w' Q fr mn l0 LL (.slice B0 l0.length d0) (.slice B1 LL.length d1) ∧ w.heap.size + 3 ≤ w'.heap.size ∧ Kd.V Kd.string 9 w' w.heap.size Q v0 l0 ∧ Kd.V k88 88 w' w.heap.size Q v1 (LL ++ [⟨((fr + m : Nat) : Int), fillS sx⟩]) := by
    intro W hW hz
    rw [hw1]
    clear hw1
    have hwf : disk_Write.f l0 LL false ((fr : Int) + (m : Int)) sx = some (l0, LL ++ [⟨((fr + m : Nat) : Int), fillS sx⟩], false, 0) := by
     unfold disk_Write.f
     rw [if_pos hLl]
     unfold writeR
     rw [if_neg (by decide), if_neg (by omega), if_neg (by omega)]
     rfl
    refine (disk_Write.calls Q B0 d0 l0 Q B1 d1 LL false _ sx _ _ _ _ W hW.v0 hW.v1 hwf).mono ?_
    rintro e w4 ⟨v0, v1, rfl, h0, h1, hb⟩
    have hq : ∀ k, ((Q k ∨ Q k) ∨ W.heap.size ≤ k) → Q k := by
     rintro k ((hk | hk) | hk)
     ·exact hk
     ·exact hk
     ·exact HQ2.out k (by omega)
    exact ⟨v0, v1, rfl, hW.step hb, Nat.le_trans hz hb.size, Kd.V_mono h0 hq, Kd.V_mono h1 hq⟩
   have HWR := Lib.hid (fun W h => hwr W h)
   clear hwr hs hw1
   have hlz2 : ((mn : Int) == 0) = false := beq_eq_false_iff_ne.2 (by omega)
   have hlz : ¬ ((mn : Int) = 0) := by omega
   have hmz : ¬ mn = 0 := by omega
   have hw0 : wrap64 ((at_ : Int) + (i : Int)) = (at_ : Int) + (i : Int) := w64 (by omega) (by omega)
   clear hLl
   go_wp2_with fail
   refine start_ (n := 16) (S := fun w' => w'.cell? ⟨w.heap.size, 0, none⟩ = some (.slice B0 l0.length d0) ∧ w'.cell? ⟨w.heap.size, 1, none⟩ = some (.slice B1 LL.length d1) ∧ w'.cell? ⟨w.heap.size, 2, none⟩ = some (.bool false) ∧ w'.cell? ⟨w.heap.size + 1, 0, none⟩ = some (.int .i64 (fr : Int)) ∧ w'.cell? ⟨w.heap.size + 1, 1, none⟩ = some (.int .i64 (mn : Int))) (ds := [15]) #[false, false, false, false, false, false, false, false, false, false, false, false, false, false, false, false] (by kernel_rfl) rfl rfl ⟨HS.out.c0, HS.out.c1, HS.out.c2, HS.out.r0, HS.out.r1⟩ (fun hHeld => ?_)
   refine pure_ (i := 1) (N := some 20) (v := ?_) (a' := ?_) #[false, true, false, false, false, false, false, false, false, false, false, false, false, false, false, false] rfl rfl (by kernel_rfl) (fun _ _ _ h => h) (Or.inl ⟨by rfl, ?_⟩) ?_ ?_
   (rotate_left; · (intro w'; go_simp; with_reducible rfl))
   (rotate_left; · (simp only [Act.put, zqk, zql, zqm, i64_w, i32_w]; rfl))
   refine pure_ (i := 3) (N := some 22) (v := ?_) (a' := ?_) #[false, true, false, true, false, false, false, false, false, false, false, false, false, false, false, false] rfl rfl (by kernel_rfl) (fun _ _ _ h => h) (Or.inl ⟨by rfl, ?_⟩) ?_ ?_
   (rotate_left; · (intro w'; go_simp; with_reducible rfl))
   (rotate_left; · (simp only [Act.put, zqk, zql, zqm, i64_w, i32_w]; rfl))
   refine pure_ (i := 4) (N := some 23) (v := ?_) (a' := ?_) #[false, true, false, true, true, false, false, false, false, false, false, false, false, false, false, false] rfl rfl (by kernel_rfl) (fun _ _ _ h => h) (Or.inl ⟨by rfl, ?_⟩) ?_ ?_
   (rotate_left; · (intro w'; go_simp; with_reducible rfl))
   (rotate_left; · (simp only [Act.put, zqk, zql, zqm, i64_w, i32_w]; rfl))
   refine pure_ (i := 5) (N := some 24) (v := ?_) (a' := ?_) #[false, true, false, true, true, true, false, false, false, false, false, false, false, false, false, false] rfl rfl (by kernel_rfl) (fun _ _ _ h => h) (Or.inl ⟨by rfl, ?_⟩) ?_ ?_
   (rotate_left; · (intro w'; go_simp; with_reducible rfl))
   (rotate_left; · (simp only [Act.put, zqk, zql, zqm, i64_w, i32_w]; rfl))
   refine pure_ (i := 6) (N := some 25) (v := ?_) (a' := ?_) #[false, true, false, true, true, true, true, false, false, false, false, false, false, false, false, false] rfl rfl (by kernel_rfl) (fun _ _ _ h => h) (Or.inl ⟨by rfl, ?_⟩) ?_ ?_
   (rotate_left; · (intro w'; go_simp; with_reducible rfl))
   (rotate_left; · (simp only [Act.put, zqk, zql, zqm, i64_w, i32_w]; rfl))
   refine pure_ (i := 10) (N := some 29) (v := ?_) (a' := ?_) #[false, true, false, true, true, true, true, false, false, false, true, false, false, false, false, false] rfl rfl (by kernel_rfl) (fun _ _ _ h => h) (Or.inl ⟨by rfl, ?_⟩) ?_ ?_
   (rotate_left; · (intro w'; go_simp; with_reducible rfl))
   (rotate_left; · (simp only [Act.put, zqk, zql, zqm, i64_w, i32_w]; rfl))
   refine take_ (i := 0) (N := some 19) (v := ?_) (a' := ?_) #[true, true, false, true, true, true, true, false, false, false, true, false, false, false, false, false] rfl rfl (by kernel_rfl) (fun _ _ _ h => h) (Or.inl ⟨by rfl, ?_⟩) hHeld ?_ ?_
   rotate_left
   ·rintro w' ⟨s0, s1, s2, s3, s4⟩
    go_simp
    with_reducible rfl
   (rotate_left; · (simp only [Act.put, zqk, zql, zqm, i64_w, i32_w]; rfl))
   refine take_ (i := 2) (N := some 21) (v := ?_) (a' := ?_) #[true, true, true, true, true, true, true, false, false, false, true, false, false, false, false, false] rfl rfl (by kernel_rfl) (fun _ _ _ h => h) (Or.inl ⟨by rfl, ?_⟩) hHeld ?_ ?_
   rotate_left
   ·rintro w' ⟨s0, s1, s2, s3, s4⟩
    go_simp
    with_reducible rfl
   (rotate_left; · (simp only [Act.put, zqk, zql, zqm, i64_w, i32_w]; rfl))
   refine take_ (i := 7) (N := some 26) (v := ?_) (a' := ?_) #[true, true, true, true, true, true, true, true, false, false, true, false, false, false, false, false] rfl rfl (by kernel_rfl) (fun _ _ _ h => h) (Or.inl ⟨by rfl, ?_⟩) hHeld ?_ ?_
   rotate_left
   ·rintro w' ⟨s0, s1, s2, s3, s4⟩
    go_simp
    with_reducible rfl
   (rotate_left; · (simp only [Act.put, zqk, zql, zqm, i64_w, i32_w]; rfl))
   refine pure_ (i := 8) (N := some 27) (v := ?_) (a' := ?_) #[true, true, true, true, true, true, true, true, true, false, true, false, false, false, false, false] rfl rfl (by kernel_rfl) (fun _ _ _ h => h) (Or.inl ⟨by rfl, ?_⟩) ?_ ?_
   (rotate_left; · (intro w'; go_simp; with_reducible rfl))
   (rotate_left; · (simp only [Act.put, zqk, zql, zqm, i64_w, i32_w]; rfl))
   refine pure_ (i := 9) (N := some 28) (v := ?_) (a' := ?_) #[true, true, true, true, true, true, true, true, true, true, true, false, false, false, false, false] rfl rfl (by kernel_rfl) (fun _ _ _ h => h) (Or.inl ⟨by rfl, ?_⟩) ?_ ?_
   (rotate_left; · (intro w'; go_simp; with_reducible rfl))
   (rotate_left; · (simp only [Act.put, zqk, zql, zqm, i64_w, i32_w]; rfl))
   refine one_ (i := 11) (N := some 30) #[true, true, true, true, true, true, true, true, true, true, true, true, false, false, false, false] rfl rfl (by kernel_rfl) (by decide) (fun K hK => ?_)
   refine goes_ Try.func50 (by kernel_rfl) rfl #[.agg #[.slice B0 l0.length d0, .slice B1 LL.length d1, .bool false], .int .i64 (wrap64 ((fr : Int) + (m : Int))), .string sx] (by rfl) rfl rfl (by simp only [List.map_toArray, List.map_cons, List.map_nil]; rfl) ?_
   with_reducible refine ((HWR.out _ HS.out hww)).mono ?_
   rintro e w4 ⟨v0, v1, rfl, hs4, hz4, hv0, hv1⟩
   refine ⟨_, rfl, ?_⟩
   obtain ⟨B2, d2, rfl⟩ := Kd.V_slice hv0
   obtain ⟨B3, d3, rfl⟩ := Kd.V_slice hv1
   have HS4 := Lib.hid hs4
   have HZ4 := Lib.hid hz4
   have HV0 := Lib.hid hv0
   have HV1 := Lib.hid hv1
   have y0 := hs4.f0
   have y1 := hs4.f1
   have y2 := hs4.f2
   clear hs4 hz4 hv0 hv1
   refine hK.out _ _ ⟨HS4.out.c0, HS4.out.c1, HS4.out.c2, HS4.out.r0, HS4.out.r1⟩ (fun hHeld => ?_)
   clear hK K
   refine norm_ (a' := ?_) ?_ ?_
   rotate_left
   ·show Act.put _ (some 30) _ = _
    simp only [Act.put, zqk, zql, zqm, i64_w, i32_w]
    rfl
   refine pure_ (i := 12) (N := some 18) (v := ?_) (a' := ?_) #[true, true, true, true, true, true, true, true, true, true, true, true, true, false, false, false] rfl rfl (by kernel_rfl) (fun _ _ _ h => h) (Or.inl ⟨by rfl, ?_⟩) ?_ ?_
   (rotate_left; · (intro w'; go_simp; with_reducible rfl))
   (rotate_left; · (simp only [Act.put, zqk, zql, zqm, i64_w, i32_w]; rfl))
   refine pure_ (i := 13) (N := some 31) (v := ?_) (a' := ?_) #[true, true, true, true, true, true, true, true, true, true, true, true, true, true, false, false] rfl rfl (by kernel_rfl) (fun _ _ _ h => h) (Or.inl ⟨by rfl, ?_⟩) ?_ ?_
   (rotate_left; · (intro w'; go_simp; with_reducible rfl))
   (rotate_left; · (simp only [Act.put, zqk, zql, zqm, i64_w, i32_w]; rfl))
   refine pure_ (i := 14) (N := some 32) (v := ?_) (a' := ?_) #[true, true, true, true, true, true, true, true, true, true, true, true, true, true, true, false] rfl rfl (by kernel_rfl) (fun _ _ _ h => h) (Or.inl ⟨by rfl, ?_⟩) ?_ ?_
   (rotate_left; · (intro w'; go_simp; with_reducible rfl))
   (rotate_left; · (simp only [Act.put, zqk, zql, zqm, i64_w, i32_w]; rfl))
   refine last_ (i := 15) (N := none) #[true, true, true, true, true, true, true, true, true, true, true, true, true, true, true, true] rfl rfl (by kernel_rfl) (by decide) (fun K hK => ?_)
   have z0 := HS4.out.c0
   have z1 := HS4.out.c1
   have z2 := HS4.out.c2
   refine skip_ (w1 := ?_) (by rfl) rfl ?_ ?_
   rotate_left
   ·go_simp
    rfl
   refine hK.out _ _ ?_
   clear hK K
   refine done_ (by kernel_rfl) ?_
   go_wp2_with fail
   go_roundg g
   case measure => omega
   case rel =>
    refine ⟨i + 1, by omega, by congr 1, Lib.hid ⟨.slice B2 l0.length d2, .slice B3 (LL.length + 1) d3, ?_⟩, Lib.hid ?_⟩
    ·rw [HSN.out]
     have hv1 := HV1.out
     rw [List.length_append] at hv1
     exact HS4.out.set (fun k hk => (HQ1.out k hk).1) HV0.out hv1
    ·have hz4 := HZ4.out
     simp [World.setCell]
     exact hz4
end Go.Proofs.Ytcbfnfggnocndaa
end

section
namespace Go.Proofs.Ytcbfnfggnocndaa
open Go.RowKit Go.Shelf Go.Proofs.Ytcbfnfggnocndaa.Q Go.Proofs.YtcbfnfggnocndaaW.PrintWords Go.Proofs.YtcbfnfggnocndaaW.PrintLast Go.Proofs.YtcbfnfggnocndaaW.PrintMore Math
def DskBox (W : World) (b : Nat) (x y z : Value) : Prop := W.heap[b]? = some (.cells #[x, y, z] 25 (0, 0))
theorem DskBox.facts {W : World} {b : Nat} {x y z : Value} (h : DskBox W b x y z) :
  W.cell? ⟨b, 0, none⟩ = some x ∧ W.cell? ⟨b, 1, none⟩ = some y ∧ W.cell? ⟨b, 2, none⟩ = some z ∧ W.frozen? ⟨b, 0, none⟩ = false ∧ W.frozen? ⟨b, 1, none⟩ = false ∧ W.frozen? ⟨b, 2, none⟩ = false := by
 refine ⟨by rw [blk_cell h]; rfl, by rw [blk_cell h]; rfl, by rw [blk_cell h]; rfl, zqi h 0, zqi h 1, zqi h 2⟩
theorem ap5_new (w : World) (d0 d1 d2 : Value) (f m a u fi ma : Int) (W : World) (hW : W = ((((w.alloc (.cells #[d0, d1, d2] 25)).alloc (.cells #[.int .i64 f, .int .i64 m] 27)).alloc (.cells #[.int .i64 a, .int .i64 u, .int .u64 fi, .int .i64 ma] 30)).alloc (.cells #[.slice none 0 0, .slice none 0 0, .bool false] 25)).alloc (.cells #[.int .i64 0, .int .i64 0, .int .u64 0, .int .i64 0] 30)) :
  Bx2 w W d0 d1 d2 f m ∧ BxL w W a u fi ma ∧ DskBox W (w.heap.size + 1 + 1 + 1) (.slice none 0 0) (.slice none 0 0) (.bool false) ∧ LogBox W (w.heap.size + 1 + 1 + 1 + 1) (.int .i64 0) (.int .i64 0) (.int .u64 0) (.int .i64 0) ∧ W.heap.size = w.heap.size + 5 := by
 obtain ⟨W1, hW1⟩ : ∃ W1, W1 = ((w.alloc (.cells #[d0, d1, d2] 25)).alloc (.cells #[.int .i64 f, .int .i64 m] 27)).alloc (.cells #[.int .i64 a, .int .i64 u, .int .u64 fi, .int .i64 ma] 30) := ⟨_, rfl⟩
 obtain ⟨hx, hl, hz⟩ := bx3_new w _ _ _ _ _ _ _ _ _ W1 hW1
 rw [← hW1] at hW
 obtain ⟨W2, hW2⟩ : ∃ W2, W2 = W1.alloc (.cells #[.slice none 0 0, .slice none 0 0, .bool false] 25) := ⟨_, rfl⟩
 rw [← hW2] at hW
 have b2 := (Below.refl W1.heap.size W1).alloc (Nat.le_refl _) (.cells #[.slice none 0 0, .slice none 0 0, .bool false] 25)
 rw [← hW2] at b2
 have z2 : W2.heap.size = w.heap.size + 4 := by rw [hW2, World.size_alloc, hz]
 have b3 := (Below.refl W2.heap.size W2).alloc (Nat.le_refl _) (.cells #[.int .i64 0, .int .i64 0, .int .u64 0, .int .i64 0] 30)
 rw [← hW] at b3
 have hd : DskBox W2 (w.heap.size + 1 + 1 + 1) (.slice none 0 0) (.slice none 0 0) (.bool false) := by unfold DskBox; rw [hW2, show w.heap.size + 1 + 1 + 1 = W1.heap.size by omega]; exact heap_alloc_new W1 _
 refine ⟨(hx.step b2).step b3, (hl.step b2).step b3, (b3.block _ (blk_lt hd)).trans hd, ?_, by rw [hW, World.size_alloc, z2]⟩
 unfold LogBox; rw [hW, show w.heap.size + 1 + 1 + 1 + 1 = W2.heap.size by omega]; exact heap_alloc_new W2 _
theorem below7 {w W : World} {x0 x1 x2 y0 y1 y2 y3 : Value} (h : Below w.heap.size w W) : Below w.heap.size w (((((((W.setCell ⟨w.heap.size + 1 + 1 + 1, 0, none⟩ x0).setCell ⟨w.heap.size + 1 + 1 + 1, 1, none⟩ x1).setCell ⟨w.heap.size + 1 + 1 + 1, 2, none⟩ x2).setCell ⟨w.heap.size + 1 + 1 + 1 + 1, 0, none⟩ y0).setCell ⟨w.heap.size + 1 + 1 + 1 + 1, 1, none⟩ y1).setCell ⟨w.heap.size + 1 + 1 + 1 + 1, 2, none⟩ y2).setCell ⟨w.heap.size + 1 + 1 + 1 + 1, 3, none⟩ y3).drew :=
 have k1 : w.heap.size ≤ w.heap.size + 1 + 1 + 1 := by omega
 have k2 : w.heap.size ≤ w.heap.size + 1 + 1 + 1 + 1 := by omega
 below_drew (((((((h.setCell (p := ⟨w.heap.size + 1 + 1 + 1, 0, none⟩) k1 _).setCell (p := ⟨w.heap.size + 1 + 1 + 1, 1, none⟩) k1 _).setCell (p := ⟨w.heap.size + 1 + 1 + 1, 2, none⟩) k1 _).setCell (p := ⟨w.heap.size + 1 + 1 + 1 + 1, 0, none⟩) k2 _).setCell (p := ⟨w.heap.size + 1 + 1 + 1 + 1, 1, none⟩) k2 _).setCell (p := ⟨w.heap.size + 1 + 1 + 1 + 1, 2, none⟩) k2 _).setCell (p := ⟨w.heap.size + 1 + 1 + 1 + 1, 3, none⟩) k2 _)
theorem need_V (s : ByteArray) (k : Nat) (hk : 9 ≤ k) (hs : s.size ≤ 10000000) : V.redo_Need.f k s = some ((needN s : Nat) : Int) := by
 unfold V.redo_Need.f
 have hr := recS_size 0 s
 have h10 := numS_size10 (show s.size < 18446744073709551616 by omega)
 rw [bs (show V.redo_Record.f k 0 s = some (recS 0 s) from record_eq 0 k s hk (by omega)), bs (sectors_eq (recS 0 s).size (by omega))]
 rfl
set_option maxHeartbeats 4000000 in
set_option maxRecDepth 1000000 in
theorem append_off (A0 : Option Addr) (c0 n0 : Nat) (A1 : Option Addr) (c1 n1 : Nat) (fr mn at_ used first many : Int) (s : ByteArray) (w : World) :
  Calls Try.prog 13 #[.agg #[.slice A0 n0 c0, .slice A1 n1 c1, .bool true], .agg #[.int .i64 fr, .int .i64 mn], .agg #[.int .i64 at_, .int .i64 used, .int .u64 first, .int .i64 many], .string s] w fun e w' =>
   e = .returned (.tuple #[.agg #[.slice A0 n0 c0, .slice A1 n1 c1, .bool true], .agg #[.int .i64 at_, .int .i64 used, .int .u64 first, .int .i64 many], .int .i64 19]) ∧ Below w.heap.size w w' := by
 obtain ⟨W1, hW1⟩ : ∃ W1, W1 = ((((w.alloc (.cells #[.slice A0 n0 c0, .slice A1 n1 c1, .bool true] 25)).alloc (.cells #[.int .i64 fr, .int .i64 mn] 27)).alloc (.cells #[.int .i64 at_, .int .i64 used, .int .u64 first, .int .i64 many] 30)).alloc (.cells #[.slice none 0 0, .slice none 0 0, .bool false] 25)).alloc (.cells #[.int .i64 0, .int .i64 0, .int .u64 0, .int .i64 0] 30) := ⟨_, rfl⟩
 obtain ⟨hx, hl, hd, hg, hz⟩ := ap5_new w _ _ _ _ _ _ _ _ _ W1 hW1
 have HX := Lib.hid hx; have HL := Lib.hid hl; have HD := Lib.hid hd; have HG := Lib.hid hg; have HW1 := Lib.hid hW1
 clear hx hl hd hg hz hW1
 go_enter Try.func13, Try.ntmps13
 go_wp2_with fail
 rw [← HW1.out]
 obtain ⟨x0, x1, x2, x3, x4, x5⟩ := HD.out.facts
 obtain ⟨z0, z1, z2, z3, y0, y1, y2, y3⟩ := HG.out.facts
 have c0 := HX.out.c0; have c1 := HX.out.c1; have c2 := HX.out.c2
 have q0 := HL.out.l0; have q1 := HL.out.l1; have q2 := HL.out.l2; have q3 := HL.out.l3
 go_region
 go_wp2_with fail
 exact bodyPost_ret (v := .tuple #[.agg #[.slice A0 n0 _, .slice A1 n1 _, .bool true], .agg #[.int .i64 at_, .int .i64 used, .int .u64 first, .int .i64 many], .int .i64 19]) (by simp [results, Try.results13, go_sem, x0, x1, x2, z0, z1, z2, z3]) rfl ⟨rfl, below7 HX.out.b⟩
set_option maxHeartbeats 4000000 in
set_option maxRecDepth 1000000 in
theorem append_big (A0 : Option Addr) (c0 n0 : Nat) (A1 : Option Addr) (c1 n1 : Nat) (fr mn at_ used first many : Int) (s : ByteArray) (w : World) (h : 4096 < s.size) :
  Calls Try.prog 13 #[.agg #[.slice A0 n0 c0, .slice A1 n1 c1, .bool false], .agg #[.int .i64 fr, .int .i64 mn], .agg #[.int .i64 at_, .int .i64 used, .int .u64 first, .int .i64 many], .string s] w fun e w' =>
   e = .returned (.tuple #[.agg #[.slice A0 n0 c0, .slice A1 n1 c1, .bool false], .agg #[.int .i64 at_, .int .i64 used, .int .u64 first, .int .i64 many], .int .i64 5]) ∧ Below w.heap.size w w' := by
 obtain ⟨W1, hW1⟩ : ∃ W1, W1 = ((((w.alloc (.cells #[.slice A0 n0 c0, .slice A1 n1 c1, .bool false] 25)).alloc (.cells #[.int .i64 fr, .int .i64 mn] 27)).alloc (.cells #[.int .i64 at_, .int .i64 used, .int .u64 first, .int .i64 many] 30)).alloc (.cells #[.slice none 0 0, .slice none 0 0, .bool false] 25)).alloc (.cells #[.int .i64 0, .int .i64 0, .int .u64 0, .int .i64 0] 30) := ⟨_, rfl⟩
 obtain ⟨hx, hl, hd, hg, hz⟩ := ap5_new w _ _ _ _ _ _ _ _ _ W1 hW1
 have HX := Lib.hid hx; have HL := Lib.hid hl; have HD := Lib.hid hd; have HG := Lib.hid hg; have HW1 := Lib.hid hW1
 have g1 : decide ((4096 : Int) < (s.size : Int)) = true := decide_eq_true (by omega)
 have g1n : decide (4096 < s.size) = true := decide_eq_true h
 clear hx hl hd hg hz hW1
 go_enter Try.func13, Try.ntmps13
 go_wp2_with fail
 rw [← HW1.out]
 obtain ⟨x0, x1, x2, x3, x4, x5⟩ := HD.out.facts
 obtain ⟨z0, z1, z2, z3, y0, y1, y2, y3⟩ := HG.out.facts
 have c0 := HX.out.c0; have c1 := HX.out.c1; have c2 := HX.out.c2
 have q0 := HL.out.l0; have q1 := HL.out.l1; have q2 := HL.out.l2; have q3 := HL.out.l3
 go_region
 go_wp2_with fail
 exact bodyPost_ret (v := .tuple #[.agg #[.slice A0 n0 _, .slice A1 n1 _, .bool false], .agg #[.int .i64 at_, .int .i64 used, .int .u64 first, .int .i64 many], .int .i64 5]) (by simp [results, Try.results13, go_sem, x0, x1, x2, z0, z1, z2, z3]) rfl ⟨rfl, below7 HX.out.b⟩
set_option maxHeartbeats 4000000 in
set_option maxRecDepth 1000000 in
theorem append_room (A0 : Option Addr) (c0 n0 : Nat) (A1 : Option Addr) (c1 n1 : Nat) (fr mn at_ used first many : Int) (s : ByteArray) (w : World) (h : s.size ≤ 4096) (hr : mn < wrap64 (used + (needN s : Int))) :
  Calls Try.prog 13 #[.agg #[.slice A0 n0 c0, .slice A1 n1 c1, .bool false], .agg #[.int .i64 fr, .int .i64 mn], .agg #[.int .i64 at_, .int .i64 used, .int .u64 first, .int .i64 many], .string s] w fun e w' =>
   e = .returned (.tuple #[.agg #[.slice A0 n0 c0, .slice A1 n1 c1, .bool false], .agg #[.int .i64 at_, .int .i64 used, .int .u64 first, .int .i64 many], .int .i64 12]) ∧ Below w.heap.size w w' := by
 obtain ⟨W1, hW1⟩ : ∃ W1, W1 = ((((w.alloc (.cells #[.slice A0 n0 c0, .slice A1 n1 c1, .bool false] 25)).alloc (.cells #[.int .i64 fr, .int .i64 mn] 27)).alloc (.cells #[.int .i64 at_, .int .i64 used, .int .u64 first, .int .i64 many] 30)).alloc (.cells #[.slice none 0 0, .slice none 0 0, .bool false] 25)).alloc (.cells #[.int .i64 0, .int .i64 0, .int .u64 0, .int .i64 0] 30) := ⟨_, rfl⟩
 obtain ⟨hx, hl, hd, hg, hz⟩ := ap5_new w _ _ _ _ _ _ _ _ _ W1 hW1
 have HX := Lib.hid hx; have HL := Lib.hid hl; have HD := Lib.hid hd; have HG := Lib.hid hg; have HW1 := Lib.hid hW1
 have g1 : decide ((4096 : Int) < (s.size : Int)) = false := decide_eq_false (by omega)
 have g1n : decide (4096 < s.size) = false := decide_eq_false (by omega)
 have g2 : decide (mn < wrap64 (used + (needN s : Int))) = true := decide_eq_true hr
 have HNC := Lib.hid (V.redo_Need.calls 9 s _ W1 (need_V s 9 (Nat.le_refl _) (by omega)))
 generalize needN s = nd at *
 clear hr
 clear hx hl hd hg hz hW1
 go_enter Try.func13, Try.ntmps13
 go_wp2_with fail
 rw [← HW1.out]
 refine HNC.out.mono ?_
 rintro e w2 ⟨rfl, hb2⟩
 have HX2 := Lib.hid (HX.out.step hb2); have HL2 := Lib.hid (HL.out.step hb2); have HD2 : Hid (DskBox w2 _ _ _ _) := Lib.hid ((hb2.block _ (blk_lt HD.out)).trans HD.out); have HG2 : Hid (LogBox w2 _ _ _ _ _) := Lib.hid ((hb2.block _ (blk_lt HG.out)).trans HG.out)
 have r1 := HX2.out.r1; have p1 := HL2.out.l1
 clear hb2 HX HL HD HG HNC
 go_wp2_with fail
 clear r1 p1
 obtain ⟨x0, x1, x2, x3, x4, x5⟩ := HD2.out.facts
 obtain ⟨z0, z1, z2, z3, y0, y1, y2, y3⟩ := HG2.out.facts
 have c0 := HX2.out.c0; have c1 := HX2.out.c1; have c2 := HX2.out.c2
 have q0 := HL2.out.l0; have q1 := HL2.out.l1; have q2 := HL2.out.l2; have q3 := HL2.out.l3
 go_region
 go_wp2_with fail
 exact bodyPost_ret (v := .tuple #[.agg #[.slice A0 n0 _, .slice A1 n1 _, .bool false], .agg #[.int .i64 at_, .int .i64 used, .int .u64 first, .int .i64 many], .int .i64 12]) (by simp [results, Try.results13, go_sem, x0, x1, x2, z0, z1, z2, z3]) rfl ⟨rfl, below7 HX2.out.b⟩
end Go.Proofs.Ytcbfnfggnocndaa
end

section
namespace Go.Proofs.Ytcbfnfggnocndaa
open Go.RowKit Go.Proofs.YtcbfnfggnocndaaW.PrintWords Math
theorem bw_cell (W : World) (e : TypeId) (s : ByteArray) (j : Nat) (hj : j < s.size) : (Lib.bytesWorld W e s).cell? ⟨W.heap.size, j, none⟩ = some (.int .u8 ((s.data.toList.getD j 0).toNat : Int)) := Lib.bytesWorld_cell W e s j hj
end Go.Proofs.Ytcbfnfggnocndaa
end

section
namespace Go.Proofs.Ytcbfnfggnocndaa.Q
open Go.RowKit Go.Shelf Go.Proofs.YtcbfnfggnocndaaW.PrintWords Math
attribute [local go_sem] Oper.semAt_some
set_option maxHeartbeats 1000000 in
theorem chunk_calls (A : Option Addr) (n c : Nat) (w : World) :
    Calls Try.prog 31 #[.slice A n c, .int .i64 64] w fun e w' => e = .returned (.func (.func 49) #[] #[.pointer (some ⟨w.heap.size, 0, none⟩), .pointer (some ⟨w.heap.size + 1, 0, none⟩)]) ∧
      w' = (w.alloc (.cells #[.slice A n c] 71)).alloc (.cells #[.int .i64 64] 3) := by
  go_enter Try.func31, Try.ntmps31
  go_wp2
  go_ret
  exact ⟨rfl, rfl⟩
def pieceV (g N j : Nat) : Value := .slice (some ⟨g, 64 * j, none⟩) (min 64 (N - 64 * j)) (min 64 (N - 64 * j))
set_option maxRecDepth 100000 in
set_option maxHeartbeats 1000000 in
theorem chunk1_in (g N c K : Nat) (hK : K = (N + 63) / 64) (hNc : N ≤ c) (hN : N ≤ 1000000) (n : Nat) (hn : 1 ≤ n) (l Bs Bn n1 R : Nat) (w0 : World) (hn1 : n1 ≤ w0.heap.size)
    (hd : ∀ W, KeepX n1 R w0 W → W.cell? ⟨Bs, 0, none⟩ = some (.slice (some ⟨g, 0, none⟩) N c)) (hd2 : ∀ W, KeepX n1 R w0 W → W.cell? ⟨Bn, 0, none⟩ = some (.int .i64 64))
    (J Jx : List Nat → World → Prop) (W : World) (hW : KeepX n1 R w0 W) (hJ : AbidesFrom W.heap.size J) (hJx : AbidesFrom W.heap.size Jx)
    (hY : ∀ pre x W, J pre W → pre.length < K → YieldAt Fence.wide (n - 1) Try.prog l #[pieceV g N x] W fun e W' =>
      (e = .returned (.bool true) ∧ J (pre ++ [x]) W' ∧ KeepX n1 R W W') ∨ (e = .returned (.bool false) ∧ Jx (pre ++ [x]) W')) (h0 : J [] W) :
    CallsIn Fence.wide n Try.prog 49 #[.func (.yield l) #[] #[], .pointer (some ⟨Bs, 0, none⟩), .pointer (some ⟨Bn, 0, none⟩)] W fun e W' => (∃ v, e = .returned v) ∧
      ((∃ ys, ys = List.range K ∧ J ys W') ∨ (∃ pre, (∃ k, k ≤ K ∧ pre = List.range k) ∧ Jx pre W')) := by
  refine callsIn_of_wp Try.func49 rfl trivial ?_ rfl
  simp only [Try.ntmps49, List.size_toArray, List.length_cons, List.length_nil, Nat.reduceAdd, Nat.reduceSub, Array.replicate_succ, Array.replicate_zero, List.push_toArray, List.append_toArray, List.nil_append, List.cons_append]
  gi_wp2
  gi_loopw [4] (fun i wr => ∃ k : Nat, k ≤ K ∧ i = .int .i64 ((64 * k : Nat) : Int) ∧ J (List.range k) wr ∧ KeepX n1 R w0 wr)
    (fun i _ => 64 * K - (intOf i).toNat)
  case atStart => exact ⟨0, Nat.zero_le _, rfl, h0, hW⟩
  case round =>
    obtain ⟨k, hk, rfl, hJs, hKx⟩ := hrel
    have hq1 := hd wr hKx
    have hq2 := hd2 wr hKx
    by_cases hlt : k < K
    · have hkz : ((64 * k : Nat) : Int) < (N : Int) := by omega
      have hkn : 64 * k < N := by omega
      have hge : (wr.grownBy wr.drew none) := grown_of_below (below_drew (Below.refl _ wr)) none
      have hJd : J (List.range k) wr.drew := hJ _ _ _ none hJs hge (fun r e => by cases e)
      have hKd : KeepX n1 R w0 wr.drew := ⟨hKx.1, hKx.2⟩
      obtain ⟨m, hm⟩ : ∃ m, m = min 64 (N - 64 * k) := ⟨_, rfl⟩
      have hmi : min 64 ((N - 64 * k : Nat) : Int) = (m : Int) := by omega
      have hm1 : m ≤ N - 64 * k := by omega
      have hm2 : 64 * k + m ≤ c := by omega
      have hY2 := hY _ k wr.drew hJd (by rw [List.length_range]; exact hlt)
      unfold pieceV at hY2
      rw [← hm] at hY2
      obtain ⟨fn, tmps, assign, body, hy, hR⟩ := hY2
      have HD := Lib.hid hd; have HD2 := Lib.hid hd2; have HY := Lib.hid hY; have HM := Lib.hid hm
      clear hd hd2 hY hm hJs
      gi_wp2_with fail
      gi_region
      gi_wp2_with fail
      refine hR.mono ?_
      rintro e W3 (⟨rfl, hJ3, hk3⟩ | ⟨rfl, hJx3⟩)
      · have hq3 := HD2.out W3 (hKd.trans hk3)
        gi_wp2_with fail
        clear hmi hR hy
        go_roundw
        case rel => exact ⟨k + 1, by omega, by go_num, by rw [List.range_succ]; exact hJ3, hKd.trans hk3⟩
        case measure => simp [intOf]; omega
      · gi_wp2_with fail
        clear hmi hR hy
        refine bodyPost_ret (results_none rfl _ _ _) rfl ?_
        exact ⟨⟨_, rfl⟩, .inr ⟨_, ⟨k + 1, by omega, (List.range_succ).symm⟩, hJx3⟩⟩
    · have hkK : k = K := by omega
      subst hkK
      have hkz : ¬ ((64 * k : Nat) : Int) < (N : Int) := by omega
      gi_wp2
      go_end0
      exact ⟨⟨_, rfl⟩, .inl (by rw [← hK]; exact hJs)⟩
end Go.Proofs.Ytcbfnfggnocndaa.Q
end
