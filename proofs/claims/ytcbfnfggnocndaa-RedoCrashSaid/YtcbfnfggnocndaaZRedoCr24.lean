import Derived.Test.YtcbfnfggnocndaaZRedoCr23
import Derived.Test.YtcbfnfggnocndaaZRedoCr2
import Derived.Test.YtcbfnfggnocndaaProg
import Derived.Below
import Derived.OwnWalk
import Derived.WalkKit
import Derived.KernelRfl
import Derived.RowKit3
import Derived.Deep.LoopGhost
import Derived.Deep.WholeRow
import Derived.Deep.QuietTactic
import Derived.BigQuiet
import Derived.Lib.Hide
import Derived.Laws.Rows
import Derived.Laws.CopyOwn
import Derived.Laws.ResultCell
import Derived.Outline
import Derived.Test.YtcbfnfggnocndaaZRedoCr1
import Derived.Test.YtcbfnfggnocndaaZRedoCr22
import Derived.Deep.Draws
import Derived.Deep.AppendLies
import Derived.Maps.AppendAt
import Derived.Laws.BytesArg
import Derived.Laws.MakeOwn
import Derived.Laws.OwnMore
import Derived.Deep.OwnRows
import Derived.Tactics
import Derived.Lib.ConvBytes
import Derived.Laws.Slices
import Derived.WideLaws
import Derived.Deep.DeepCutAuto
import Derived.Deep.CutBlock
import Derived.Deep.RegionHeld3
import Derived.Lib.AppendStr
import Derived.ArgAppend
import Derived.Laws.IdiomCopy
import Derived.OrdersHeld
import Derived.Laws.BitsLemmas
import Derived.RowKit
import Derived.Test.YtcbfnfggnocndaaZRedoCr0
import Derived.Test.YtcbfnfggnocndaaZRedoCr3
import Derived.Test.YtcbfnfggnocndaaZRedoCr4
import Derived.Test.YtcbfnfggnocndaaZRedoCr5
import Derived.Test.YtcbfnfggnocndaaZRedoCr6
import Derived.Test.YtcbfnfggnocndaaZRedoCr7
import Derived.Test.YtcbfnfggnocndaaZRedoCr8
import Derived.Test.YtcbfnfggnocndaaZRedoCr9
import Derived.Test.YtcbfnfggnocndaaZRedoCr10
import Derived.Test.YtcbfnfggnocndaaZRedoCr11
import Derived.Test.YtcbfnfggnocndaaZRedoCr12
import Derived.Test.YtcbfnfggnocndaaZRedoCr13
import Derived.Test.YtcbfnfggnocndaaZRedoCr14
import Derived.Test.YtcbfnfggnocndaaZRedoCr15
import Derived.Test.YtcbfnfggnocndaaZRedoCr16
import Derived.Test.YtcbfnfggnocndaaZRedoCr17
import Derived.Test.YtcbfnfggnocndaaZRedoCr18
import Derived.Test.YtcbfnfggnocndaaZRedoCr19
import Derived.Test.YtcbfnfggnocndaaZRedoCr20
import Derived.Test.YtcbfnfggnocndaaZRedoCr21
import Derived.Test.YtcbfnfggnocndaaZRedoCrA
set_option linter.unusedVariables false
set_option linter.unusedSimpArgs false
section
namespace Go.Proofs.Ytcbfnfggnocndaa
open Go.RowKit Go.Shelf Go.Proofs.Ytcbfnfggnocndaa.Q Go.Proofs.YtcbfnfggnocndaaW.PrintWords Go.Proofs.YtcbfnfggnocndaaW.PrintLast Go.Proofs.YtcbfnfggnocndaaW.PrintMore Math
structure Bx2 (w W : World) (d0 d1 d2 : Value) (f m : Int) : Prop where
 d : W.heap[w.heap.size]? = some (.cells #[d0, d1, d2] 25 (0, 0))
 r : W.heap[w.heap.size + 1]? = some (.cells #[.int .i64 f, .int .i64 m] 27 (0, 0))
 b : Below w.heap.size w W
namespace Bx2
variable {w W W' : World} {d0 d1 d2 : Value} {f m : Int}
theorem new (w : World) (d0 d1 d2 : Value) (f m : Int) : Bx2 w ((w.alloc (.cells #[d0, d1, d2] 25)).alloc (.cells #[.int .i64 f, .int .i64 m] 27)) d0 d1 d2 f m := by
 have h := heap_alloc_new (w.alloc (.cells #[d0, d1, d2] 25)) (.cells #[.int .i64 f, .int .i64 m] 27)
 rw [World.size_alloc] at h
 refine ⟨?_, h, ((Below.refl _ w).alloc (Nat.le_refl _) _).alloc (by rw [World.size_alloc]; omega) _⟩
 rw [Below.heap_alloc _ _ _ (by rw [World.size_alloc]; omega)]
 exact heap_alloc_new w _
theorem step (h : Bx2 w W d0 d1 d2 f m) (hb : Below W.heap.size W W') : Bx2 w W' d0 d1 d2 f m :=
 ⟨(hb.block _ (blk_lt h.d)).trans h.d, (hb.block _ (blk_lt h.r)).trans h.r, h.b.trans (hb.mono h.b.size)⟩
theorem c0 (h : Bx2 w W d0 d1 d2 f m) : W.cell? ⟨w.heap.size, 0, none⟩ = some d0 := by rw [blk_cell h.d]; rfl
theorem c1 (h : Bx2 w W d0 d1 d2 f m) : W.cell? ⟨w.heap.size, 1, none⟩ = some d1 := by rw [blk_cell h.d]; rfl
theorem c2 (h : Bx2 w W d0 d1 d2 f m) : W.cell? ⟨w.heap.size, 2, none⟩ = some d2 := by rw [blk_cell h.d]; rfl
theorem r0 (h : Bx2 w W d0 d1 d2 f m) : W.cell? ⟨w.heap.size + 1, 0, none⟩ = some (.int .i64 f) := by rw [blk_cell h.r]; rfl
theorem r1 (h : Bx2 w W d0 d1 d2 f m) : W.cell? ⟨w.heap.size + 1, 1, none⟩ = some (.int .i64 m) := by rw [blk_cell h.r]; rfl
end Bx2
theorem img_row {W : World} {base : Nat} {ok : Nat → Prop} {v : Value} {L : List ByteArray} (hR : Kd.R Kd.string 9 W base ok v L) (hL : 0 < L.length) :
  ∃ g cap, v = .slice (some ⟨g, 0, none⟩) L.length cap ∧ L.length ≤ cap ∧ cap ≤ maxLen ∧ base ≤ g ∧ RdS W (some ⟨g, 0, none⟩) L := by
 have ho := Kd.own_of_R hR
 rcases ho.2 with ⟨_, h2⟩ | ⟨g, cap, cur, h1, h2, h3, h4, h5, h6, h7⟩
 ·omega
 ·rw [Nat.mul_one] at h7
  refine ⟨g, cap, h1, h4, h5, h2, .inr ⟨_, rfl, blk_lt h3, fun j hj => ?_⟩⟩
  have e : (⟨g, 0, none⟩ : Addr).add j = ⟨g, j, none⟩ := by
   unfold Addr.add
   split
   ·rename_i h; subst h; rfl
   ·rw [Nat.zero_add]
  rw [e, blk_cell h3]
  have h7' : cur.toList.take L.length = L.map Value.string := h7
  have h8 := congrArg (·[j]?) h7'
  simp only [List.getElem?_take, List.getElem?_map, List.getElem?_eq_getElem hj] at h8
  rw [if_pos hj] at h8
  simpa using h8
theorem rds_cut {W : World} {g a : Nat} {L : List ByteArray} (h : RdS W (some ⟨g, 0, none⟩) L) (m : Nat) (ham : a + m ≤ L.length) : RdS W (some ⟨g, a, none⟩) ((L.drop a).take m) := by
 rcases h with rfl | ⟨ad, e, hk, hc⟩
 ·exact .inl (by simp)
 ·obtain rfl := Option.some.inj e
  refine .inr ⟨_, rfl, hk, fun j hj => ?_⟩
  rw [List.length_take, List.length_drop] at hj
  rw [List.getElem_take, List.getElem_drop, ← hc (a + j) (by omega)]
  congr 1
  unfold Addr.add
  split
  ·rename_i h; subst h
   split
   ·rename_i h; rw [Nat.add_zero] at h; subst h; rfl
   ·simp
  ·split
   ·rename_i h1 h2; exact absurd h2 (by omega)
   ·simp
theorem c_of_rds {W : World} {A : Option Addr} {L : List ByteArray} (h : RdS W A L) (hn : L.length ≤ 9223372036854775807) : Kd.string.C W A L.length L := by
 refine ⟨rfl, hn, fun h0 => ?_⟩
 rcases h with rfl | ⟨ad, e, hk, hc⟩
 ·exact absurd h0 (by simp)
 ·refine ⟨ad, e, fun j p hj => ⟨[.string p], rfl, rfl, fun i u hu => ?_⟩⟩
  obtain ⟨hlt, rfl⟩ := List.getElem?_eq_some_iff.1 hj
  cases i with
  | zero =>
   obtain rfl : Value.string L[j] = u := by simpa using hu
   rw [show Kd.string.sz = 1 from rfl, Nat.mul_one, Nat.add_zero]
   exact hc j hlt
  | succ i => simp at hu
def ringL (l0 : List ByteArray) (l1 : List S88) (f m : Nat) : List ByteArray := ((doneL l0 l1 fun _ => true).drop f).take m
theorem ringL_len (l0 : List ByteArray) (l1 : List S88) (f m : Nat) (h : f + m ≤ l0.length) : (ringL l0 l1 f m).length = m := by
 unfold ringL
 rw [List.length_take, List.length_drop, show (doneL l0 l1 fun _ => true).length = l0.length from imgL_len _ _]; omega
set_option maxHeartbeats 4000000 in
set_option maxRecDepth 1000000 in
theorem ring_calls (A0 : Option Addr) (c0 : Nat) (l0 : List ByteArray) (A1 : Option Addr) (c1 : Nat) (l1 : List S88) (off : Bool) (fr mn : Nat) (w : World) (h0 : Kd.C Kd.string w A0 l0.length l0) (g0 : l0.length ≤ c0) (h1 : Kd.C k88 w A1 l1.length l1) (g1 : l1.length ≤ c1) (hok : DiskOk l0 l1) (hm : 1 ≤ mn) (hfm : fr + mn ≤ l0.length) :
  Calls Try.prog 39 #[.agg #[.slice A0 l0.length c0, .slice A1 l1.length c1, .bool off], .agg #[.int .i64 fr, .int .i64 mn]] w fun e w' => ∃ A' c', e = .returned (.slice A' (ringL l0 l1 fr mn).length c') ∧ RdS w' A' (ringL l0 l1 fr mn) ∧ (ringL l0 l1 fr mn).length ≤ c' ∧ (∀ ad, A' = some ad → w.heap.size ≤ ad.block) ∧ Below w.heap.size w w' := by
 have hlen : (doneL l0 l1 fun _ => true).length = l0.length := imgL_len _ _
 have hn2 : l0.length ≤ 1000000000 := hok.2.1
 obtain ⟨W1, hW1⟩ : ∃ W1, W1 = (w.alloc (.cells #[.slice A0 l0.length c0, .slice A1 l1.length c1, .bool off] 25)).alloc (.cells #[.int .i64 fr, .int .i64 mn] 27) := ⟨_, rfl⟩
 have hx := Bx2.new w (.slice A0 l0.length c0) (.slice A1 l1.length c1) (.bool off) fr mn
 rw [← hW1] at hx
 have hbd : Below w.heap.size w W1.drew := below_drew hx.b
 have hi := disk_Image.calls A0 c0 l0 A1 c1 l1 off _ W1.drew (Kd.C_below h0 hbd) g0 (Kd.C_below h1 hbd) g1 (show disk_Image.f l0 l1 off = some (doneL l0 l1 fun _ => true) by unfold disk_Image.f; rw [if_pos hok])
 have hrl : (ringL l0 l1 fr mn).length = mn := ringL_len l0 l1 fr mn hfm
 obtain ⟨R, hR⟩ : ∃ R, R = ringL l0 l1 fr mn := ⟨_, rfl⟩
 rw [← hR] at hrl ⊢
 unfold ringL at hR
 generalize (doneL l0 l1 fun _ => true) = L at *
 have HX := Lib.hid hx; have HXD : Hid (Bx2 w W1.drew _ _ _ _ _) := Lib.hid ⟨hx.d, hx.r, below_drew hx.b⟩; have HI := Lib.hid hi; have HRL := Lib.hid hR; have HW1 := Lib.hid hW1
 have hLp : 0 < L.length := by omega
 have HS1 : Hid (wrap64 ((fr : Int) + (mn : Int)) = (fr : Int) + (mn : Int)) := Lib.hid (w64 (by omega) (by omega))
 have s3 : (0 : Int) ≤ (fr : Int) + (mn : Int) := by omega
 have etn : ((fr : Int) + (mn : Int)).toNat = fr + mn := by omega
 have s4 : fr + mn - fr = mn := by omega
 have s6 : fr ≤ fr + mn := by omega
 clear h0 h1 hx hi hR hW1 hbd hok
 go_enter Try.func39, Try.ntmps39
 go_wp2_with fail
 rw [← HW1.out]
 refine start_ (n := 11) (S := fun w' => w'.cell? ⟨w.heap.size, 0, none⟩ = some (.slice A0 l0.length c0) ∧ w'.cell? ⟨w.heap.size, 1, none⟩ = some (.slice A1 l1.length c1) ∧ w'.cell? ⟨w.heap.size, 2, none⟩ = some (.bool off) ∧ w'.cell? ⟨w.heap.size + 1, 0, none⟩ = some (.int .i64 (fr : Int)) ∧ w'.cell? ⟨w.heap.size + 1, 1, none⟩ = some (.int .i64 (mn : Int))) (ds := []) #[false, false, false, false, false, false, false, false, false, false, false] (by kernel_rfl) rfl rfl ⟨HX.out.c0, HX.out.c1, HX.out.c2, HX.out.r0, HX.out.r1⟩ (fun hHeld => ?_)
 refine pure_ (i := 2) (N := some 7) (v := ?_) (a' := ?_) #[false, false, true, false, false, false, false, false, false, false, false] rfl rfl (by kernel_rfl) (fun _ _ _ h => h) (Or.inl ⟨by rfl, ?_⟩) ?_ ?_
 (rotate_left; · (intro w'; go_simp; with_reducible rfl))
 (rotate_left; · (simp only [Act.put, zqk, zql, zqm, i64_w, i32_w]; rfl))
 refine pure_ (i := 4) (N := some 9) (v := ?_) (a' := ?_) #[false, false, true, false, true, false, false, false, false, false, false] rfl rfl (by kernel_rfl) (fun _ _ _ h => h) (Or.inl ⟨by rfl, ?_⟩) ?_ ?_
 (rotate_left; · (intro w'; go_simp; with_reducible rfl))
 (rotate_left; · (simp only [Act.put, zqk, zql, zqm, i64_w, i32_w]; rfl))
 refine pure_ (i := 6) (N := some 11) (v := ?_) (a' := ?_) #[false, false, true, false, true, false, true, false, false, false, false] rfl rfl (by kernel_rfl) (fun _ _ _ h => h) (Or.inl ⟨by rfl, ?_⟩) ?_ ?_
 (rotate_left; · (intro w'; go_simp; with_reducible rfl))
 (rotate_left; · (simp only [Act.put, zqk, zql, zqm, i64_w, i32_w]; rfl))
 refine take_ (i := 0) (N := some 5) (v := ?_) (a' := ?_) #[true, false, true, false, true, false, true, false, false, false, false] rfl rfl (by kernel_rfl) (fun _ _ _ h => h) (Or.inl ⟨by rfl, ?_⟩) hHeld ?_ ?_
 rotate_left
 ·rintro w' ⟨s0, s1, s2, s3, s4⟩
  go_simp
  with_reducible rfl
 (rotate_left; · (simp only [Act.put, zqk, zql, zqm, i64_w, i32_w]; rfl))
 refine take_ (i := 3) (N := some 8) (v := ?_) (a' := ?_) #[true, false, true, true, true, false, true, false, false, false, false] rfl rfl (by kernel_rfl) (fun _ _ _ h => h) (Or.inl ⟨by rfl, ?_⟩) hHeld ?_ ?_
 rotate_left
 ·rintro w' ⟨s0, s1, s2, s3, s4⟩
  go_simp
  with_reducible rfl
 (rotate_left; · (simp only [Act.put, zqk, zql, zqm, i64_w, i32_w]; rfl))
 refine take_ (i := 5) (N := some 10) (v := ?_) (a' := ?_) #[true, false, true, true, true, true, true, false, false, false, false] rfl rfl (by kernel_rfl) (fun _ _ _ h => h) (Or.inl ⟨by rfl, ?_⟩) hHeld ?_ ?_
 rotate_left
 ·rintro w' ⟨s0, s1, s2, s3, s4⟩
  go_simp
  with_reducible rfl
 (rotate_left; · (simp only [Act.put, zqk, zql, zqm, i64_w, i32_w]; rfl))
 refine take_ (i := 7) (N := some 12) (v := ?_) (a' := ?_) #[true, false, true, true, true, true, true, true, false, false, false] rfl rfl (by kernel_rfl) (fun _ _ _ h => h) (Or.inl ⟨by rfl, ?_⟩) hHeld ?_ ?_
 rotate_left
 ·rintro w' ⟨s0, s1, s2, s3, s4⟩
  go_simp
  with_reducible rfl
 (rotate_left; · (simp only [Act.put, zqk, zql, zqm, i64_w, i32_w]; rfl))
 refine pure_ (i := 8) (N := some 13) (v := ?_) (a' := ?_) #[true, false, true, true, true, true, true, true, true, false, false] rfl rfl (by kernel_rfl) (fun _ _ _ h => h) (Or.inl ⟨by rfl, ?_⟩) ?_ ?_
 (rotate_left; · (intro w'; go_simp; with_reducible rfl))
 (rotate_left; · (simp only [Act.put, zqk, zql, zqm, i64_w, i32_w]; rfl))
 refine one_ (i := 1) (N := some 6) #[true, true, true, true, true, true, true, true, true, false, false] rfl rfl (by kernel_rfl) (by decide) (fun K hK => ?_)
 refine goes_ Try.func56 (by kernel_rfl) rfl #[.agg #[.slice A0 l0.length c0, .slice A1 l1.length c1, .bool off]] (by rfl) rfl rfl (by simp only [List.map_toArray, List.map_cons, List.map_nil]; rfl) ?_
 with_reducible refine (HI.out).mono ?_
 rintro e w3 ⟨v, rfl, hR, hb⟩
 refine ⟨_, rfl, ?_⟩
 have HX3 := Lib.hid (HXD.out.step hb)
 obtain ⟨g, cap, rfl, hcap, hcm, hg0, hrow⟩ := img_row hR hLp
 have HROW := Lib.hid hrow
 have HBB := Lib.hid hb
 clear hR hb hrow
 unfold maxLen at hcm
 have s2 : (fr : Int) + (mn : Int) ≤ (cap : Int) := by omega
 have s5 : ¬ cap = fr := by omega
 have s1 := HS1.out
 refine hK.out _ _ ⟨HX3.out.c0, HX3.out.c1, HX3.out.c2, HX3.out.r0, HX3.out.r1⟩ (fun hHeld => ?_)
 clear hK K
 refine norm_ (a' := ?_) ?_ ?_
 rotate_left
 ·show Act.put _ (some 6) _ = _
  simp only [Act.put, zqk, zql, zqm, i64_w, i32_w]
  rfl
 refine pure_ (i := 9) (N := some 14) (v := ?_) (a' := ?_) #[true, true, true, true, true, true, true, true, true, true, false] rfl rfl (by kernel_rfl) (fun _ _ _ h => h) (Or.inl ⟨by rfl, ?_⟩) ?_ ?_
 (rotate_left; · (intro w'; go_simp; with_reducible rfl))
 (rotate_left; · (simp only [Act.put, zqk, zql, zqm, i64_w, i32_w]; rfl))
 refine pure_ (i := 10) (N := some 4) (v := ?_) (a' := ?_) #[true, true, true, true, true, true, true, true, true, true, true] rfl rfl (by kernel_rfl) (fun _ _ _ h => h) (Or.inl ⟨by rfl, ?_⟩) ?_ ?_
 (rotate_left; · (intro w'; go_simp; with_reducible rfl))
 (rotate_left; · (simp only [Act.put, zqk, zql, zqm, i64_w, i32_w]; rfl))
 refine done_ (by kernel_rfl) ?_
 go_wp2_with fail
 go_ret
 clear s1 hcm
 refine ⟨some ⟨g, fr, none⟩, cap - fr, by rw [hrl]; rfl, ?_, ?_, ?_, HX3.out.b⟩
 ·rw [HRL.out]; exact rds_cut HROW.out mn (by omega)
 ·rw [hrl]; omega
 ·intro ad h
  obtain rfl := Option.some.inj h
  have h1 := HX.out.b.size
  have e : W1.drew.heap.size = W1.heap.size := rfl
  rw [e] at hg0
  exact Nat.le_trans h1 hg0
end Go.Proofs.Ytcbfnfggnocndaa
end

section
namespace Go.Proofs.Ytcbfnfggnocndaa
open Go.RowKit Go.Proofs.YtcbfnfggnocndaaW.PrintWords
def tq (c : Int) : Int := if Go.bits .and .u32 c 1 = 1 then Go.bits .xor .u32 (c / 2) 2197175160 else c / 2
def tqs : Nat → Int → Int
 | 0, c => c
 | n + 1, c => tq (tqs n c)
def tb (i : Int) : Int := tqs 8 i
def tbRow (i : Nat) : Array Value := ((List.range 256).map fun j => Value.int .u32 (if j < i then tb (j : Int) else 0)).toArray
theorem tbRow_size (i : Nat) : (tbRow i).size = 256 := by simp [tbRow]
theorem tbRow_zero : tbRow 0 = Array.replicate 256 (.int .u32 0) := by
 apply Array.ext
 ·simp [tbRow]
 ·intro j h1 h2; simp [tbRow]
theorem tbRow_get (i j : Nat) (h : j < (tbRow i).size) : (tbRow i)[j] = Value.int .u32 (if j < i then tb (j : Int) else 0) := by
 simp [tbRow]
theorem tbRow_set (i : Nat) : (tbRow i).setIfInBounds i (.int .u32 (tb (i : Int))) = tbRow (i + 1) := by
 apply Array.ext
 ·rw [Array.size_setIfInBounds, tbRow_size, tbRow_size]
 ·intro j h1 h2
  rw [Array.size_setIfInBounds] at h1
  rw [Array.getElem_setIfInBounds h1, tbRow_get, tbRow_get]
  by_cases h : i = j
  ·subst h; rw [if_pos rfl, if_pos (by omega)]
  ·rw [if_neg h]
   by_cases h3 : j < i
   ·rw [if_pos h3, if_pos (by omega)]
   ·rw [if_neg h3, if_neg (by omega)]
theorem tbRow_one (i : Nat) : (tbRow i).all (·.oneCell') = true := by
 rw [Array.all_eq_true_iff_forall_mem]
 intro x hx
 simp only [tbRow, List.mem_toArray, List.mem_map] at hx
 obtain ⟨j, _, rfl⟩ := hx
 rfl
theorem tbRow_at0 (i : Nat) (h : i < 256) : (tbRow i)[i]? = some (.int .u32 0) := by
 simp [tbRow, h]
theorem tbRow_at (j : Nat) (h : j < 256) : (tbRow 256)[j]? = some (.int .u32 (tb (j : Int))) := by
 simp [tbRow, h]
def mb (c : Int) (b : Int) : Int := Go.bits .xor .u32 (tb (Go.bits .xor .u8 (c % 256) b)) (c / 256)
def mores (c : Int) (l : List UInt8) : Int := l.foldl (fun c b => mb c (b.toNat : Int)) c
def seal_More.f (a0 : Int) (a1 : ByteArray) : Option Int := if a1.size ≤ 9223372036854775807 ∧ 0 ≤ a0 ∧ a0 < 4294967296 then some (mores a0 a1.data.toList) else none
theorem bits_u8_range (op : BinOp) (x y : Int) : 0 ≤ Go.bits op .u8 x y ∧ Go.bits op .u8 x y < 256 := by
 unfold Go.bits; dsimp only; rw [IntKind.wrap_u8]; omega
theorem bits_u32_range (op : BinOp) (x y : Int) : 0 ≤ Go.bits op .u32 x y ∧ Go.bits op .u32 x y < 4294967296 := by
 unfold Go.bits; dsimp only; rw [IntKind.wrap_u32]; omega
theorem mores_snoc (c : Int) (l : List UInt8) (b : UInt8) : mores c (l ++ [b]) = mb (mores c l) (b.toNat : Int) := by simp [mores]
theorem mores_range (c : Int) (hc : 0 ≤ c ∧ c < 4294967296) (l : List UInt8) : 0 ≤ mores c l ∧ mores c l < 4294967296 := by
 induction l generalizing c with
 | nil => exact hc
 | cons b l ih => exact ih (mb c b.toNat) (bits_u32_range _ _ _)
theorem take_snoc_b (s : ByteArray) (i : Nat) (h : i < s.size) : s.data.toList.take (i + 1) = s.data.toList.take i ++ [s[i]] := by
 rw [List.take_succ_eq_append_getElem (by simpa using h)]; rfl
theorem zero41 : (∀ w, (zeroValue 113).run Try.prog w = .ok (.agg (Array.replicate 256 (.int .u32 0))) w) ∧ (Try.prog.info? 113).map (·.size) = some 256 :=
 zero_of_info (by kernel_rfl)
set_option maxHeartbeats 1000000 in
theorem turn_calls (c : Int) (w : World) : Calls Try.prog 78 #[.int .u32 c] w fun e w' => e = .returned (.int .u32 (tq c)) ∧ w = w' := by
 by_cases h : Go.bits .and .u32 c 1 = 1
 ·have e : tq c = Go.bits .xor .u32 (c / 2) 2197175160 := by unfold tq; rw [if_pos h]
  rw [e]
  have h1 : (Go.bits .and .u32 c 1 == 1) = true := by rw [h]; rfl
  clear h e
  go_enter Try.func78, Try.ntmps78
  go_wp2
  go_ret
  exact ⟨rfl, rfl⟩
 ·have e : tq c = c / 2 := by unfold tq; rw [if_neg h]
  rw [e]
  have h1 : (Go.bits .and .u32 c 1 == 1) = false := by simpa using h
  clear h e
  go_enter Try.func78, Try.ntmps78
  go_wp2
  go_ret
  exact ⟨rfl, rfl⟩
set_option maxHeartbeats 4000000 in
set_option maxRecDepth 1000000 in
theorem table_calls (w : World) : Calls Try.prog 71 #[] w fun e w' => e = .returned (.agg (tbRow 256)) ∧ Below w.heap.size w w' := by
 have z41 := zero41.1
 rw [← tbRow_zero] at z41
 go_enter Try.func71, Try.ntmps71
 go_wp2
 go_loopg [5] 256 (fun g s5 wx => ∃ i : Nat, i + g = 256 ∧ s5 = .int .i64 i ∧ wx = (w.alloc (.cells (tbRow 0) 113)).alloc (.cells (tbRow i) 113))
 case atStart => exact ⟨0, by omega, rfl, rfl⟩
 case round =>
  obtain ⟨i, hig, rfl, rfl⟩ := hrel
  cases gk with
  | zero =>
   obtain rfl : i = 256 := by omega
   clear hig z41
   have hiz : ¬ ((256 : Int) < 256) := by omega
   have hi41 := Lib.hid (show (Try.prog.info? 113).map (·.size) = some (tbRow 256).size by rw [tbRow_size]; exact zero41.2)
   go_wp2_with (first | (refine wpList_load_row rfl 113 _ rfl (w.heap.size + 1) rfl 113 (tbRow 256) (0, 0) _ (heap_alloc2_new w _ _) Try.underlying113 rfl hi41.out ?_) | (refine wpList_store_row rfl 113 _ _ rfl w.heap.size (tbRow 256) rfl rfl 113 (tbRow 0) (heap_alloc2_old w _ _) hi41.out (by rw [tbRow_size, tbRow_size]) (tbRow_one 256) ?_))
   refine bodyPost_ret (v := .agg (tbRow 256)) ?_ rfl ⟨rfl, ?_⟩
   ·refine results_cell_row (p := 0) (ty := 113) rfl _ _ w.heap.size 113 (tbRow 256) (0, 0) _ rfl ?_ Try.underlying113 rfl hi41.out
    exact setRow_heap _ _ _ _ _ _ (heap_alloc2_old w _ _)
   ·exact below_setRow (((Below.refl _ _).alloc (Nat.le_refl _) _).alloc (by simp) _) (Nat.le_refl _) _
  | succ g =>
   have hi : i < 256 := by omega
   have hiz : (i : Int) < 256 := by omega
   have hm : (i : Int) % 4294967296 = i := by omega
   have HT := Lib.hid (tbRow_set i)
   clear z41
   go_wp2
   go_loopg [4, 10] 8 (fun gj s4 s10 wx => ∃ j : Nat, j + gj = 8 ∧ s10 = .int .i64 j ∧ s4 = .int .u32 (tqs j (i : Int)) ∧ wx = (w.alloc (.cells (tbRow 0) 113)).alloc (.cells (tbRow i) 113))
   case atStart => exact ⟨0, by omega, rfl, rfl, rfl⟩
   case round =>
    obtain ⟨j, hjg, rfl, rfl, rfl⟩ := hrel
    cases gk with
    | zero =>
     obtain rfl : j = 8 := by omega
     have hjz : ¬ ((8 : Int) < 8) := by omega
     clear hjg
     have hcell := tbRow_at0 i hi
     go_wp2
     go_roundg g
     case measure => omega
     case rel => exact ⟨i + 1, by omega, by go_num, by rw [← HT.out]; rfl⟩
    | succ gj =>
     have hjz : (j : Int) < 8 := by omega
     go_wp2_with (go_at_call 78; refine (turn_calls _ _).mono ?_; rintro e w' ⟨rfl, rfl⟩)
     go_roundg gj
     case measure => omega
     case rel => exact ⟨j + 1, by omega, by go_num, rfl, rfl⟩
set_option maxHeartbeats 4000000 in
set_option maxRecDepth 1000000 in
theorem more_calls (c : Int) (s : ByteArray) (w : World) (hs : s.size ≤ 9223372036854775807) (hc : 0 ≤ c ∧ c < 4294967296) :
  Calls Try.prog 62 #[.int .u32 c, .string s] w fun e w' => e = .returned (.int .u32 (mores c s.data.toList)) ∧ Below w.heap.size w w' := by
 have z41 := zero41.1
 rw [← tbRow_zero] at z41
 go_enter Try.func62, Try.ntmps62
 go_wp2_with fail
 refine (table_calls _).mono ?_
 rintro e w1 ⟨rfl, hb⟩
 have hi41 := Lib.hid (show (Try.prog.info? 113).map (·.size) = some (tbRow 256).size by rw [tbRow_size]; exact zero41.2)
 go_wp2_with (refine wpList_store_row rfl 113 _ _ rfl w1.heap.size (tbRow 256) rfl rfl 113 (tbRow 0) (heap_alloc_last w1 _) hi41.out (by rw [tbRow_size, tbRow_size]) (tbRow_one 256) ?_; rw [World.setRow_alloc_new])
 clear z41 hi41
 have HW := Lib.hid ((show Below w.heap.size w (w1.alloc (.cells (tbRow 256) 113)) from hb.alloc hb.size _))
 clear hb
 generalize hW : w1.alloc (.cells (tbRow 256) 113) = W at *
 have hcell : ∀ j : Nat, j < 256 → W.cell? ⟨w1.heap.size, j, none⟩ = some (.int .u32 (tb (j : Int))) := fun j hj => by
  rw [← hW, cell_of_row _ w1.heap.size j (tbRow 256) _ (0, 0) (heap_alloc_last w1 _)]
  exact tbRow_at j hj
 clear hW
 have HC := Lib.hid hcell
 clear hcell
 go_loopg [0, 10] s.size (fun g v0 v10 wx => ∃ (i : Nat) (x : Int), i + g = s.size ∧ v10 = .int .i64 i ∧ v0 = .int .u32 x ∧ Hid (x = mores c (s.data.toList.take i)) ∧ wx = W)
 case atStart => exact ⟨0, c, by omega, rfl, rfl, Lib.hid rfl, rfl⟩
 case round =>
  obtain ⟨i, x, hig, rfl, rfl, HX, rfl⟩ := hrel
  have hx0 : 0 ≤ x := by rw [HX.out]; exact (mores_range c hc _).1
  have hx1 : x < 4294967296 := by rw [HX.out]; exact (mores_range c hc _).2
  cases gk with
  | zero =>
   obtain rfl : i = s.size := by omega
   have hiz : ¬ ((s.size : Int) < (s.size : Int)) := by omega
   clear hig
   go_wp2
   go_ret
   refine ⟨?_, HW.out⟩
   rw [HX.out, List.take_of_length_le (by simp)]
   rfl
  | succ g =>
   have hi : i < s.size := by omega
   have hiz : (i : Int) < (s.size : Int) := by omega
   obtain ⟨q, hq⟩ : ∃ q : Nat, (q : Int) = Go.bits .xor .u8 (x % 256) (s[i].toNat : Int) := ⟨(Go.bits .xor .u8 (x % 256) (s[i].toNat : Int)).toNat, by have := bits_u8_range .xor (x % 256) (s[i].toNat : Int); omega⟩
   have hqb : q < 256 := by have := bits_u8_range .xor (x % 256) (s[i].toNat : Int); omega
   have hc1 := HC.out q hqb
   have hq2 := hq.symm
   have HQ := Lib.hid hq
   clear hq
   go_wp2
   go_roundg g
   case measure => omega
   case rel =>
    refine ⟨i + 1, _, by omega, by go_num, rfl, Lib.hid ?_, rfl⟩
    rw [take_snoc_b s i hi, mores_snoc, ← HX.out, mb, ← HQ.out]
theorem seal_More.calls (a0 : Int) (a1 : ByteArray) (r : Int) (w : World) (h : seal_More.f a0 a1 = some r) :
  Calls Try.prog 62 #[.int .u32 a0, .string a1] w fun e w' => e = .returned (.int .u32 r) ∧ Below w.heap.size w w' := by
 unfold seal_More.f at h
 split at h
 ·rename_i hh
  obtain rfl := Option.some.inj h
  exact more_calls a0 a1 w hh.1 hh.2
 ·cases h
end Go.Proofs.Ytcbfnfggnocndaa
end

section
namespace Go.Proofs.Ytcbfnfggnocndaa
open Go.RowKit
def P32 : Nat := 2197175160
def tqN (c : Nat) : Nat := if c % 2 = 1 then (c / 2) ^^^ P32 else c / 2
def tqsN : Nat → Nat → Nat
  | 0, c => c
  | n + 1, c => tqN (tqsN n c)
theorem tqN_lt {c : Nat} (h : c < 4294967296) : tqN c < 4294967296 := by
  unfold tqN
  split
  · exact Nat.xor_lt_two_pow (n := 32) (by omega) (by decide)
  · omega
theorem tqsN_lt {c : Nat} (h : c < 4294967296) (n : Nat) : tqsN n c < 4294967296 := by
  induction n with
  | zero => exact h
  | succ n ih => exact tqN_lt ih
theorem tq_nat {c : Nat} (h : c < 4294967296) : tq (c : Int) = (tqN c : Int) := by
  unfold tq tqN
  have e1 : Go.bits .and .u32 (c : Int) 1 = ((c % 2 : Nat) : Int) := by
    have := u32_and_nat c 1 h (by decide)
    rw [nat_mask1] at this
    exact this
  rw [e1]
  by_cases h1 : c % 2 = 1
  · rw [if_pos (by omega), if_pos h1, show ((c : Int) / 2) = ((c / 2 : Nat) : Int) from by omega, show (2197175160 : Int) = ((P32 : Nat) : Int) from rfl, u32_xor_nat _ _ (by omega) (by decide)]
  · rw [if_neg (by omega), if_neg h1]; omega
theorem tqs_nat {c : Nat} (h : c < 4294967296) (n : Nat) : tqs n (c : Int) = (tqsN n c : Int) := by
  induction n with
  | zero => rfl
  | succ n ih => show tq (tqs n c) = _; rw [ih, tq_nat (tqsN_lt h n)]; rfl
theorem xor_div2 (a b : Nat) : (a ^^^ b) / 2 = (a / 2) ^^^ (b / 2) := by
  have := Nat.shiftRight_xor_distrib (a := a) (b := b) (i := 1)
  simpa [Nat.shiftRight_eq_div_pow] using this
theorem xor_mod2 (a b : Nat) : (a ^^^ b) % 2 = (a % 2 + b % 2) % 2 := by
  have h := Nat.testBit_xor a b 0
  simp only [Nat.testBit_zero] at h
  have ha : a % 2 = 0 ∨ a % 2 = 1 := by omega
  have hb : b % 2 = 0 ∨ b % 2 = 1 := by omega
  have hx : (a ^^^ b) % 2 = 0 ∨ (a ^^^ b) % 2 = 1 := by omega
  rcases ha with ha | ha <;> rcases hb with hb | hb <;> rcases hx with hx | hx <;> simp [ha, hb, hx] at h ⊢
theorem tqN_xor (a b : Nat) : tqN (a ^^^ b) = tqN a ^^^ tqN b := by
  unfold tqN
  rw [xor_div2, xor_mod2]
  have ha : a % 2 = 0 ∨ a % 2 = 1 := by omega
  have hb : b % 2 = 0 ∨ b % 2 = 1 := by omega
  rcases ha with ha | ha <;> rcases hb with hb | hb <;> simp only [ha, hb] <;> simp only [Nat.reduceAdd, Nat.reduceMod, Nat.zero_ne_one, if_true, if_false]
  · rw [Nat.xor_assoc]
  · rw [Nat.xor_assoc, Nat.xor_assoc, Nat.xor_comm P32]
  · rw [Nat.xor_assoc, Nat.xor_comm P32 (b / 2 ^^^ P32), Nat.xor_assoc, Nat.xor_self, Nat.xor_zero]
theorem tqsN_xor (n a b : Nat) : tqsN n (a ^^^ b) = tqsN n a ^^^ tqsN n b := by
  induction n with
  | zero => rfl
  | succ n ih => show tqN _ = tqN _ ^^^ tqN _; rw [ih, tqN_xor]
theorem tqsN_succ (n c : Nat) : tqsN (n + 1) c = tqsN n (tqN c) := by
  induction n with
  | zero => rfl
  | succ n ih => show tqN (tqsN (n + 1) c) = tqN (tqsN n (tqN c)); rw [ih]
theorem tqsN_mul (n y : Nat) : tqsN n (y * 2 ^ n) = y := by
  induction n with
  | zero => show y * 1 = y; omega
  | succ n ih =>
    rw [tqsN_succ]
    have : tqN (y * 2 ^ (n + 1)) = y * 2 ^ n := by
      unfold tqN
      rw [Nat.pow_succ, show y * (2 ^ n * 2) = 2 * (y * 2 ^ n) from by rw [Nat.mul_comm (2 ^ n) 2, ← Nat.mul_assoc, Nat.mul_comm y 2, Nat.mul_assoc], if_neg (by omega)]
      omega
    rw [this, ih]
def mbN (c b : Nat) : Nat := tqsN 8 (c ^^^ b)
def moresN (c : Nat) (l : List UInt8) : Nat := l.foldl (fun c b => mbN c b.toNat) c
theorem split8 (c : Nat) : c = (c % 256) ^^^ (c / 256 * 2 ^ 8) := by
  have h := Nat.two_pow_add_eq_or_of_lt (i := 8) (b := c % 256) (by omega) (c / 256)
  apply Nat.eq_of_testBit_eq
  intro i
  rw [Nat.testBit_xor, show (256 : Nat) = 2 ^ 8 from rfl, Nat.testBit_mod_two_pow, Nat.testBit_mul_two_pow, Nat.testBit_div_two_pow]
  by_cases hi : i < 8
  · simp [hi, show ¬ 8 ≤ i from by omega]
  · simp [hi, show 8 ≤ i from by omega]
theorem mb_nat {c : Nat} (h : c < 4294967296) (b : UInt8) : mb (c : Int) (b.toNat : Int) = (mbN c b.toNat : Int) := by
  have hb := b.toNat_lt
  unfold mb tb mbN
  rw [show ((c : Int) % 256) = ((c % 256 : Nat) : Int) from by omega, u8_xor_nat _ _ (by omega) (by omega), show ((c : Int) / 256) = ((c / 256 : Nat) : Int) from by omega]
  have h1 : (c % 256 ^^^ b.toNat) < 256 := Nat.xor_lt_two_pow (n := 8) (by omega) (by omega)
  rw [tqs_nat (by omega), u32_xor_nat _ _ (tqsN_lt (by omega) 8) (by omega)]
  congr 1
  have e : c ^^^ b.toNat = (c % 256 ^^^ b.toNat) ^^^ (c / 256 * 2 ^ 8) := by
    conv => lhs; rw [split8 c]
    rw [Nat.xor_assoc, Nat.xor_assoc, Nat.xor_comm (c / 256 * 2 ^ 8)]
  rw [e, tqsN_xor 8 (c % 256 ^^^ b.toNat), tqsN_mul]
theorem mbN_lt {c : Nat} (h : c < 4294967296) (b : UInt8) : mbN c b.toNat < 4294967296 := by
  have hb := b.toNat_lt
  exact tqsN_lt (Nat.xor_lt_two_pow (n := 32) h (by omega)) 8
theorem mores_nat (l : List UInt8) : ∀ {c : Nat}, c < 4294967296 → mores (c : Int) l = (moresN c l : Int) ∧ moresN c l < 4294967296 := by
  induction l with
  | nil => intro c h; exact ⟨rfl, h⟩
  | cons b l ih =>
    intro c h
    have h2 := ih (mbN_lt h b)
    refine ⟨?_, h2.2⟩
    show mores (mb c b.toNat) l = _
    rw [mb_nat h]; exact h2.1
end Go.Proofs.Ytcbfnfggnocndaa
end

section
namespace Go.Proofs.Ytcbfnfggnocndaa.U
open Go.RowKit Go.Proofs.YtcbfnfggnocndaaW.PrintWords Go.Proofs.YtcbfnfggnocndaaW.PrintLast Go.Proofs.YtcbfnfggnocndaaW.PrintMore
attribute [local go_sem] max2_int min2_int max_two min_two max_three min_three max_four min_four   -- for this text's walks alone
attribute [local go_sem high] Go.Proofs.Ytcbfnfggnocndaa.px_xor_u8 Go.Proofs.Ytcbfnfggnocndaa.px_xor_u16 Go.Proofs.Ytcbfnfggnocndaa.px_xor_u32 Go.Proofs.Ytcbfnfggnocndaa.px_xor_u64
def errW : Option Int → Value
  | none => .nilIface
  | some c => .iface 0 (.int .i64 c)
theorem errW_none : errW none = .nilIface := rfl
theorem errW_some (c : Int) : errW (some c) = .iface 0 (.int .i64 c) := rfl
theorem info5 : (Try.prog.info? 5).map (fun i => (i.zero, i.size, i.bytes)) = some (some (.int .u8 0), 1, 1) := by kernel_rfl
end Go.Proofs.Ytcbfnfggnocndaa.U
end

section
namespace Go.Proofs.Ytcbfnfggnocndaa.U
open Go.RowKit Go.Proofs.YtcbfnfggnocndaaW.PrintWords Go.Proofs.YtcbfnfggnocndaaW.PrintLast Go.Proofs.YtcbfnfggnocndaaW.PrintMore
attribute [local go_sem] max2_int min2_int max_two min_two max_three min_three max_four min_four   -- for this text's walks alone
attribute [local go_sem high] Go.Proofs.Ytcbfnfggnocndaa.px_xor_u8 Go.Proofs.Ytcbfnfggnocndaa.px_xor_u16 Go.Proofs.Ytcbfnfggnocndaa.px_xor_u32 Go.Proofs.Ytcbfnfggnocndaa.px_xor_u64
def seal_four.f (a0 : Int) : Option (ByteArray) := some (strOfNums (([(a0) % 256, (a0 / 256) % 256, (a0 / 65536) % 256, (a0 / 16777216) % 256] : List Int)))
set_option maxHeartbeats 8000000 in
set_option maxRecDepth 100000 in
theorem seal_four.calls (a0 : Int) (r : ByteArray) (w : World) (h : seal_four.f a0 = some r) :
  Calls Try.prog 51 #[.int .u32 a0] w fun e w' => e = .returned (.string r) ∧ Below w.heap.size w w' := by
 have HB := zqj (Below.refl w.heap.size w)
 have H : (some (strOfNums (([(a0) % 256, (a0 / 256) % 256, (a0 / 65536) % 256, (a0 / 16777216) % 256] : List Int)))) = some r := h
 clear h
 obtain ⟨y101, hy101⟩ : ∃ y_ : List Int, y_ = (([(a0) % 256, (a0 / 256) % 256, (a0 / 65536) % 256, (a0 / 16777216) % 256] : List Int)) := ⟨_, rfl⟩
 replace H : (some (strOfNums y101)) = some r := by first | (rw [hy101]; with_reducible exact H) | (have H2_ := (Option.bind_some _ _).symm.trans H; rw [hy101]; with_reducible exact H2_) | (have H2_ := (Option.bind_some _ _).symm.trans H; with_reducible exact H2_) | with_reducible exact H | (rw [hy101]; exact H) | exact H
 have Ny101 := zqj hy101
 clear hy101
 obtain rfl := Option.some.inj H
 go_enter Try.func51, Try.ntmps51
 go_wp2_with (first | ((with_reducible refine gate_dst (N := 14) rfl ?_); refine Kd.R_lit (Kd.int .u8) _ 5 ?hg (N := 14) ?hd (xs := ([(a0) % 256, (a0 / 256) % 256, (a0 / 65536) % 256, (a0 / 16777216) % 256] : List Int)) (inner := [.int .u8 ((a0) % 256), .int .u8 ((a0 / 256) % 256), .int .u8 ((a0 / 65536) % 256), .int .u8 ((a0 / 16777216) % 256)]) (ok := fun _ => True) (okp := fun _ => True) ?hr ?hp (fun _ hk => hk) trivial (Below.refl _ _) (Nat.le_refl _) (by simp) ?_; (case hd => rfl); (case hg => rfl); (case hr => first | (go_simp; done) | (go_simp; rfl)); (case hp => exact (Reps.one (show Kd.M (Kd.int .u8) _ _ _ ((a0) % 256) [.int .u8 ((a0) % 256)] from rfl) (Reps.one (show Kd.M (Kd.int .u8) _ _ _ ((a0 / 256) % 256) [.int .u8 ((a0 / 256) % 256)] from rfl) (Reps.one (show Kd.M (Kd.int .u8) _ _ _ ((a0 / 65536) % 256) [.int .u8 ((a0 / 65536) % 256)] from rfl) (Reps.one (show Kd.M (Kd.int .u8) _ _ _ ((a0 / 16777216) % 256) [.int .u8 ((a0 / 16777216) % 256)] from rfl) (Reps.none _ _)))))); intro v102 w2 ho3 hb hg_ hnew_; clear hg_ hnew_; (first | rw [← Ny101.out] at ho3 | (simp only [Int.reduceToNat] at ho3; rw [← Ny101.out] at ho3)); have n0_ := zqj (Kd.R_lower ho3 (below_size (by repeat (first | (with_reducible first | exact HB.out | apply zqg | apply zqe | apply zqf) | exact HB.out)))); have n1_ := zqj (below_step (by repeat (first | (with_reducible first | exact HB.out | apply zqg | apply zqe | apply zqf) | exact HB.out)) hb); clear HB; have HO103 := n0_; have HB := n1_; clear n0_ n1_; clear hb ho3; have hcv4 := own_string (P := Try.prog) Try.underlying71 Try.underlying5 Try.underlying9 (Kd.own_of_R HO103.out)))
 go_ret
 exact ⟨by first | rfl | (simp [errW_none, errW_some] <;> rfl) | (simp [*, errW_none, errW_some] <;> rfl), by repeat (first | (with_reducible first | exact HB.out | apply zqg | apply zqe | apply zqf) | exact HB.out)⟩
def seal_Sum.f (a0 : ByteArray) : Option (Int) := (seal_More.f 4294967295 a0).bind fun t104 => (some (Go.bits .xor .u32 4294967295 t104))
set_option maxHeartbeats 8000000 in
set_option maxRecDepth 100000 in
theorem seal_Sum.calls (a0 : ByteArray) (r : Int) (w : World) (h : seal_Sum.f a0 = some r) :
  Calls Try.prog 52 #[.string a0] w fun e w' => e = .returned (.int .u32 r) ∧ Below w.heap.size w w' := by
 have HB := zqj (Below.refl w.heap.size w)
 have H : ((seal_More.f 4294967295 a0).bind fun t104 => (some (Go.bits .xor .u32 4294967295 t104))) = some r := h
 clear h
 replace H := zqn H
 obtain ⟨t104, A20, H⟩ := H
 replace H : (some (Go.bits .xor .u32 4294967295 t104)) = some r := H
 have A2 := zqj A20
 clear A20
 obtain rfl := Option.some.inj H
 go_enter Try.func52, Try.ntmps52
 go_wp2_with (first | ((with_reducible refine gate_callee (f := 62) rfl ?_); refine goesL_ (some 4) rfl rfl Try.func62 (by kernel_rfl) rfl #[.int .u32 4294967295, .string a0] rfl (by (try simp only [List.map_toArray, List.map_cons, List.map_nil]); first | done | rfl | (simp only [List.length_drop, List.length_take]; rfl)) ?_; (with_reducible refine (seal_More.calls 4294967295 a0 t104 _ A2.out).mono ?_); rintro e w3 ⟨rfl, hb⟩; refine ⟨_, rfl, ?_⟩; have n0_ := zqj (below_step (by repeat (first | (with_reducible first | exact HB.out | apply zqg | apply zqe | apply zqf) | exact HB.out)) hb); clear HB; have HB := n0_; clear n0_; (try clear hb); (try clear hb2); (try clear hk); (try clear hi)))
 go_ret
 exact ⟨by first | rfl | (simp [errW_none, errW_some] <;> rfl) | (simp [*, errW_none, errW_some] <;> rfl), by repeat (first | (with_reducible first | exact HB.out | apply zqg | apply zqe | apply zqf) | exact HB.out)⟩
def seal_Put.f (a0 : ByteArray) : Option (ByteArray) := (seal_Sum.f a0).bind fun t105 => ((seal_four.f t105).bind fun t106 => (if a0.size + t106.size ≤ 9223372036854775807 then (some (a0 ++ t106)) else (none)))
set_option maxHeartbeats 8000000 in
set_option maxRecDepth 100000 in
theorem seal_Put.calls (a0 : ByteArray) (r : ByteArray) (w : World) (h : seal_Put.f a0 = some r) :
  Calls Try.prog 34 #[.string a0] w fun e w' => e = .returned (.string r) ∧ Below w.heap.size w w' := by
 have HB := zqj (Below.refl w.heap.size w)
 have H : ((seal_Sum.f a0).bind fun t105 => ((seal_four.f t105).bind fun t106 => (if a0.size + t106.size ≤ 9223372036854775807 then (some (a0 ++ t106)) else (none)))) = some r := h
 clear h
 replace H := zqn H
 obtain ⟨t105, A20, H⟩ := H
 replace H : ((seal_four.f t105).bind fun t106 => (if a0.size + t106.size ≤ 9223372036854775807 then (some (a0 ++ t106)) else (none))) = some r := H
 have A2 := zqj A20
 clear A20
 replace H := zqn H
 obtain ⟨t106, A30, H⟩ := H
 replace H : (if a0.size + t106.size ≤ 9223372036854775807 then (some (a0 ++ t106)) else (none)) = some r := H
 have A3 := zqj A30
 clear A30
 by_cases c4 : a0.size + t106.size ≤ 9223372036854775807
 ·rw [if_pos c4] at H
  have c4b0 := eq_true c4
  have c4b1 : decide (a0.size + t106.size ≤ 9223372036854775807) = true := decide_eq_true c4
  try have c4b2 : (9223372036854775807 < a0.size + t106.size) = False := eq_false (Nat.not_lt.2 c4)
  obtain rfl := Option.some.inj H
  go_enter Try.func34, Try.ntmps34
  go_wp2_with (first | ((with_reducible refine gate_callee (f := 52) rfl ?_); refine goesL_ (some 5) rfl rfl Try.func52 (by kernel_rfl) rfl #[.string a0] rfl (by (try simp only [List.map_toArray, List.map_cons, List.map_nil]); first | done | rfl | (simp only [List.length_drop, List.length_take]; rfl)) ?_; (with_reducible refine (seal_Sum.calls a0 t105 _ A2.out).mono ?_); rintro e w5 ⟨rfl, hb⟩; refine ⟨_, rfl, ?_⟩; have n0_ := zqj (below_step (by repeat (first | (with_reducible first | exact HB.out | apply zqg | apply zqe | apply zqf) | exact HB.out)) hb); clear HB; have HB := n0_; clear n0_; (try clear hb); (try clear hb2); (try clear hk); (try clear hi)) | ((with_reducible refine gate_callee (f := 51) rfl ?_); refine goesL_ (some 6) rfl rfl Try.func51 (by kernel_rfl) rfl #[.int .u32 t105] rfl (by (try simp only [List.map_toArray, List.map_cons, List.map_nil]); first | done | rfl | (simp only [List.length_drop, List.length_take]; rfl)) ?_; (with_reducible refine (seal_four.calls t105 t106 _ A3.out).mono ?_); rintro e w6 ⟨rfl, hb⟩; refine ⟨_, rfl, ?_⟩; have n0_ := zqj (below_step (by repeat (first | (with_reducible first | exact HB.out | apply zqg | apply zqe | apply zqf) | exact HB.out)) hb); clear HB; have HB := n0_; clear n0_; (try clear hb); (try clear hb2); (try clear hk); (try clear hi)))
  go_ret
  exact ⟨by first | rfl | (simp [errW_none, errW_some] <;> rfl) | (simp [*, errW_none, errW_some] <;> rfl), by repeat (first | (with_reducible first | exact HB.out | apply zqg | apply zqe | apply zqf) | exact HB.out)⟩
 ·rw [if_neg c4] at H
  exact absurd H (by simp)
end Go.Proofs.Ytcbfnfggnocndaa.U
end

section
namespace Go.Proofs.Ytcbfnfggnocndaa
open Go.RowKit Go.Proofs.Ytcbfnfggnocndaa.U Go.Proofs.YtcbfnfggnocndaaW.PrintWords Go.Proofs.YtcbfnfggnocndaaW.PrintLast Math
theorem seal_More_eq (s : ByteArray) (hs : s.size ≤ 9223372036854775807) (c : Nat) (hc : c < 4294967296) : seal_More.f (c : Int) s = some ((moresN c s.data.toList : Nat) : Int) := by
  unfold seal_More.f
  rw [if_pos ⟨hs, by omega, by omega⟩, (mores_nat _ hc).1]
def sumN (s : ByteArray) : Nat := moresN 4294967295 s.data.toList ^^^ 4294967295
theorem sumN_lt (s : ByteArray) : sumN s < 4294967296 := Nat.xor_lt_two_pow (n := 32) (mores_nat s.data.toList (c := 4294967295) (by decide)).2 (by decide)
theorem seal_Sum_eq (s : ByteArray) (hs : s.size ≤ 9223372036854775807) : seal_Sum.f s = some ((sumN s : Nat) : Int) := by
  unfold seal_Sum.f
  have h := seal_More_eq s hs 4294967295 (by decide)
  have h2 := (mores_nat s.data.toList (c := 4294967295) (by decide)).2
  rw [show ((4294967295 : Nat) : Int) = 4294967295 from rfl] at h
  rw [h]
  simp only [Option.bind_some]
  have e : Go.bits .xor .u32 4294967295 ((moresN 4294967295 s.data.toList : Nat) : Int) = ((sumN s : Nat) : Int) := by
    have := u32_xor_nat 4294967295 (moresN 4294967295 s.data.toList) (by decide) h2
    rw [Nat.xor_comm] at this
    exact this
  rw [e]
def fourS (c : Nat) : ByteArray := strOfNums [(c : Int) % 256, (c : Int) / 256 % 256, (c : Int) / 65536 % 256, (c : Int) / 16777216 % 256]
theorem fourS_size (c : Nat) : (fourS c).size = 4 := by unfold fourS; rw [nums_size]; rfl
theorem seal_four_eq (c : Nat) : seal_four.f (c : Int) = some (fourS c) := rfl
def putS (s : ByteArray) : ByteArray := s ++ fourS (sumN s)
theorem putS_size (s : ByteArray) : (putS s).size = s.size + 4 := by unfold putS; rw [app_size, fourS_size]
theorem seal_Put_eq (s : ByteArray) (hs : s.size ≤ 9223372036854775803) : seal_Put.f s = some (putS s) := by
  unfold seal_Put.f
  rw [seal_Sum_eq s (by omega)]
  simp only [Option.bind_some]
  rw [seal_four_eq]
  simp only [Option.bind_some]
  rw [if_pos (by rw [fourS_size]; omega)]
  rfl
end Go.Proofs.Ytcbfnfggnocndaa
end

section
namespace Go.Proofs.Ytcbfnfggnocndaa.V
open Go.RowKit Go.Proofs.YtcbfnfggnocndaaW.PrintWords Go.Proofs.YtcbfnfggnocndaaW.PrintLast Go.Proofs.YtcbfnfggnocndaaW.PrintMore
attribute [local go_sem] max2_int min2_int max_two min_two max_three min_three max_four min_four   -- for this text's walks alone
attribute [local go_sem high] Go.Proofs.Ytcbfnfggnocndaa.px_xor_u8 Go.Proofs.Ytcbfnfggnocndaa.px_xor_u16 Go.Proofs.Ytcbfnfggnocndaa.px_xor_u32 Go.Proofs.Ytcbfnfggnocndaa.px_xor_u64
def errW : Option Int → Value
  | none => .nilIface
  | some c => .iface 0 (.int .i64 c)
theorem errW_none : errW none = .nilIface := rfl
theorem errW_some (c : Int) : errW (some c) = .iface 0 (.int .i64 c) := rfl
theorem info5 : (Try.prog.info? 5).map (fun i => (i.zero, i.size, i.bytes)) = some (some (.int .u8 0), 1, 1) := by kernel_rfl
structure S88 where
  f0 : Int
  f1 : ByteArray
def z88 : S88 := ⟨(0 : Int), (⟨#[]⟩ : ByteArray)⟩
def k88 : Kd S88 := Kd.iso (Kd.pair (Kd.int .i64) Kd.string) (fun x : S88 => (x.f0, x.f1))
theorem k88_open {w : World} {x : S88} {cs : List Value} (h : k88.K w x cs) : cs = [.int .i64 x.f0, .string x.f1] := by
  obtain ⟨_, _, rfl, rfl, rfl⟩ := h
  exact rfl
theorem k88_mkM (w : World) (base : Nat) (ok : Nat → Prop) (x : S88)  : k88.M w base ok x [.int .i64 x.f0, .string x.f1] := ⟨[.int .i64 x.f0], [.string x.f1], rfl, rfl, rfl⟩
def rd_T88 (xs : List S88) (i : Int) : S88 := xs.getD i.toNat z88
theorem at_T88 {w : World} {A : Option Addr} {n : Nat} {xs : List S88} (h : Kd.C k88 w A n xs) (i : Int) (h0 : 0 ≤ i) (h1 : i < n) : ∃ ad , A = some ad ∧ w.cell? (ad.add (i.toNat * 2)) = some (.int .i64 (rd_T88 xs i).f0) ∧ w.cell? ⟨(ad.add (i.toNat * 2)).block, (ad.add (i.toNat * 2)).off + 1, none⟩ = some (.string (rd_T88 xs i).f1) := by
  obtain ⟨ad, c, e, _, hK, hc0⟩ := Kd.C_get h z88 i h0 h1
  have hc : ∀ j u, c[j]? = some u → w.cell? (ad.add (i.toNat * 2 + j)) = some u := hc0
  obtain rfl := k88_open hK
  exact ⟨ad, e, hc 0 _ rfl, by rw [← add_field _ _ 1 (by omega)]; exact hc 1 _ rfl⟩
end Go.Proofs.Ytcbfnfggnocndaa.V
end

section
namespace Go.Proofs.Ytcbfnfggnocndaa.V
open Go.RowKit Go.Proofs.YtcbfnfggnocndaaW.PrintWords Go.Proofs.YtcbfnfggnocndaaW.PrintLast Go.Proofs.YtcbfnfggnocndaaW.PrintMore
attribute [local go_sem] max2_int min2_int max_two min_two max_three min_three max_four min_four   -- for this text's walks alone
attribute [local go_sem high] Go.Proofs.Ytcbfnfggnocndaa.px_xor_u8 Go.Proofs.Ytcbfnfggnocndaa.px_xor_u16 Go.Proofs.Ytcbfnfggnocndaa.px_xor_u32 Go.Proofs.Ytcbfnfggnocndaa.px_xor_u64
def seal_four.f (a0 : Int) : Option (ByteArray) := some (strOfNums (([(a0) % 256, (a0 / 256) % 256, (a0 / 65536) % 256, (a0 / 16777216) % 256] : List Int)))
set_option maxHeartbeats 8000000 in
set_option maxRecDepth 100000 in
theorem seal_four.calls (a0 : Int) (r : ByteArray) (w : World) (h : seal_four.f a0 = some r) :
  Calls Try.prog 51 #[.int .u32 a0] w fun e w' => e = .returned (.string r) ∧ Below w.heap.size w w' := by
 have HB := zqj (Below.refl w.heap.size w)
 have H : (some (strOfNums (([(a0) % 256, (a0 / 256) % 256, (a0 / 65536) % 256, (a0 / 16777216) % 256] : List Int)))) = some r := h
 clear h
 obtain ⟨y101, hy101⟩ : ∃ y_ : List Int, y_ = (([(a0) % 256, (a0 / 256) % 256, (a0 / 65536) % 256, (a0 / 16777216) % 256] : List Int)) := ⟨_, rfl⟩
 replace H : (some (strOfNums y101)) = some r := by first | (rw [hy101]; with_reducible exact H) | (have H2_ := (Option.bind_some _ _).symm.trans H; rw [hy101]; with_reducible exact H2_) | (have H2_ := (Option.bind_some _ _).symm.trans H; with_reducible exact H2_) | with_reducible exact H | (rw [hy101]; exact H) | exact H
 have Ny101 := zqj hy101
 clear hy101
 obtain rfl := Option.some.inj H
 go_enter Try.func51, Try.ntmps51
 go_wp2_with (first | ((with_reducible refine gate_dst (N := 14) rfl ?_); refine Kd.R_lit (Kd.int .u8) _ 5 ?hg (N := 14) ?hd (xs := ([(a0) % 256, (a0 / 256) % 256, (a0 / 65536) % 256, (a0 / 16777216) % 256] : List Int)) (inner := [.int .u8 ((a0) % 256), .int .u8 ((a0 / 256) % 256), .int .u8 ((a0 / 65536) % 256), .int .u8 ((a0 / 16777216) % 256)]) (ok := fun _ => True) (okp := fun _ => True) ?hr ?hp (fun _ hk => hk) trivial (Below.refl _ _) (Nat.le_refl _) (by simp) ?_; (case hd => rfl); (case hg => rfl); (case hr => first | (go_simp; done) | (go_simp; rfl)); (case hp => exact (Reps.one (show Kd.M (Kd.int .u8) _ _ _ ((a0) % 256) [.int .u8 ((a0) % 256)] from rfl) (Reps.one (show Kd.M (Kd.int .u8) _ _ _ ((a0 / 256) % 256) [.int .u8 ((a0 / 256) % 256)] from rfl) (Reps.one (show Kd.M (Kd.int .u8) _ _ _ ((a0 / 65536) % 256) [.int .u8 ((a0 / 65536) % 256)] from rfl) (Reps.one (show Kd.M (Kd.int .u8) _ _ _ ((a0 / 16777216) % 256) [.int .u8 ((a0 / 16777216) % 256)] from rfl) (Reps.none _ _)))))); intro v102 w2 ho3 hb hg_ hnew_; clear hg_ hnew_; (first | rw [← Ny101.out] at ho3 | (simp only [Int.reduceToNat] at ho3; rw [← Ny101.out] at ho3)); have n0_ := zqj (Kd.R_lower ho3 (below_size (by repeat (first | (with_reducible first | exact HB.out | apply zqg | apply zqe | apply zqf) | exact HB.out)))); have n1_ := zqj (below_step (by repeat (first | (with_reducible first | exact HB.out | apply zqg | apply zqe | apply zqf) | exact HB.out)) hb); clear HB; have HO103 := n0_; have HB := n1_; clear n0_ n1_; clear hb ho3; have hcv4 := own_string (P := Try.prog) Try.underlying71 Try.underlying5 Try.underlying9 (Kd.own_of_R HO103.out)))
 go_ret
 exact ⟨by first | rfl | (simp [errW_none, errW_some] <;> rfl) | (simp [*, errW_none, errW_some] <;> rfl), by repeat (first | (with_reducible first | exact HB.out | apply zqg | apply zqe | apply zqf) | exact HB.out)⟩
def seal_Sum.f (a0 : ByteArray) : Option (Int) := (seal_More.f 4294967295 a0).bind fun t104 => (some (Go.bits .xor .u32 4294967295 t104))
set_option maxHeartbeats 8000000 in
set_option maxRecDepth 100000 in
theorem seal_Sum.calls (a0 : ByteArray) (r : Int) (w : World) (h : seal_Sum.f a0 = some r) :
  Calls Try.prog 52 #[.string a0] w fun e w' => e = .returned (.int .u32 r) ∧ Below w.heap.size w w' := by
 have HB := zqj (Below.refl w.heap.size w)
 have H : ((seal_More.f 4294967295 a0).bind fun t104 => (some (Go.bits .xor .u32 4294967295 t104))) = some r := h
 clear h
 replace H := zqn H
 obtain ⟨t104, A20, H⟩ := H
 replace H : (some (Go.bits .xor .u32 4294967295 t104)) = some r := H
 have A2 := zqj A20
 clear A20
 obtain rfl := Option.some.inj H
 go_enter Try.func52, Try.ntmps52
 go_wp2_with (first | ((with_reducible refine gate_callee (f := 62) rfl ?_); refine goesL_ (some 4) rfl rfl Try.func62 (by kernel_rfl) rfl #[.int .u32 4294967295, .string a0] rfl (by (try simp only [List.map_toArray, List.map_cons, List.map_nil]); first | done | rfl | (simp only [List.length_drop, List.length_take]; rfl)) ?_; (with_reducible refine (seal_More.calls 4294967295 a0 t104 _ A2.out).mono ?_); rintro e w3 ⟨rfl, hb⟩; refine ⟨_, rfl, ?_⟩; have n0_ := zqj (below_step (by repeat (first | (with_reducible first | exact HB.out | apply zqg | apply zqe | apply zqf) | exact HB.out)) hb); clear HB; have HB := n0_; clear n0_; (try clear hb); (try clear hb2); (try clear hk); (try clear hi)))
 go_ret
 exact ⟨by first | rfl | (simp [errW_none, errW_some] <;> rfl) | (simp [*, errW_none, errW_some] <;> rfl), by repeat (first | (with_reducible first | exact HB.out | apply zqg | apply zqe | apply zqf) | exact HB.out)⟩
def seal_Put.f (a0 : ByteArray) : Option (ByteArray) := (seal_Sum.f a0).bind fun t105 => ((seal_four.f t105).bind fun t106 => (if a0.size + t106.size ≤ 9223372036854775807 then (some (a0 ++ t106)) else (none)))
set_option maxHeartbeats 8000000 in
set_option maxRecDepth 100000 in
theorem seal_Put.calls (a0 : ByteArray) (r : ByteArray) (w : World) (h : seal_Put.f a0 = some r) :
  Calls Try.prog 34 #[.string a0] w fun e w' => e = .returned (.string r) ∧ Below w.heap.size w w' := by
 have HB := zqj (Below.refl w.heap.size w)
 have H : ((seal_Sum.f a0).bind fun t105 => ((seal_four.f t105).bind fun t106 => (if a0.size + t106.size ≤ 9223372036854775807 then (some (a0 ++ t106)) else (none)))) = some r := h
 clear h
 replace H := zqn H
 obtain ⟨t105, A20, H⟩ := H
 replace H : ((seal_four.f t105).bind fun t106 => (if a0.size + t106.size ≤ 9223372036854775807 then (some (a0 ++ t106)) else (none))) = some r := H
 have A2 := zqj A20
 clear A20
 replace H := zqn H
 obtain ⟨t106, A30, H⟩ := H
 replace H : (if a0.size + t106.size ≤ 9223372036854775807 then (some (a0 ++ t106)) else (none)) = some r := H
 have A3 := zqj A30
 clear A30
 by_cases c4 : a0.size + t106.size ≤ 9223372036854775807
 ·rw [if_pos c4] at H
  have c4b0 := eq_true c4
  have c4b1 : decide (a0.size + t106.size ≤ 9223372036854775807) = true := decide_eq_true c4
  try have c4b2 : (9223372036854775807 < a0.size + t106.size) = False := eq_false (Nat.not_lt.2 c4)
  obtain rfl := Option.some.inj H
  go_enter Try.func34, Try.ntmps34
  go_wp2_with (first | ((with_reducible refine gate_callee (f := 52) rfl ?_); refine goesL_ (some 5) rfl rfl Try.func52 (by kernel_rfl) rfl #[.string a0] rfl (by (try simp only [List.map_toArray, List.map_cons, List.map_nil]); first | done | rfl | (simp only [List.length_drop, List.length_take]; rfl)) ?_; (with_reducible refine (seal_Sum.calls a0 t105 _ A2.out).mono ?_); rintro e w5 ⟨rfl, hb⟩; refine ⟨_, rfl, ?_⟩; have n0_ := zqj (below_step (by repeat (first | (with_reducible first | exact HB.out | apply zqg | apply zqe | apply zqf) | exact HB.out)) hb); clear HB; have HB := n0_; clear n0_; (try clear hb); (try clear hb2); (try clear hk); (try clear hi)) | ((with_reducible refine gate_callee (f := 51) rfl ?_); refine goesL_ (some 6) rfl rfl Try.func51 (by kernel_rfl) rfl #[.int .u32 t105] rfl (by (try simp only [List.map_toArray, List.map_cons, List.map_nil]); first | done | rfl | (simp only [List.length_drop, List.length_take]; rfl)) ?_; (with_reducible refine (seal_four.calls t105 t106 _ A3.out).mono ?_); rintro e w6 ⟨rfl, hb⟩; refine ⟨_, rfl, ?_⟩; have n0_ := zqj (below_step (by repeat (first | (with_reducible first | exact HB.out | apply zqg | apply zqe | apply zqf) | exact HB.out)) hb); clear HB; have HB := n0_; clear n0_; (try clear hb); (try clear hb2); (try clear hk); (try clear hi)))
  go_ret
  exact ⟨by first | rfl | (simp [errW_none, errW_some] <;> rfl) | (simp [*, errW_none, errW_some] <;> rfl), by repeat (first | (with_reducible first | exact HB.out | apply zqg | apply zqe | apply zqf) | exact HB.out)⟩
 ·rw [if_neg c4] at H
  exact absurd H (by simp)
def redo_number.l0 : Nat → Int → List Int → Int → Option (ByteArray)
 | 0, _, _, _ => none
 | k + 1, x0, x3, x5 => if x5 < 8 then (if 0 ≤ (wrap64 (8 * x5)) then (if x3.length < 140737488355328 then (redo_number.l0 k x0 (x3 ++ [(shr .u64 x0 (wrap64 (8 * x5))) % 256]) (wrap64 (x5 + 1))) else (none)) else (none)) else (some (strOfNums x3))
def redo_number.f (k : Nat) (a0 : Int) : Option (ByteArray) := redo_number.l0 k a0 ([] : List Int) 0
theorem redo_number.mono_l : ∀ k, (∀ y0 y1 y2, LeO (redo_number.l0 k y0 y1 y2) (redo_number.l0 (k + 1) y0 y1 y2))
 | 0 => fun _ _ _ r h => by simp [redo_number.l0] at h
 | k + 1 => by
  have ih0 := redo_number.mono_l k
  ·intro y0 y1 y2
   unfold redo_number.l0
   repeat' first
   | (with_reducible exact ih0 _ _ _)
   | (with_reducible exact LeO.refl _)
   | (with_reducible exact LeO.none _)
   | (with_reducible refine LeO.ite ?_ ?_)
   | (with_reducible refine LeO.bind ?_ (fun _ => ?_))
   | exact ih0 _ _ _
   | exact LeO.none _
   | refine LeO.ite ?_ ?_
   | refine LeO.bind ?_ (fun _ => ?_)
theorem redo_number.mono : ∀ a0 k, LeO (redo_number.f k a0) (redo_number.f (k + 1) a0) := by
 intro a0 k
 have ih0 := redo_number.mono_l k
 unfold redo_number.f
 repeat' first
   | (with_reducible exact ih0 _ _ _)
   | (with_reducible exact LeO.refl _)
   | (with_reducible exact LeO.none _)
   | (with_reducible refine LeO.ite ?_ ?_)
   | (with_reducible refine LeO.bind ?_ (fun _ => ?_))
   | exact ih0 _ _ _
   | exact LeO.none _
   | refine LeO.ite ?_ ?_
   | refine LeO.bind ?_ (fun _ => ?_)
set_option maxHeartbeats 8000000 in
set_option maxRecDepth 100000 in
theorem redo_number.calls (k : Nat) (a0 : Int) (r : ByteArray) (w : World) (h : redo_number.f k a0 = some r) :
  Calls Try.prog 35 #[.int .u64 a0] w fun e w' => e = .returned (.string r) ∧ Below w.heap.size w w' := by
 have HB := zqj (Below.refl w.heap.size w)
 have H : (redo_number.l0 k a0 ([] : List Int) 0) = some r := h
 clear h
 have H' := zqj H
 clear H
 go_enter Try.func35, Try.ntmps35
 go_wp2
 go_loopg [3, 5] k (fun kq v3 v5 w' => ∃ (x3_1 : List Int) (x5_1 : Int), v5 = .int .i64 x5_1 ∧ Aside0 (redo_number.l0 kq a0 x3_1 x5_1 = some r) ∧ Aside0 (kq ≤ k) ∧ Aside0 (Kd.R (Kd.int .u8) 5 w' w.heap.size (fun _ => True) v3 x3_1) ∧ Aside0 (Below w.heap.size w w'))
 case atStart => exact ⟨(([] : List Int)), (0), (by first | rfl | (simp; done) | (simp [*]; done)), H', ⟨Nat.le_refl _⟩, ⟨by first | exact Kd.R_nil _ _ _ _ _ | exact Kd.N_nil _ _ _ _ _ | exact Kd.V_nil _ _ _ _ _ | exact Kd.Q_nil _ _ _ _ _ | exact Kd.S_nil _ _ _ _ _⟩, ⟨by repeat (first | (with_reducible first | exact HB.out | apply zqg | apply zqe | apply zqf) | exact HB.out)⟩⟩
 case round =>
  clear H'
  obtain ⟨x3_1, x5_1, rfl, HA, HK1, HO_3, HB⟩ := hrel
  cases gk with
  | zero => exact absurd HA.out (by simp [redo_number.l0])
  | succ k1 =>
   (have H := HA.out; clear HA)
   simp only [redo_number.l0] at H
   by_cases c2 : x5_1 < 8
   ·rw [if_pos c2] at H
    have c2b0 : decide (x5_1 < 8) = true := decide_eq_true c2
    clear c2
    obtain ⟨ji3, hji3⟩ : ∃ j_ : Int, (wrap64 (8 * x5_1)) = j_ := ⟨_, rfl⟩
    replace H : (if 0 ≤ (ji3) then (if x3_1.length < 140737488355328 then (redo_number.l0 k1 a0 (x3_1 ++ [(shr .u64 a0 (ji3)) % 256]) (wrap64 (x5_1 + 1))) else (none)) else (none)) = some r := by first | (rw [hji3] at H; exact H) | (simp only [hji3] at H ⊢; exact H)
    have hji3w : (IntKind.i64.wrap (8 * x5_1)) = ji3 := (i64_w _).trans hji3
    by_cases c4 : 0 ≤ (ji3)
    ·rw [if_pos c4] at H
     have c4b0 := eq_true c4
     have c4b1 : decide (0 ≤ (ji3)) = true := decide_eq_true c4
     clear c4
     obtain ⟨ji5, hji5⟩ : ∃ j_ : Int, (shr .u64 a0 (ji3)) = j_ := ⟨_, rfl⟩
     replace H : (if x3_1.length < 140737488355328 then (redo_number.l0 k1 a0 (x3_1 ++ [(ji5) % 256]) (wrap64 (x5_1 + 1))) else (none)) = some r := by first | (rw [hji5] at H; exact H) | (simp only [hji5] at H ⊢; exact H)
     have hji5_ : (a0 / 2 ^ min (ji3).toNat 64) = ji5 := hji5
     have hji5z : (ji3) ≤ 64 → (a0 / 2 ^ (ji3).toNat) = ji5 := shr_small hji5
     by_cases c6 : x3_1.length < 140737488355328
     ·rw [if_pos c6] at H
      have LMc6 := zqj c6
      clear c6
      obtain ⟨y107, hy107⟩ : ∃ y_ : List Int, y_ = (x3_1 ++ [(ji5) % 256]) := ⟨_, rfl⟩
      replace H : (redo_number.l0 k1 a0 y107 (wrap64 (x5_1 + 1))) = some r := by first | (rw [hy107]; with_reducible exact H) | (have H2_ := (Option.bind_some _ _).symm.trans H; rw [hy107]; with_reducible exact H2_) | (have H2_ := (Option.bind_some _ _).symm.trans H; with_reducible exact H2_) | with_reducible exact H | (rw [hy107]; exact H) | exact H
      have Ny107 := zqj hy107
      clear hy107
      have H' := zqj H
      clear H
      go_wp2_with (first | ((with_reducible refine gate_builtin (b := .append) (xs := #[.tmp 8, .tmp 14]) rfl ?_); at_builtin; refine Kd.R_append (Kd.int .u8) (w0 := w) w.heap.size rfl (.tmp 8) (.tmp 14) 71 5 (.int .u8 0) 1 rfl Try.underlying71 info5 rfl (by decide) (by omega) u3 x3_1 ((ji5) % 256) [.int .u8 ((ji5) % 256)] (fun _ => True) (fun _ => False) rfl rfl ?aP (fun _ hk => hk.elim) ?aF ?aO ?aB ?aS ?aL ?_; (case aP => exact rfl); (case aB => exact (by repeat (first | (with_reducible first | exact HB.out | apply zqg | apply zqe | apply zqf) | exact HB.out))); (case aF => exact (fun _ _ => trivial)); (case aO => exact (by (with_reducible repeat (first | apply Kd.R_alloc | apply Kd.R_drewN | apply Kd.R_drew)); exact HO_3.out)); (case aS => exact (below_size (by repeat (first | (with_reducible first | exact HB.out | apply zqg | apply zqe | apply zqf) | exact HB.out)))); (case aL => have := LMc6.out; omega); intro v108 w7 ho hb hg hat; rw [← Ny107.out] at ho; have n0_ := zqj (hb); have n1_ := zqj (ho); clear HB; clear HO_3; have HB := n0_; have HO109 := n1_; clear n0_ n1_; clear ho hb hg hat))
      go_roundg k1
      case measure => have := HK1.out; omega
      case rel => exact ⟨(y107), (wrap64 (x5_1 + 1)), (by first | rfl | (simp; done) | (simp [*]; done)), H', ⟨by have := HK1.out; omega⟩, ⟨by (with_reducible repeat (first | apply Kd.R_alloc | apply Kd.R_drewN | apply Kd.R_drew)); exact HO109.out⟩, ⟨by repeat (first | (with_reducible first | exact HB.out | apply zqg | apply zqe | apply zqf) | exact HB.out)⟩⟩
     ·rw [if_neg c6] at H
      exact absurd H (by simp)
    ·rw [if_neg c4] at H
     exact absurd H (by simp)
   ·rw [if_neg c2] at H
    have c2b0 : decide (x5_1 < 8) = false := decide_eq_false c2
    clear c2
    obtain rfl := Option.some.inj H
    have hcv8 := own_string (P := Try.prog) Try.underlying71 Try.underlying5 Try.underlying9 (Kd.own_of_R HO_3.out)
    go_wp2
    go_ret
    exact ⟨by first | rfl | (simp [errW_none, errW_some] <;> rfl) | (simp [*, errW_none, errW_some] <;> rfl), by repeat (first | (with_reducible first | exact HB.out | apply zqg | apply zqe | apply zqf) | exact HB.out)⟩
def redo_Record.f (k : Nat) (a0 : Int) (a1 : ByteArray) : Option (ByteArray) := (redo_number.f k a0).bind fun t110 => ((octet_Text.f a1).bind fun t111 => (if t110.size + t111.size ≤ 9223372036854775807 then ((seal_Put.f (t110 ++ t111)).bind fun t112 => (some t112)) else (none)))
theorem redo_Record.mono : ∀ a0 a1 k, LeO (redo_Record.f k a0 a1) (redo_Record.f (k + 1) a0 a1) := by
 intro a0 a1 k
 unfold redo_Record.f
 repeat' first
   | (with_reducible exact redo_number.mono _ _)
   | (with_reducible exact LeO.refl _)
   | (with_reducible exact LeO.none _)
   | (with_reducible refine LeO.ite ?_ ?_)
   | (with_reducible refine LeO.bind ?_ (fun _ => ?_))
   | exact redo_number.mono _ _
   | exact LeO.none _
   | refine LeO.ite ?_ ?_
   | refine LeO.bind ?_ (fun _ => ?_)
set_option maxHeartbeats 8000000 in
set_option maxRecDepth 100000 in
theorem redo_Record.calls (k : Nat) (a0 : Int) (a1 : ByteArray) (r : ByteArray) (w : World) (h : redo_Record.f k a0 a1 = some r) :
  Calls Try.prog 15 #[.int .u64 a0, .string a1] w fun e w' => e = .returned (.string r) ∧ Below w.heap.size w w' := by
 have HB := zqj (Below.refl w.heap.size w)
 have H : ((redo_number.f k a0).bind fun t110 => ((octet_Text.f a1).bind fun t111 => (if t110.size + t111.size ≤ 9223372036854775807 then ((seal_Put.f (t110 ++ t111)).bind fun t112 => (some t112)) else (none)))) = some r := h
 clear h
 replace H := zqn H
 obtain ⟨t110, A30, H⟩ := H
 replace H : ((octet_Text.f a1).bind fun t111 => (if t110.size + t111.size ≤ 9223372036854775807 then ((seal_Put.f (t110 ++ t111)).bind fun t112 => (some t112)) else (none))) = some r := H
 have A3 := zqj A30
 clear A30
 replace H := zqn H
 obtain ⟨t111, A40, H⟩ := H
 replace H : (if t110.size + t111.size ≤ 9223372036854775807 then ((seal_Put.f (t110 ++ t111)).bind fun t112 => (some t112)) else (none)) = some r := H
 have A4 := zqj A40
 clear A40
 by_cases c5 : t110.size + t111.size ≤ 9223372036854775807
 ·rw [if_pos c5] at H
  have c5b0 := eq_true c5
  have c5b1 : decide (t110.size + t111.size ≤ 9223372036854775807) = true := decide_eq_true c5
  try have c5b2 : (9223372036854775807 < t110.size + t111.size) = False := eq_false (Nat.not_lt.2 c5)
  replace H := zqn H
  obtain ⟨t112, A60, H⟩ := H
  replace H : (some t112) = some r := H
  have A6 := zqj A60
  clear A60
  obtain rfl := Option.some.inj H
  go_enter Try.func15, Try.ntmps15
  go_wp2_with (first | ((with_reducible refine gate_callee (f := 35) rfl ?_); refine goesL_ (some 6) rfl rfl Try.func35 (by kernel_rfl) rfl #[.int .u64 a0] rfl (by (try simp only [List.map_toArray, List.map_cons, List.map_nil]); first | done | rfl | (simp only [List.length_drop, List.length_take]; rfl)) ?_; (with_reducible refine (redo_number.calls k a0 t110 _ A3.out).mono ?_); rintro e w7 ⟨rfl, hb⟩; refine ⟨_, rfl, ?_⟩; have n0_ := zqj (below_step (by repeat (first | (with_reducible first | exact HB.out | apply zqg | apply zqe | apply zqf) | exact HB.out)) hb); clear HB; have HB := n0_; clear n0_; (try clear hb); (try clear hb2); (try clear hk); (try clear hi)) | ((with_reducible refine gate_callee (f := 36) rfl ?_); refine goesL_ (some 8) rfl rfl Try.func36 (by kernel_rfl) rfl #[.string a1] rfl (by (try simp only [List.map_toArray, List.map_cons, List.map_nil]); first | done | rfl | (simp only [List.length_drop, List.length_take]; rfl)) ?_; (with_reducible refine (octet_Text.calls a1 t111 _ A4.out).mono ?_); rintro e w8 ⟨rfl, hb⟩; refine ⟨_, rfl, ?_⟩; have n0_ := zqj (below_step (by repeat (first | (with_reducible first | exact HB.out | apply zqg | apply zqe | apply zqf) | exact HB.out)) hb); clear HB; have HB := n0_; clear n0_; (try clear hb); (try clear hb2); (try clear hk); (try clear hi)) | ((with_reducible refine gate_callee (f := 34) rfl ?_); refine goesL_ (some 10) rfl rfl Try.func34 (by kernel_rfl) rfl #[.string (t110 ++ t111)] rfl (by (try simp only [List.map_toArray, List.map_cons, List.map_nil]); first | done | rfl | (simp only [List.length_drop, List.length_take]; rfl)) ?_; (with_reducible refine (seal_Put.calls (t110 ++ t111) t112 _ A6.out).mono ?_); rintro e w9 ⟨rfl, hb⟩; refine ⟨_, rfl, ?_⟩; have n0_ := zqj (below_step (by repeat (first | (with_reducible first | exact HB.out | apply zqg | apply zqe | apply zqf) | exact HB.out)) hb); clear HB; have HB := n0_; clear n0_; (try clear hb); (try clear hb2); (try clear hk); (try clear hi)))
  go_ret
  exact ⟨by first | rfl | (simp [errW_none, errW_some] <;> rfl) | (simp [*, errW_none, errW_some] <;> rfl), by repeat (first | (with_reducible first | exact HB.out | apply zqg | apply zqe | apply zqf) | exact HB.out)⟩
 ·rw [if_neg c5] at H
  exact absurd H (by simp)
def redo_sectors.f (a0 : Int) : Option (Int) := some (wrap64 (Int.tdiv (wrap64 ((wrap64 (a0 + 64)) - 1)) 64))
set_option maxHeartbeats 8000000 in
set_option maxRecDepth 100000 in
theorem redo_sectors.calls (a0 : Int) (r : Int) (w : World) (h : redo_sectors.f a0 = some r) :
  Calls Try.prog 33 #[.int .i64 a0] w fun e w' => e = .returned (.int .i64 r) ∧ Drawn0 w w' := by
 have H : (some (wrap64 (Int.tdiv (wrap64 ((wrap64 (a0 + 64)) - 1)) 64))) = some r := h
 clear h
 obtain rfl := Option.some.inj H
 go_enter Try.func33, Try.ntmps33
 go_wp2
 go_ret
 exact ⟨by first | rfl | (simp; done) | (simp [*]; done), by repeat (first | exact Drawn0.refl _ | apply Drawn0.step)⟩
def stringslite_HasPrefix.f (a0 : ByteArray) (a1 : ByteArray) : Option (Bool) := if (a0.size : Int) ≥ (a1.size : Int) then (if 0 ≤ (a1.size : Int) then (if (a1.size : Int) ≤ (a0.size : Int) then (some ((a0.extract 0 ((a1.size : Int) : Int).toNat).toList == a1.toList)) else (none)) else (none)) else (some false)
set_option maxHeartbeats 8000000 in
set_option maxRecDepth 100000 in
theorem stringslite_HasPrefix.calls (a0 : ByteArray) (a1 : ByteArray) (r : Bool) (w : World) (h : stringslite_HasPrefix.f a0 a1 = some r) :
  Calls Try.prog 75 #[.string a0, .string a1] w fun e w' => e = .returned (.bool r) ∧ Drawn0 w w' := by
 have H : (if (a0.size : Int) ≥ (a1.size : Int) then (if 0 ≤ (a1.size : Int) then (if (a1.size : Int) ≤ (a0.size : Int) then (some ((a0.extract 0 ((a1.size : Int) : Int).toNat).toList == a1.toList)) else (none)) else (none)) else (some false)) = some r := h
 clear h
 by_cases c3 : (a0.size : Int) ≥ (a1.size : Int)
 ·rw [if_pos c3] at H
  have c3b0 : decide ((a1.size : Int) ≤ (a0.size : Int)) = true := decide_eq_true c3
  have c3b1 : decide (a1.size ≤ a0.size) = true := decide_eq_true (Int.ofNat_le.mp c3)
  clear c3
  by_cases c4 : 0 ≤ (a1.size : Int)
  ·rw [if_pos c4] at H
   have c4b0 := eq_true c4
   have c4b1 : decide (0 ≤ (a1.size : Int)) = true := decide_eq_true c4
   clear c4
   by_cases c5 : (a1.size : Int) ≤ (a0.size : Int)
   ·rw [if_pos c5] at H
    have c5b0 := eq_true c5
    have c5b1 : decide ((a1.size : Int) ≤ (a0.size : Int)) = true := decide_eq_true c5
    clear c5
    obtain rfl := Option.some.inj H
    go_enter Try.func75, Try.ntmps75
    go_wp2
    go_ret
    exact ⟨by first | rfl | (simp; done) | (simp [*]; done), by repeat (first | exact Drawn0.refl _ | apply Drawn0.step)⟩
   ·rw [if_neg c5] at H
    exact absurd H (by simp)
  ·rw [if_neg c4] at H
   exact absurd H (by simp)
 ·rw [if_neg c3] at H
  have c3b0 : decide ((a1.size : Int) ≤ (a0.size : Int)) = false := decide_eq_false c3
  have c3b1 : decide (a1.size ≤ a0.size) = false := decide_eq_false (fun h => c3 (Int.ofNat_le.mpr h))
  clear c3
  obtain rfl := Option.some.inj H
  go_enter Try.func75, Try.ntmps75
  go_wp2
  go_ret
  exact ⟨by first | rfl | (simp; done) | (simp [*]; done), by repeat (first | exact Drawn0.refl _ | apply Drawn0.step)⟩
def strings_HasPrefix.f (a0 : ByteArray) (a1 : ByteArray) : Option (Bool) := (stringslite_HasPrefix.f a0 a1).bind fun t113 => (some t113)
set_option maxHeartbeats 8000000 in
set_option maxRecDepth 100000 in
theorem strings_HasPrefix.calls (a0 : ByteArray) (a1 : ByteArray) (r : Bool) (w : World) (h : strings_HasPrefix.f a0 a1 = some r) :
  Calls Try.prog 65 #[.string a0, .string a1] w fun e w' => e = .returned (.bool r) ∧ Drawn0 w w' := by
 have H : ((stringslite_HasPrefix.f a0 a1).bind fun t113 => (some t113)) = some r := h
 clear h
 replace H := zqn H
 obtain ⟨t113, A30, H⟩ := H
 replace H : (some t113) = some r := H
 have A3 := zqj A30
 clear A30
 obtain rfl := Option.some.inj H
 go_enter Try.func65, Try.ntmps65
 go_wp2_with (first | ((with_reducible refine gate_callee (f := 75) rfl ?_); refine goesL_ (some 7) rfl rfl Try.func75 (by kernel_rfl) rfl #[.string a0, .string a1] rfl (by (try simp only [List.map_toArray, List.map_cons, List.map_nil]); first | done | rfl | (simp only [List.length_drop, List.length_take]; rfl)) ?_; (with_reducible refine (stringslite_HasPrefix.calls a0 a1 t113 _ A3.out).mono ?_); rintro e w' ⟨rfl, ⟨nd, rfl⟩⟩; refine ⟨_, rfl, ?_⟩))
 go_ret
 exact ⟨by first | rfl | (simp; done) | (simp [*]; done), by repeat (first | exact Drawn0.refl _ | apply Drawn0.step)⟩
end Go.Proofs.Ytcbfnfggnocndaa.V
end
