import Derived.Test.YtcbfnfggnocndaaZRedoCr22
import Derived.Deep.RegionHeld3
import Derived.Deep.RegionWith
import Derived.Deep.RegionLawGrows
import Derived.Deep.AppendLies
import Derived.IntWalk
import Derived.Test.YtcbfnfggnocndaaProg
import Derived.Below
import Derived.OwnWalk
import Derived.WalkKit
import Derived.WalkMore
import Derived.ScopeJumps
import Derived.KernelRfl
import Derived.RowKit3
import Derived.Lib.Hide
import Derived.Laws.BitsAllLaws
import Derived.Outline
import Derived.Deep.DeepMust
import Derived.Test.YtcbfnfggnocndaaZRedoCr1
import Derived.Shelf.Strings.Builder1
import Derived.Shelf.Strings.Builder2
import Derived.Shelf.Strings.OnBuilder
import Derived.Shelf.Strings.BuilderF
import Derived.Shelf.Strings.BuilderK
import Derived.Shelf.Strings.Builder2Cap
import Derived.Shelf.Strings.Prefix
import Derived.Shelf.Strings.BuilderCap
import Derived.Deep.LoopGhost
import Derived.Lib.Join
import Derived.OneCell
import Derived.Laws.EntriesVeiled
import Derived.BigQuiet
import Derived.Deep.QuietTactic
import Derived.Test.YtcbfnfggnocndaaZRedoCrA
set_option linter.unusedVariables false
set_option linter.unusedSimpArgs false
section
namespace Go.Proofs.Ytcbfnfggnocndaa.Q
open Go.RowKit Go.Shelf Go.Proofs.YtcbfnfggnocndaaW.PrintWords Go.Proofs.YtcbfnfggnocndaaW.PrintLast Go.Proofs.YtcbfnfggnocndaaW.PrintMore
def fillS (s : ByteArray) : ByteArray := s ++ strOfNums (List.replicate (64 - s.size) 0)
theorem zeros_calls (n : Nat) (hn : n ≤ 64) (w : World) : Calls Try.prog 61 #[.int .i64 n] w fun e w' => e = .returned (.string (strOfNums (List.replicate n 0))) ∧ Below w.heap.size w w' :=
 T.disk_zeros.calls n _ w (by unfold T.disk_zeros.f; rw [if_pos (by omega), if_pos (by simp; omega)]; simp)
structure WBox (w : World) (a b c : Value) (W : World) : Prop where
 below : Below w.heap.size w W
 box : W.heap[w.heap.size]? = some (.cells #[a, b, c] 25 (0, 0))
 out : W.heap[w.heap.size + 1]? = some (.cells #[.slice none 0 0, .slice none 0 0, .bool false] 25 (0, 0))
theorem WBox.step {w : World} {a b c : Value} {W V : World} (h : WBox w a b c W) (hb : Below W.heap.size W V) : WBox w a b c V :=
 ⟨h.below.trans (hb.mono h.below.size), (hb.block _ (blk_lt h.box)).trans h.box, (hb.block _ (blk_lt h.out)).trans h.out⟩
theorem WBox.cell {w : World} {a b c : Value} {W : World} (h : WBox w a b c W) : W.cell? ⟨w.heap.size, 1, none⟩ = some b := by rw [blk_cell h.box]; rfl
theorem info_put : (Try.prog.info? 88).map (fun i => (i.zero, i.size, i.bytes)) = some (some (.agg #[.int .i64 0, .string ⟨#[]⟩]), 2, 24) := by kernel_rfl
def flatP (l : List S88) : List Value := (l.map fun x => [Value.int .i64 x.f0, Value.string x.f1]).flatten
theorem flatP_len (l : List S88) : (flatP l).length = l.length * 2 := by
 induction l with
 | nil => rfl
 | cons x l ih => simp only [flatP, List.map_cons, List.flatten_cons, List.length_append, List.length_cons, List.length_nil] at ih ⊢; omega
theorem flatP_at (l : List S88) : ∀ (j : Nat) (hj : j < l.length), (flatP l)[j * 2]? = some (.int .i64 l[j].f0) ∧ (flatP l)[j * 2 + 1]? = some (.string l[j].f1) := by
 induction l with
 | nil => intro j hj; cases hj
 | cons x l ih =>
  intro j hj
  cases j with
  | zero => exact ⟨rfl, rfl⟩
  | succ j =>
   have h := ih j (by simpa using hj)
   have e1 : (j + 1) * 2 = j * 2 + 1 + 1 := by omega
   rw [e1]
   simp only [flatP, List.map_cons, List.flatten_cons, List.cons_append, List.nil_append, List.getElem?_cons_succ, List.getElem_cons_succ] at h ⊢
   exact h
theorem flatP_reads {w : World} {A : Option Addr} {l : List S88} (h : Kd.C k88 w A l.length l) : ∀ b, A = some b → ∀ j u, (flatP l)[j]? = some u → w.cell? (b.add j) = some u := by
 intro b hb j u hj
 have hl : j < l.length * 2 := by rw [← flatP_len]; exact (List.getElem?_eq_some_iff.1 hj).1
 obtain ⟨ad, he, h0, h1⟩ := at_T88 h ((j / 2 : Nat) : Int) (by omega) (by omega)
 rw [hb] at he
 obtain rfl := Option.some.inj he
 rw [Int.toNat_natCast] at h0 h1
 have hd := flatP_at l (j / 2) (by omega)
 have hrd : rd_T88 l ((j / 2 : Nat) : Int) = l[j / 2]'(by omega) := by
  show l.getD (j / 2) _ = _
  rw [List.getD_eq_getElem?_getD, List.getElem?_eq_getElem (by omega)]; rfl
 rw [hrd] at h0 h1
 rcases Nat.mod_two_eq_zero_or_one j with hm | hm
 ·have e : j = j / 2 * 2 := by omega
  rw [e] at hj ⊢
  rw [hd.1] at hj
  rw [← hj]
  have : j / 2 * 2 / 2 = j / 2 := by omega
  simpa [this] using h0
 ·have e : j = j / 2 * 2 + 1 := by omega
  rw [e] at hj ⊢
  rw [hd.2] at hj
  rw [← hj]
  have : (j / 2 * 2 + 1) / 2 = j / 2 := by omega
  rw [← add_field _ _ 1 (by omega)] at h1
  simpa [this] using h1
theorem R_of_rows {w : World} {base : Nat} {v : Value} {xs : List S88} (h : w.ownsRow base 88 2 v xs.length (flatP xs)) : Kd.R k88 88 w base (fun k => base ≤ k) v xs := by
 refine ⟨fun k hk => own_base h k hk, flatP xs, h, flatP_len xs, fun j p hj => ?_⟩
 obtain ⟨hl, hp⟩ := List.getElem?_eq_some_iff.1 hj
 have h2 := flatP_at xs j hl
 rw [hp] at h2
 have e : ((flatP xs).drop (j * 2)).take 2 = [.int .i64 p.f0, .string p.f1] := by
  apply List.ext_getElem?
  intro i
  rw [List.getElem?_take, List.getElem?_drop]
  match i with
  | 0 => exact h2.1
  | 1 => exact h2.2
  | i + 2 => rw [if_neg (by omega)]; rfl
 show k88.M w base _ p (((flatP xs).drop (j * 2)).take 2)
 rw [e]
 exact k88_mkM _ _ _ p
set_option maxRecDepth 100000 in
set_option maxHeartbeats 4000000 in
theorem write_good (A0_0 : Option Addr) (c0_0 n0 : Nat) (A0_1 : Option Addr) (c0_1 : Nat) (l0_1 : List S88) (at_ : Int) (s : ByteArray) (w : World) (h0 : 0 ≤ at_) (h1 : at_ < n0) (hs : s.size ≤ 64) (hn0 : n0 ≤ 9223372036854775807) (hl : l0_1.length ≤ 1000000000) (hc : l0_1.length ≤ c0_1)
  (hr : Kd.C k88 w A0_1 l0_1.length l0_1) :
  Calls Try.prog 50 #[.agg #[.slice A0_0 n0 c0_0, .slice A0_1 l0_1.length c0_1, .bool false], .int .i64 at_, .string s] w fun e w' => ∃ v1_ : Value, e = .returned (.tuple #[.agg #[.slice A0_0 n0 c0_0, v1_, .bool false], .int .i64 0]) ∧
   Kd.R k88 88 w' w.heap.size (fun _ => True) v1_ (l0_1 ++ [⟨at_, fillS s⟩]) ∧ Below w.heap.size w w' := by
 have HR := Lib.hid hr
 clear hr
 have hd1 : decide (at_ < 0) = false := decide_eq_false (by omega)
 have hd2 : decide ((n0 : Int) ≤ at_) = false := decide_eq_false (by omega)
 have hd3 : decide (64 < s.size) = false := decide_eq_false (by omega)
 have hsz : (64 : Int) - (s.size : Int) = ((64 - s.size : Nat) : Int) := by omega
 have hwr : IntKind.i64.wrap (((64 - s.size : Nat)) : Int) = ((64 - s.size : Nat) : Int) := IntWalk.i64_in _ (by omega)
 obtain ⟨i0, hi0, hz0, hz1, hz2⟩ := info_parts info_put
 have hzc := fun W => zeros_calls (64 - s.size) (by omega) W
 have hss : s.size + (strOfNums (List.replicate (64 - s.size) 0)).size ≤ 9223372036854775807 := by rw [Math.nums_size, List.length_replicate]; omega
 have hfill : fillS s = s ++ strOfNums (List.replicate (64 - s.size) 0) := rfl
 generalize strOfNums (List.replicate (64 - s.size) 0) = Z at *
 have hss2 : ¬ (9223372036854775807 < s.size + Z.size) := by omega
 have HZC := Lib.hid hzc
 have HN := Lib.hid (show A0_1 = none → l0_1.length = 0 ∧ l0_1.length = 0 from fun e => by
  subst e
  by_cases h : 0 < l0_1.length
  ·obtain ⟨_, h, _⟩ := HR.out.2.2 h; cases h
  ·omega)
 clear hzc
 rw [hfill]
 clear hfill
 go_enter Try.func50, Try.ntmps50
 go_wp2_with fail
 have HB0 : Hid (WBox w (.slice A0_0 n0 c0_0) (.slice A0_1 l0_1.length c0_1) (.bool false) ((w.alloc (.cells #[.slice A0_0 n0 c0_0, .slice A0_1 l0_1.length c0_1, .bool false] 25)).alloc (.cells #[.slice none 0 0, .slice none 0 0, .bool false] 25)).drew) := by
  refine Lib.hid ⟨below_drew (((Below.refl _ w).alloc (Nat.le_refl _) _).alloc (by rw [World.size_alloc]; omega) _), ?_, ?_⟩
  ·exact (heap_alloc_old _ _ (by rw [World.size_alloc]; omega)).trans (heap_alloc_new _ _)
  ·have h := heap_alloc_new (w.alloc (.cells #[.slice A0_0 n0 c0_0, .slice A0_1 l0_1.length c0_1, .bool false] 25)) (.cells #[.slice none 0 0, .slice none 0 0, .bool false] 25)
   rw [World.size_alloc] at h
   exact h
 refine start_ (n := 21) (S := fun w' => w'.cell? ⟨w.heap.size, 1, none⟩ = some (.slice A0_1 l0_1.length c0_1)) (ds := [20]) #[false, false, false, false, false, false, false, false, false, false, false, false, false, false, false, false, false, false, false, false, false] (by kernel_rfl) rfl rfl (HB0.out.cell) (fun hHeld => ?_)
 refine pure_ (i := 0) (N := some 29) (v := ?_) (a' := ?_) #[true, false, false, false, false, false, false, false, false, false, false, false, false, false, false, false, false, false, false, false, false] rfl rfl (by kernel_rfl) (fun _ _ _ h => h) (Or.inl ⟨by rfl, ?_⟩) ?_ ?_
 (rotate_left; · (intro w'; go_simp; with_reducible rfl))
 (rotate_left; · (simp only [Act.put, zqk, zql, zqm, i64_w, i32_w]; rfl))
 refine pure_ (i := 2) (N := some 31) (v := ?_) (a' := ?_) #[true, false, true, false, false, false, false, false, false, false, false, false, false, false, false, false, false, false, false, false, false] rfl rfl (by kernel_rfl) (fun _ _ _ h => h) (Or.inl ⟨by rfl, ?_⟩) ?_ ?_
 (rotate_left; · (intro w'; go_simp; with_reducible rfl))
 (rotate_left; · (simp only [Act.put, zqk, zql, zqm, i64_w, i32_w]; rfl))
 refine pure_ (i := 5) (N := some 34) (v := ?_) (a' := ?_) #[true, false, true, false, false, true, false, false, false, false, false, false, false, false, false, false, false, false, false, false, false] rfl rfl (by kernel_rfl) (fun _ _ _ h => h) (Or.inl ⟨by rfl, ?_⟩) ?_ ?_
 (rotate_left; · (intro w'; go_simp; with_reducible rfl))
 (rotate_left; · (simp only [Act.put, zqk, zql, zqm, i64_w, i32_w]; rfl))
 refine pure_ (i := 9) (N := some 38) (v := ?_) (a' := ?_) #[true, false, true, false, false, true, false, false, false, true, false, false, false, false, false, false, false, false, false, false, false] rfl rfl (by kernel_rfl) (fun _ _ _ h => h) (Or.inl ⟨by rfl, ?_⟩) ?_ ?_
 (rotate_left; · (intro w'; go_simp; with_reducible rfl))
 (rotate_left; · (simp only [Act.put, zqk, zql, zqm, i64_w, i32_w]; rfl))
 refine pure_ (i := 10) (N := some 39) (v := ?_) (a' := ?_) #[true, false, true, false, false, true, false, false, false, true, true, false, false, false, false, false, false, false, false, false, false] rfl rfl (by kernel_rfl) (fun _ _ _ h => h) (Or.inl ⟨by rfl, ?_⟩) ?_ ?_
 (rotate_left; · (intro w'; go_simp; with_reducible rfl))
 (rotate_left; · (simp only [Act.put, zqk, zql, zqm, i64_w, i32_w]; rfl))
 refine pure_ (i := 11) (N := some 40) (v := ?_) (a' := ?_) #[true, false, true, false, false, true, false, false, false, true, true, true, false, false, false, false, false, false, false, false, false] rfl rfl (by kernel_rfl) (fun _ _ _ h => h) (Or.inl ⟨by rfl, ?_⟩) ?_ ?_
 (rotate_left; · (intro w'; go_simp; with_reducible rfl))
 (rotate_left; · (simp only [Act.put, zqk, zql, zqm, i64_w, i32_w]; rfl))
 refine pure_ (i := 12) (N := some 41) (v := ?_) (a' := ?_) #[true, false, true, false, false, true, false, false, false, true, true, true, true, false, false, false, false, false, false, false, false] rfl rfl (by kernel_rfl) (fun _ _ _ h => h) (Or.inl ⟨by rfl, ?_⟩) ?_ ?_
 (rotate_left; · (intro w'; go_simp; with_reducible rfl))
 (rotate_left; · (simp only [Act.put, zqk, zql, zqm, i64_w, i32_w]; rfl))
 refine pure_ (i := 13) (N := some 42) (v := ?_) (a' := ?_) #[true, false, true, false, false, true, false, false, false, true, true, true, true, true, false, false, false, false, false, false, false] rfl rfl (by kernel_rfl) (fun _ _ _ h => h) (Or.inl ⟨by rfl, ?_⟩) ?_ ?_
 (rotate_left; · (intro w'; go_simp; with_reducible rfl))
 (rotate_left; · (simp only [Act.put, zqk, zql, zqm, i64_w, i32_w]; rfl))
 refine take_ (i := 1) (N := some 30) (v := ?_) (a' := ?_) #[true, true, true, false, false, true, false, false, false, true, true, true, true, true, false, false, false, false, false, false, false] rfl rfl (by kernel_rfl) (fun _ _ _ h => h) (Or.inl ⟨by rfl, ?_⟩) hHeld ?_ ?_
 rotate_left
 ·intro w' s0
  go_simp
  with_reducible rfl
 (rotate_left; · (simp only [Act.put, zqk, zql, zqm, i64_w, i32_w]; rfl))
 refine take_ (i := 3) (N := some 32) (v := ?_) (a' := ?_) #[true, true, true, true, false, true, false, false, false, true, true, true, true, true, false, false, false, false, false, false, false] rfl rfl (by kernel_rfl) (fun _ _ _ h => h) (Or.inl ⟨by rfl, ?_⟩) hHeld ?_ ?_
 rotate_left
 ·intro w' s0
  go_simp
  with_reducible rfl
 (rotate_left; · (simp only [Act.put, zqk, zql, zqm, i64_w, i32_w]; rfl))
 refine pure_ (i := 4) (N := some 33) (v := ?_) (a' := ?_) #[true, true, true, true, true, true, false, false, false, true, true, true, true, true, false, false, false, false, false, false, false] rfl rfl (by kernel_rfl) (fun _ _ _ h => h) (Or.inl ⟨by rfl, ?_⟩) ?_ ?_
 (rotate_left; · (intro w'; go_simp; with_reducible rfl))
 (rotate_left; · (simp only [Act.put, zqk, zql, zqm, i64_w, i32_w]; rfl))
 refine take_ (i := 6) (N := some 35) (v := ?_) (a' := ?_) #[true, true, true, true, true, true, true, false, false, true, true, true, true, true, false, false, false, false, false, false, false] rfl rfl (by kernel_rfl) (fun _ _ _ h => h) (Or.inl ⟨by rfl, ?_⟩) hHeld ?_ ?_
 rotate_left
 ·intro w' s0
  go_simp
  with_reducible rfl
 (rotate_left; · (simp only [Act.put, zqk, zql, zqm, i64_w, i32_w]; rfl))
 refine pure_ (i := 7) (N := some 36) (v := ?_) (a' := ?_) #[true, true, true, true, true, true, true, true, false, true, true, true, true, true, false, false, false, false, false, false, false] rfl rfl (by kernel_rfl) (fun _ _ _ h => h) (Or.inl ⟨by rfl, ?_⟩) ?_ ?_
 (rotate_left; · (intro w'; go_simp; with_reducible rfl))
 (rotate_left; · (simp only [Act.put, zqk, zql, zqm, i64_w, i32_w]; rfl))
 refine pure_ (i := 8) (N := some 37) (v := ?_) (a' := ?_) #[true, true, true, true, true, true, true, true, true, true, true, true, true, true, false, false, false, false, false, false, false] rfl rfl (by kernel_rfl) (fun _ _ _ h => h) (Or.inl ⟨by rfl, ?_⟩) ?_ ?_
 (rotate_left; · (intro w'; go_simp; with_reducible rfl))
 (rotate_left; · (simp only [Act.put, zqk, zql, zqm, i64_w, i32_w]; rfl))
 refine one_ (i := 14) (N := some 43) #[true, true, true, true, true, true, true, true, true, true, true, true, true, true, true, false, false, false, false, false, false] rfl rfl (by kernel_rfl) (by decide) (fun K hK => ?_)
 refine goes_ Try.func61 (by kernel_rfl) rfl #[.int .i64 ((64 - s.size : Nat) : Int)] (by rfl) rfl rfl (by simp only [List.map_toArray, List.map_cons, List.map_nil]; rfl) ?_
 with_reducible refine (HZC.out _).mono ?_
 rintro e w3 ⟨rfl, hb⟩
 refine ⟨_, rfl, ?_⟩
 have hl0 := blk_lt (HB0.out.step hb).box
 have hl1 := blk_lt (HB0.out.step hb).out
 refine hK.out _ _ ((HB0.out.step hb).cell) (fun hHeld => ?_)
 clear hK K
 refine norm_ (a' := ?_) ?_ ?_
 rotate_left
 ·show Act.put _ (some 43) _ = _
  simp only [Act.put, zqk, zql, zqm, i64_w, i32_w]
  rfl
 refine pure_ (i := 15) (N := some 44) (v := ?_) (a' := ?_) #[true, true, true, true, true, true, true, true, true, true, true, true, true, true, true, true, false, false, false, false, false] rfl rfl (by kernel_rfl) (fun _ _ _ h => h) (Or.inl ⟨by rfl, ?_⟩) ?_ ?_
 (rotate_left; · (intro w'; go_simp; with_reducible rfl))
 (rotate_left; · (simp only [Act.put, zqk, zql, zqm, i64_w, i32_w]; rfl))
 refine pure_ (i := 16) (N := some 45) (v := ?_) (a' := ?_) #[true, true, true, true, true, true, true, true, true, true, true, true, true, true, true, true, true, false, false, false, false] rfl rfl (by kernel_rfl) (fun _ _ _ h => h) (Or.inl ⟨by rfl, ?_⟩) ?_ ?_
 (rotate_left; · (intro w'; go_simp; with_reducible rfl))
 (rotate_left; · (simp only [Act.put, zqk, zql, zqm, i64_w, i32_w]; rfl))
 refine one_ (i := 17) (N := some 46) #[true, true, true, true, true, true, true, true, true, true, true, true, true, true, true, true, true, true, false, false, false] rfl rfl (by kernel_rfl) (by decide) (fun K hK => ?_)
 refine value_ (w1 := ?_) (v := ?_) (by rfl) rfl ?_ ?_
 rotate_left 2
 ·go_simp
  constructor
  ·rfl
  ·rfl
 refine hK.out _ _ (((HB0.out.step hb).step ((Below.refl _ _).alloc (Nat.le_refl _) _)).cell) (fun hHeld => ?_)
 clear hK K
 refine norm_ (a' := ?_) ?_ ?_
 rotate_left
 ·show Act.put _ (some 46) _ = _
  simp only [Act.put, zqk, zql, zqm, i64_w, i32_w]
  rfl
 refine one_ (i := 18) (N := some 47) #[true, true, true, true, true, true, true, true, true, true, true, true, true, true, true, true, true, true, true, false, false] rfl rfl (by kernel_rfl) (by decide) (fun K hK => ?_)
 refine step_append_grows rfl _ _ _ rfl 88 i0 _ 2 24 Try.underlying23 hi0 hz0 hz1 hz2 rfl (by omega) A0_1 l0_1.length l0_1.length (flatP l0_1) rfl HN.out (flatP_len _) (flatP_reads (Kd.C_below HR.out ((HB0.out.step hb).step ((Below.refl _ _).alloc (Nat.le_refl _) _)).below)) ⟨w3.heap.size, 0, none⟩ 1 1 [.int .i64 at_, .string (s ++ Z)] rfl rfl (World.news_of_block (cs := #[.int .i64 at_, .string (s ++ Z)]) (t := 88) (fr := (0, 0)) (heap_alloc_new w3 _)) (by simp [Value.oneCell']) (by omega) (by unfold maxLen; omega) (by omega) ?_
 intro v1 w1 hown1 hgrow
 obtain ⟨g1, cap1, rfl⟩ := ownsRow_succ hown1
 have HBX := Lib.hid (((HB0.out.step hb).step ((Below.refl _ _).alloc (Nat.le_refl _) _)).step ((Below.refl _ _).grown hgrow (Nat.le_refl _) (fun _ e => by cases e)))
 have hq2 := zqi HBX.out.box 1
 refine hK.out _ _ (HBX.out.cell) (fun hHeld => ?_)
 clear hK K
 refine norm_ (a' := ?_) ?_ ?_
 rotate_left
 ·show Act.put _ (some 47) _ = _
  simp only [Act.put, zqk, zql, zqm, i64_w, i32_w]
  rfl
 refine pure_ (i := 19) (N := some 48) (v := ?_) (a' := ?_) #[true, true, true, true, true, true, true, true, true, true, true, true, true, true, true, true, true, true, true, true, false] rfl rfl (by kernel_rfl) (fun _ _ _ h => h) (Or.inl ⟨by rfl, ?_⟩) ?_ ?_
 (rotate_left; · (intro w'; go_simp; with_reducible rfl))
 (rotate_left; · (simp only [Act.put, zqk, zql, zqm, i64_w, i32_w]; rfl))
 refine last_ (i := 20) (N := none) #[true, true, true, true, true, true, true, true, true, true, true, true, true, true, true, true, true, true, true, true, true] rfl rfl (by kernel_rfl) (by decide) (fun K hK => ?_)
 have hq1 := HBX.out.cell
 refine skip_ (w1 := ?_) (by rfl) rfl ?_ ?_
 rotate_left
 ·go_simp
  rfl
 refine hK.out _ _ ?_
 clear hK K
 refine done_ (by kernel_rfl) ?_
 have q0 := blk_cell HBX.out.box 0; have q2 := blk_cell HBX.out.box 2
 have r0 := blk_cell HBX.out.out 0; have r1 := blk_cell HBX.out.out 1; have r2 := blk_cell HBX.out.out 2
 simp only [List.getElem?_toArray, List.getElem?_cons_zero, List.getElem?_cons_succ] at q0 q2 r0 r1 r2
 have f0 := zqi HBX.out.out 0; have f1 := zqi HBX.out.out 1; have f2 := zqi HBX.out.out 2
 have HO1 := Lib.hid hown1; have HG := Lib.hid hgrow; have HB := Lib.hid hb
 clear hown1 hgrow hb
 go_wp2_with fail
 refine bodyPost_ret (v := .tuple #[.agg #[.slice A0_0 n0 c0_0, .slice (some ⟨g1, 0, none⟩) (l0_1.length + 1) cap1, .bool false], .int .i64 0]) (by simp [results, Try.results50, go_sem, r0, r1, r2]) rfl ⟨_, rfl, ?_, ?_⟩
 ·have hR : Kd.R k88 88 w1 (w3.alloc (.cells #[.int .i64 at_, .string (s ++ Z)] 88)).heap.size (fun k => (w3.alloc (.cells #[.int .i64 at_, .string (s ++ Z)] 88)).heap.size ≤ k) (.slice (some ⟨g1, 0, none⟩) (l0_1.length + 1) cap1) (l0_1 ++ [⟨at_, s ++ Z⟩]) := by
   refine R_of_rows ?_
   have h := HO1.out
   rw [show flatP l0_1 ++ [.int .i64 at_, .string (s ++ Z)] = flatP (l0_1 ++ [⟨at_, s ++ Z⟩]) by simp [flatP]] at h
   rw [List.length_append]
   exact h
  have hl2 : w.heap.size + 1 < (w3.alloc (.cells #[.int .i64 at_, .string (s ++ Z)] 88)).heap.size := by rw [World.size_alloc]; omega
  exact Kd.R_mono (Kd.R_lower (Kd.R_far (Kd.R_far (Kd.R_far (Kd.R_far hR (fun k hk => by show k ≠ w.heap.size; omega) _) (fun k hk => by show k ≠ w.heap.size + 1; omega) _) (fun k hk => by show k ≠ w.heap.size + 1; omega) _) (fun k hk => by show k ≠ w.heap.size + 1; omega) _) (by omega)) (fun _ _ => trivial)
 ·exact (((HBX.out.below.setCell (p := ⟨w.heap.size, 1, none⟩) (Nat.le_refl _) _).setCell (p := ⟨w.heap.size + 1, 0, none⟩) (show w.heap.size ≤ w.heap.size + 1 by omega) _).setCell (p := ⟨w.heap.size + 1, 1, none⟩) (show w.heap.size ≤ w.heap.size + 1 by omega) _).setCell (p := ⟨w.heap.size + 1, 2, none⟩) (show w.heap.size ≤ w.heap.size + 1 by omega) _
def writeR (l0 : List ByteArray) (l1 : List S88) (off : Bool) (at_ : Int) (s : ByteArray) : List ByteArray × List S88 × Bool × Int :=
 if off = true then (l0, l1, off, 19) else if at_ < 0 ∨ (l0.length : Int) ≤ at_ then (l0, l1, off, 6) else if 64 < s.size then (l0, l1, off, 5) else (l0, l1 ++ [⟨at_, fillS s⟩], off, 0)
def disk_Write.f (l0_0 : List ByteArray) (l0_1 : List S88) (a0_2 : Bool) (a1 : Int) (a2 : ByteArray) : Option (List ByteArray × List S88 × Bool × Int) := if l0_1.length ≤ 1000000000 then some (writeR l0_0 l0_1 a0_2 a1 a2) else none
set_option maxRecDepth 100000 in
set_option maxHeartbeats 1000000 in
theorem write_off (A0_0 : Option Addr) (c0_0 n0 : Nat) (A0_1 : Option Addr) (c0_1 n1 : Nat) (at_ : Int) (s : ByteArray) (w : World) :
  Calls Try.prog 50 #[.agg #[.slice A0_0 n0 c0_0, .slice A0_1 n1 c0_1, .bool true], .int .i64 at_, .string s] w fun e w' => e = .returned (.tuple #[.agg #[.slice A0_0 n0 c0_0, .slice A0_1 n1 c0_1, .bool true], .int .i64 19]) ∧ Below w.heap.size w w' := by
 go_enter Try.func50, Try.ntmps50
 go_wp2_with fail
 refine bodyPost_ret (v := .tuple #[.agg #[.slice A0_0 n0 c0_0, .slice A0_1 n1 c0_1, .bool true], .int .i64 19]) (by simp [results, Try.results50, go_sem]) rfl ⟨rfl, ?_⟩
 exact ((Below.refl _ w).alloc (Nat.le_refl _) _).alloc (by rw [World.size_alloc]; omega) _
set_option maxRecDepth 100000 in
set_option maxHeartbeats 1000000 in
theorem write_low (A0_0 : Option Addr) (c0_0 n0 : Nat) (A0_1 : Option Addr) (c0_1 n1 : Nat) (at_ : Int) (s : ByteArray) (w : World) (h : at_ < 0) :
  Calls Try.prog 50 #[.agg #[.slice A0_0 n0 c0_0, .slice A0_1 n1 c0_1, .bool false], .int .i64 at_, .string s] w fun e w' => e = .returned (.tuple #[.agg #[.slice A0_0 n0 c0_0, .slice A0_1 n1 c0_1, .bool false], .int .i64 6]) ∧ Below w.heap.size w w' := by
 have hd1 : decide (at_ < 0) = true := decide_eq_true h
 go_enter Try.func50, Try.ntmps50
 go_wp2_with fail
 refine bodyPost_ret (v := .tuple #[.agg #[.slice A0_0 n0 c0_0, .slice A0_1 n1 c0_1, .bool false], .int .i64 6]) (by simp [results, Try.results50, go_sem]) rfl ⟨rfl, ?_⟩
 exact ((Below.refl _ w).alloc (Nat.le_refl _) _).alloc (by rw [World.size_alloc]; omega) _
set_option maxRecDepth 100000 in
set_option maxHeartbeats 1000000 in
theorem write_high (A0_0 : Option Addr) (c0_0 n0 : Nat) (A0_1 : Option Addr) (c0_1 n1 : Nat) (at_ : Int) (s : ByteArray) (w : World) (h0 : 0 ≤ at_) (h : (n0 : Int) ≤ at_) :
  Calls Try.prog 50 #[.agg #[.slice A0_0 n0 c0_0, .slice A0_1 n1 c0_1, .bool false], .int .i64 at_, .string s] w fun e w' => e = .returned (.tuple #[.agg #[.slice A0_0 n0 c0_0, .slice A0_1 n1 c0_1, .bool false], .int .i64 6]) ∧ Below w.heap.size w w' := by
 have hd1 : decide (at_ < 0) = false := decide_eq_false (by omega)
 have hd2 : decide ((n0 : Int) ≤ at_) = true := decide_eq_true h
 go_enter Try.func50, Try.ntmps50
 go_wp2_with fail
 refine bodyPost_ret (v := .tuple #[.agg #[.slice A0_0 n0 c0_0, .slice A0_1 n1 c0_1, .bool false], .int .i64 6]) (by simp [results, Try.results50, go_sem]) rfl ⟨rfl, ?_⟩
 exact ((Below.refl _ w).alloc (Nat.le_refl _) _).alloc (by rw [World.size_alloc]; omega) _
set_option maxRecDepth 100000 in
set_option maxHeartbeats 1000000 in
theorem write_big (A0_0 : Option Addr) (c0_0 n0 : Nat) (A0_1 : Option Addr) (c0_1 n1 : Nat) (at_ : Int) (s : ByteArray) (w : World) (h0 : 0 ≤ at_) (h1 : at_ < n0) (h : 64 < s.size) :
  Calls Try.prog 50 #[.agg #[.slice A0_0 n0 c0_0, .slice A0_1 n1 c0_1, .bool false], .int .i64 at_, .string s] w fun e w' => e = .returned (.tuple #[.agg #[.slice A0_0 n0 c0_0, .slice A0_1 n1 c0_1, .bool false], .int .i64 5]) ∧ Below w.heap.size w w' := by
 have hd1 : decide (at_ < 0) = false := decide_eq_false (by omega)
 have hd2 : decide ((n0 : Int) ≤ at_) = false := decide_eq_false (by omega)
 have hd3 : decide (64 < s.size) = true := decide_eq_true h
 have hd4 : (64 : Int) < (s.size : Int) := by omega
 go_enter Try.func50, Try.ntmps50
 go_wp2_with fail
 refine bodyPost_ret (v := .tuple #[.agg #[.slice A0_0 n0 c0_0, .slice A0_1 n1 c0_1, .bool false], .int .i64 5]) (by simp [results, Try.results50, go_sem]) rfl ⟨rfl, ?_⟩
 exact ((Below.refl _ w).alloc (Nat.le_refl _) _).alloc (by rw [World.size_alloc]; omega) _
theorem disk_Write.calls (P0_0_ : Nat → Prop) (A0_0 : Option Addr) (c0_0 : Nat) (l0_0 : List ByteArray) (P0_1_ : Nat → Prop) (A0_1 : Option Addr) (c0_1 : Nat) (l0_1 : List S88) (a0_2 : Bool) (a1 : Int) (a2 : ByteArray) (r1 : List ByteArray) (r2 : List S88) (r3 : Bool) (r4 : Int) (w : World) (hs0_0 : Kd.V Kd.string 9 w w.heap.size (fun k_ => P0_0_ k_) (.slice A0_0 l0_0.length c0_0) l0_0) (hs0_1 : Kd.V k88 88 w w.heap.size (fun k_ => P0_1_ k_) (.slice A0_1 l0_1.length c0_1) l0_1) (h : disk_Write.f l0_0 l0_1 a0_2 a1 a2 = some (r1, r2, r3, r4)) :
  Calls Try.prog 50 #[.agg #[.slice A0_0 l0_0.length c0_0, .slice A0_1 l0_1.length c0_1, .bool a0_2], .int .i64 a1, .string a2] w fun e w' => ∃ v0_ v1_ : Value, e = .returned (.tuple #[.agg #[v0_, v1_, .bool r3], .int .i64 r4]) ∧ Kd.V Kd.string 9 w' w.heap.size (fun k_ => ((P0_0_ k_ ∨ P0_1_ k_) ∨ w.heap.size ≤ k_)) v0_ r1 ∧ Kd.V k88 88 w' w.heap.size (fun k_ => ((P0_0_ k_ ∨ P0_1_ k_) ∨ w.heap.size ≤ k_)) v1_ r2 ∧ Below w.heap.size w w' := by
 unfold disk_Write.f at h
 split at h
 ·rename_i hh
  have h2 := Option.some.inj h
  clear h
  have give : ∀ (code : Int), (r1, r2, r3, r4) = (l0_0, l0_1, a0_2, code) → ∀ e w', (e = Ending.returned (.tuple #[.agg #[.slice A0_0 l0_0.length c0_0, .slice A0_1 l0_1.length c0_1, .bool a0_2], .int .i64 code]) ∧ Below w.heap.size w w') →
    ∃ v0_ v1_ : Value, e = .returned (.tuple #[.agg #[v0_, v1_, .bool r3], .int .i64 r4]) ∧ Kd.V Kd.string 9 w' w.heap.size (fun k_ => ((P0_0_ k_ ∨ P0_1_ k_) ∨ w.heap.size ≤ k_)) v0_ r1 ∧ Kd.V k88 88 w' w.heap.size (fun k_ => ((P0_0_ k_ ∨ P0_1_ k_) ∨ w.heap.size ≤ k_)) v1_ r2 ∧ Below w.heap.size w w' := by
   rintro code hc e w' ⟨rfl, hb⟩
   simp only [Prod.mk.injEq] at hc
   obtain ⟨rfl, rfl, rfl, rfl⟩ := hc
   exact ⟨_, _, rfl, Kd.V_mono (Kd.V_below hs0_0 hb) (fun _ hk => .inl (.inl hk)), Kd.V_mono (Kd.V_below hs0_1 hb) (fun _ hk => .inl (.inr hk)), hb⟩
  unfold writeR at h2
  by_cases hoff : a0_2 = true
  ·rw [if_pos hoff] at h2
   subst hoff
   exact (write_off _ _ _ _ _ _ _ _ _).mono (give 19 h2.symm)
  ·rw [if_neg hoff] at h2
   obtain rfl : a0_2 = false := by simpa using hoff
   by_cases ha : a1 < 0 ∨ (l0_0.length : Int) ≤ a1
   ·rw [if_pos ha] at h2
    by_cases hlo : a1 < 0
    ·exact (write_low _ _ _ _ _ _ _ _ _ hlo).mono (give 6 h2.symm)
    ·exact (write_high _ _ _ _ _ _ _ _ _ (by omega) (by omega)).mono (give 6 h2.symm)
   ·rw [if_neg ha] at h2
    by_cases hb : 64 < a2.size
    ·rw [if_pos hb] at h2
     exact (write_big _ _ _ _ _ _ _ _ _ (by omega) (by omega) hb).mono (give 5 h2.symm)
    ·rw [if_neg hb] at h2
     simp only [Prod.mk.injEq] at h2
     obtain ⟨rfl, rfl, rfl, rfl⟩ := h2
     have hr0 := Kd.V_reads' hs0_0
     have hr1 := Kd.V_reads' hs0_1
     refine (write_good A0_0 c0_0 l0_0.length A0_1 c0_1 l0_1 a1 a2 w (by omega) (by omega) (by omega) (Kd.C_max hr0.2.2) hh hr1.2.1 hr1.2.2).mono ?_
     rintro e w' ⟨v, rfl, hR, hb⟩
     obtain ⟨A, c, rfl⟩ := Kd.R_slice hR
     have hR2 := Kd.R_bound hR
     exact ⟨_, _, rfl, Kd.V_mono (Kd.V_below hs0_0 hb) (fun _ hk => .inl (.inl hk)), Kd.V_mk (Kd.R_reads' hR).2.1 (Kd.R_F (Kd.R_mono hR2 (fun k hk => .inr hk.2.1))), hb⟩
 ·cases h
end Go.Proofs.Ytcbfnfggnocndaa.Q
end

section
namespace Go.Proofs.Ytcbfnfggnocndaa
open Go.RowKit Go.Proofs.YtcbfnfggnocndaaW.PrintWords
def numL (n : Nat) : List Int := if 128 ≤ n then ((n % 128 + 128 : Nat) : Int) :: numL (n / 128) else [(n : Int)]
termination_by n
theorem numL_lo {n : Nat} (h : ¬ 128 ≤ n) : numL n = [(n : Int)] := by rw [numL, if_neg h]
theorem numL_hi {n : Nat} (h : 128 ≤ n) : numL n = ((n % 128 + 128 : Nat) : Int) :: numL (n / 128) := by rw [numL, if_pos h]
theorem numL_len (k : Nat) : ∀ n : Nat, n < 128 ^ (k + 1) → (numL n).length ≤ k + 1 := by
  induction k with
  | zero => intro n h; rw [numL_lo (by simpa using h)]; simp
  | succ k ih =>
    intro n h
    by_cases h1 : 128 ≤ n
    · rw [numL_hi h1, List.length_cons]
      have := ih (n / 128) (by rw [Nat.div_lt_iff_lt_mul (by decide)]; rw [Nat.pow_succ] at h; exact h)
      omega
    · rw [numL_lo h1]; simp
theorem numL_len10 {n : Nat} (h : n < 18446744073709551616) : (numL n).length ≤ 10 := numL_len 9 n (Nat.lt_of_lt_of_le h (by decide))
theorem or128_all : ∀ x : Fin 256, x.val ||| 128 = x.val % 128 + 128 := by decide +kernel
theorem or128 (m : Nat) : Go.bits .or .u8 ((m : Int) % 256) 128 = ((m % 128 + 128 : Nat) : Int) := by
  rw [show ((m : Int) % 256) = ((m % 256 : Nat) : Int) from by omega]
  have h := u8_or_nat (m % 256) 128 (by omega) (by decide)
  rw [show ((128 : Nat) : Int) = 128 from rfl] at h
  rw [h]
  have h2 := or128_all ⟨m % 256, by omega⟩
  simp only at h2
  rw [h2]
  congr 1
  omega
def numS (n : Nat) : ByteArray := strOfNums (numL n)
theorem info5 : (Try.prog.info? 5).map (fun i => (i.zero, i.size, i.bytes)) = some (some (.int .u8 0), 1, 1) := by kernel_rfl
set_option maxHeartbeats 4000000 in
set_option maxRecDepth 1000000 in
theorem num_calls (n : Nat) (hn : n < 18446744073709551616) (w : World) :
    Calls Try.prog 54 #[.int .u64 n] w fun e w' => e = .returned (.string (numS n)) ∧ Below w.heap.size w w' := by
  have HL := Lib.hid (numL_len10 hn)
  go_enter Try.func54, Try.ntmps54
  go_wp2
  refine wp_scope_jumps 0 (fun a' w' => ∃ (m : Nat) (v : Value) (xs : List Int) (u4 u5 u6 u7 u8 u9 u10 u11 u12 u13 : Value), a' = { tmps := #[.int .u64 m, undef, .string { data := #[] }, v, u4, u5, u6, u7, u8, u9, u10, u11, u12, u13, undef, undef, undef, undef, undef, undef], defers := [] } ∧ m < 18446744073709551616 ∧ Hid (xs ++ numL m = numL n) ∧ Hid (w'.ownsRow w.heap.size 5 1 v xs.length (nums .u8 xs)) ∧ Hid (Below w.heap.size w w')) (fun a' _ => (intOf (a'.tmps.getD 0 undef)).toNat) rfl ?_ ?_
  · by_cases h : 128 ≤ n
    · have h0 : (128 : Int) ≤ (n : Int) := by omega
      have HO := Lib.hid (own_nil w w.heap.size 5 1)
      have HB := Lib.hid (Below.refl w.heap.size w)
      have HR := Lib.hid (or128 n)
      have HN := Lib.hid (numL_hi h)
      have HD : n / 128 < 18446744073709551616 := by omega
      go_wp2
      go_step3
      go_wp2_with (at_builtin; go_must (refine print_append_num (xs := []) w.heap.size rfl (.tmp 6) (.tmp 10) 71 5 .u8 1 rfl Try.underlying71 info5 (by decide) (.slice none 0 0) _ rfl rfl HO.out HB.out (Nat.le_refl _) (by simp) ?_); intro v1 w1 hown1 hb1 _ _; have HO1 := Lib.hid hown1; have HB1 := Lib.hid hb1; clear hown1 hb1)
      go_step3
      refine ⟨rfl, n / 128, v1, _, _, _, _, _, _, _, _, _, _, _, rfl, HD, Lib.hid ?_, HO1, HB1⟩
      rw [HN.out, HR.out]; rfl
    · have h0 : (n : Int) < 128 := by omega
      have HO := Lib.hid (own_nil w w.heap.size 5 1)
      have HB := Lib.hid (Below.refl w.heap.size w)
      have HN := Lib.hid (numL_lo h)
      have HM : (n : Int) % 256 = n := by omega
      go_wp2
      go_step3
      go_wp2_with (at_builtin; go_must (refine print_append_num (xs := []) w.heap.size rfl (.tmp 14) (.tmp 17) 71 5 .u8 1 rfl Try.underlying71 info5 (by decide) (.slice none 0 0) _ rfl rfl HO.out HB.out (Nat.le_refl _) (by simp) ?_); intro v1 w1 hown1 hb1 _ _; have hconv := own_string (P := Try.prog) (dst := 9) Try.underlying71 Try.underlying5 Try.underlying9 hown1; have HB1 := Lib.hid hb1; clear hown1 hb1)
      simp only [Exit.jump]
      go_ret
      refine ⟨?_, HB1.out⟩
      show Ending.returned (.string (strOfNums ([] ++ [(n : Int)]))) = _
      rw [← HN.out]; rfl
  · rintro a' W ⟨m, v, xs, u4, u5, u6, u7, u8, u9, u10, u11, u12, u13, rfl, hm, HX, HO, HB⟩
    have HL2 := Lib.hid (show xs.length + (numL m).length ≤ 10 by rw [← List.length_append, HX.out]; exact HL.out)
    by_cases h : 128 ≤ m
    · have h0 : (128 : Int) ≤ (m : Int) := by omega
      have HR := Lib.hid (or128 m)
      have HN := Lib.hid (numL_hi h)
      have HD : m / 128 < 18446744073709551616 := by omega
      go_wp2_with (at_builtin; go_must (refine print_append_num (xs := xs) w.heap.size rfl (.tmp 6) (.tmp 10) 71 5 .u8 1 rfl Try.underlying71 info5 (by decide) v _ rfl rfl HO.out HB.out HB.out.size (by have := HL2.out; omega) ?_); intro v1 w1 hown1 hb1 _ _; have HO1 := Lib.hid hown1; have HB1 := Lib.hid hb1; clear hown1 hb1)
      go_step3
      refine ⟨rfl, ⟨m / 128, v1, _, _, _, _, _, _, _, _, _, _, _, rfl, HD, Lib.hid ?_, HO1, HB1⟩, ?_⟩
      · rw [← HX.out, HN.out, HR.out, List.append_assoc]; rfl
      · simp [intOf]; omega
    · have h0 : (m : Int) < 128 := by omega
      have HN := Lib.hid (numL_lo h)
      have HM : (m : Int) % 256 = m := by omega
      go_wp2_with (at_builtin; go_must (refine print_append_num (xs := xs) w.heap.size rfl (.tmp 14) (.tmp 17) 71 5 .u8 1 rfl Try.underlying71 info5 (by decide) v _ rfl rfl HO.out HB.out HB.out.size (by have := HL2.out; omega) ?_); intro v1 w1 hown1 hb1 _ _; have hconv := own_string (P := Try.prog) (dst := 9) Try.underlying71 Try.underlying5 Try.underlying9 hown1; have HB1 := Lib.hid hb1; clear hown1 hb1)
      simp only [Exit.jump]
      go_ret
      refine ⟨?_, HB1.out⟩
      show Ending.returned (.string (strOfNums (xs ++ [(m : Int)]))) = _
      rw [← HN.out, HX.out]; rfl
end Go.Proofs.Ytcbfnfggnocndaa
end

section
/-
  DERIVED: THE SHELF's CONTRACTS AT THIS DUMP, IN PLAIN WORDS (tools/lay-plain.mjs out of 'TryShelf.lean', which tools/lay-shelf.mjs wrote): THE SAME DECLARATIONS UNDER THE SAME NAMES: 'import', 'namespace', 'open', 'def', 'theorem' AND NOTHING ELSE: no command of the shelf's: FOR A HAND-IN. Each laying: the table of numbers ('.._ren') and one theorem, a field a fact of the dump's own or the kernel's comparison; each contract: ONE APPLICATION.
-/
namespace Go.Proofs
open Go.Shelf
def Try.lays169_ren : Go.Shelf.Ren := ⟨fun | 169 => 74 | n => n, fun | 70 => 115 | 9 => 9 | 0 => 0 | 72 => 117 | 37 => 71 | 127 => 130 | 3 => 3 | 5 => 5 | n => n, fun | n => n⟩
theorem Try.lays169 : Go.Proofs.Lays.n169 Try.prog Try.lays169_ren := {
  mixed := by kernel_rfl
  f169 := Try.func74.trans (congrArg some (by kernel_rfl))
  t0 := Try.underlying0
  a0 := Try.isAgg0
  z0 := Try.sizeOf0
  v0 := Try.zeroValue0
  t3 := Try.underlying3
  a3 := Try.isAgg3
  z3 := Try.sizeOf3
  v3 := Try.zeroValue3
  t9 := Try.underlying9
  a9 := Try.isAgg9
  z9 := Try.sizeOf9
  v9 := Try.zeroValue9
  t37 := Try.underlying71
  a37 := Try.isAgg71
  z37 := Try.sizeOf71
  v37 := Try.zeroValue71
  t70 := Try.underlying115
  a70 := Try.isAgg115
  z70 := Try.sizeOf115
  v70 := Try.zeroValue115
  t72 := Try.underlying117
  a72 := Try.isAgg117
  z72 := Try.sizeOf117
  v72 := Try.zeroValue117
  t127 := Try.underlying130
  a127 := Try.isAgg130
  z127 := Try.sizeOf130
  v127 := Try.zeroValue130 }
theorem Try.Builder_Extra_169 : Builder.Extra Try.prog Try.lays169_ren := {
  sizeBuilder := by kernel_rfl
  liesBuilder := by kernel_rfl
  t5 := Try.underlying5
  a5 := Try.isAgg5
  z5 := Try.sizeOf5
  v5 := Try.zeroValue5
  infoByte := by kernel_rfl
  cellsByte := by kernel_rfl
  sizeByte := by kernel_rfl
  neB5 := by decide }
open Go.RowKit in
theorem Try.Builder_String_any (B b : Nat) (l : List UInt8) (w : World) (h : Lib.IsBuilder 117 5 B b (Lib.byteCells l) w) (hBw : B ≤ w.heap.size) :
    Calls Try.prog 74 #[.pointer (some ⟨b, 0, none⟩)] w fun e w' => e = .returned (.string ⟨l.toArray⟩) ∧ Below B w w' := Any.Builder_String_any Try.lays169 Try.Builder_Extra_169 B b l w h hBw
def Try.lays156_ren : Go.Shelf.Ren := ⟨fun | 156 => 63 | 165 => 72 | 166 => 73 | 169 => 74 | 240 => 79 | 241 => 80 | 276 => 82 | 277 => 83 | n => n, fun | 31 => 22 | 9 => 9 | 3 => 3 | 4 => 4 | 0 => 0 | 20 => 20 | 72 => 117 | 76 => 121 | 70 => 115 | 37 => 71 | 75 => 120 | 127 => 130 | 164 => 132 | 5 => 5 | 80 => 123 | n => n, fun | n => n⟩
theorem Try.lays156 : Go.Proofs.Lays.n156 Try.prog Try.lays156_ren := {
  mixed := by kernel_rfl
  f156 := Try.func63.trans (congrArg some (by kernel_rfl))
  f165 := Try.func72.trans (congrArg some (by kernel_rfl))
  f166 := Try.func73.trans (congrArg some (by kernel_rfl))
  f169 := Try.func74.trans (congrArg some (by kernel_rfl))
  f240 := Try.func79.trans (congrArg some (by kernel_rfl))
  f241 := Try.func80.trans (congrArg some (by kernel_rfl))
  f276 := Try.func82.trans (congrArg some (by kernel_rfl))
  f277 := Try.func83.trans (congrArg some (by kernel_rfl))
  t0 := Try.underlying0
  a0 := Try.isAgg0
  z0 := Try.sizeOf0
  v0 := Try.zeroValue0
  t3 := Try.underlying3
  a3 := Try.isAgg3
  z3 := Try.sizeOf3
  v3 := Try.zeroValue3
  t4 := Try.underlying4
  a4 := Try.isAgg4
  z4 := Try.sizeOf4
  v4 := Try.zeroValue4
  t9 := Try.underlying9
  a9 := Try.isAgg9
  z9 := Try.sizeOf9
  v9 := Try.zeroValue9
  t20 := Try.underlying20
  a20 := Try.isAgg20
  z20 := Try.sizeOf20
  v20 := Try.zeroValue20
  t31 := Try.underlying22
  a31 := Try.isAgg22
  z31 := Try.sizeOf22
  v31 := Try.zeroValue22
  t37 := Try.underlying71
  a37 := Try.isAgg71
  z37 := Try.sizeOf71
  v37 := Try.zeroValue71
  t70 := Try.underlying115
  a70 := Try.isAgg115
  z70 := Try.sizeOf115
  v70 := Try.zeroValue115
  t72 := Try.underlying117
  a72 := Try.isAgg117
  z72 := Try.sizeOf117
  v72 := Try.zeroValue117
  t75 := Try.underlying120
  a75 := Try.isAgg120
  z75 := Try.sizeOf120
  v75 := Try.zeroValue120
  t76 := Try.underlying121
  a76 := Try.isAgg121
  z76 := Try.sizeOf121
  v76 := Try.zeroValue121
  t127 := Try.underlying130
  a127 := Try.isAgg130
  z127 := Try.sizeOf130
  v127 := Try.zeroValue130
  t164 := Try.underlying132
  a164 := Try.isAgg132
  z164 := Try.sizeOf132
  v164 := Try.zeroValue132 }
theorem Try.Builder_Extra_156 : Builder.Extra Try.prog Try.lays156_ren := {
  sizeBuilder := by kernel_rfl
  liesBuilder := by kernel_rfl
  t5 := Try.underlying5
  a5 := Try.isAgg5
  z5 := Try.sizeOf5
  v5 := Try.zeroValue5
  infoByte := by kernel_rfl
  cellsByte := by kernel_rfl
  sizeByte := by kernel_rfl
  neB5 := by decide }
open Go.RowKit in
theorem Try.strings_Join (bk o c : Nat) (xs : List ByteArray) (sep : ByteArray) (w : World) (hcells : ∀ (j : Nat) x, xs[j]? = some x → w.cell? ⟨bk, o + j, none⟩ = some (.string x)) (hbk : bk < w.heap.size) (hN : xs.length ≤ 140737488355328) (hcap : xs.length ≤ c) (hlen : (Lib.join (xs.map (·.data.toList)) sep.data.toList).length ≤ 140737488355328) :
    Calls Try.prog 63 #[.slice (some ⟨bk, o, none⟩) xs.length c, .string sep] w fun e w' => e = .returned (.string ⟨(Lib.join (xs.map (·.data.toList)) sep.data.toList).toArray⟩) ∧ Below w.heap.size w w' := Any.strings_Join Try.lays156 Try.Builder_Extra_156 bk o c xs sep w hcells hbk hN hcap hlen
def Try.lays206_ren : Go.Shelf.Ren := ⟨fun | 206 => 75 | n => n, fun | 9 => 9 | 4 => 4 | 3 => 3 | n => n, fun | n => n⟩
theorem Try.lays206 : Go.Proofs.Lays.n206 Try.prog Try.lays206_ren := {
  mixed := by kernel_rfl
  f206 := Try.func75.trans (congrArg some (by kernel_rfl))
  t3 := Try.underlying3
  a3 := Try.isAgg3
  z3 := Try.sizeOf3
  v3 := Try.zeroValue3
  t4 := Try.underlying4
  a4 := Try.isAgg4
  z4 := Try.sizeOf4
  v4 := Try.zeroValue4
  t9 := Try.underlying9
  a9 := Try.isAgg9
  z9 := Try.sizeOf9
  v9 := Try.zeroValue9 }
open Go.RowKit Go.Lib in
theorem Try.stringslite_HasPrefix (s p : ByteArray) (w : World) :
    Calls Try.prog 75 #[.string s, .string p] w fun e w' => e = .returned (.bool (Lib.hasPrefix s.data.toList p.data.toList)) ∧ w' = w := Any.stringslite_HasPrefix Try.lays206 s p w
def Try.lays99_ren : Go.Shelf.Ren := ⟨fun | 99 => 65 | 206 => 75 | n => n, fun | 9 => 9 | 4 => 4 | 3 => 3 | n => n, fun | n => n⟩
theorem Try.lays99 : Go.Proofs.Lays.n99 Try.prog Try.lays99_ren := {
  mixed := by kernel_rfl
  f99 := Try.func65.trans (congrArg some (by kernel_rfl))
  f206 := Try.func75.trans (congrArg some (by kernel_rfl))
  t3 := Try.underlying3
  a3 := Try.isAgg3
  z3 := Try.sizeOf3
  v3 := Try.zeroValue3
  t4 := Try.underlying4
  a4 := Try.isAgg4
  z4 := Try.sizeOf4
  v4 := Try.zeroValue4
  t9 := Try.underlying9
  a9 := Try.isAgg9
  z9 := Try.sizeOf9
  v9 := Try.zeroValue9 }
open Go.RowKit Go.Lib in
theorem Try.strings_HasPrefix (s p : ByteArray) (w : World) :
    Calls Try.prog 65 #[.string s, .string p] w fun e w' => e = .returned (.bool (Lib.hasPrefix s.data.toList p.data.toList)) ∧ w' = w := Any.strings_HasPrefix Try.lays99 s p w
end Go.Proofs
end

section
namespace Go.Proofs.Ytcbfnfggnocndaa
open Go.RowKit Go.Proofs.YtcbfnfggnocndaaW.PrintWords Math
def flat (xs : List ByteArray) : List UInt8 := (xs.map (·.data.toList)).flatten
def joinS (xs : List ByteArray) : ByteArray := ⟨(flat xs).toArray⟩
theorem join_flat (xs : List (List UInt8)) : Lib.join xs [] = xs.flatten := by
  cases xs with
  | nil => rfl
  | cons x r => rw [Lib.join_cons, Lib.joinTail, List.flatten_cons]; simp
theorem ret_str {a b : ByteArray} (h : a = b) : Ending.returned (.string a) = .returned (.string b) := by rw [h]
theorem joined_calls (bk o c : Nat) (xs : List ByteArray) (w : World)
    (hcells : ∀ (j : Nat) x, xs[j]? = some x → w.cell? ⟨bk, o + j, none⟩ = some (.string x))
    (hbk : bk < w.heap.size) (hN : xs.length ≤ 140737488355328) (hcap : xs.length ≤ c) (hlen : (flat xs).length ≤ 140737488355328) :
    Calls Try.prog 53 #[.slice (some ⟨bk, o, none⟩) xs.length c] w fun e w' => e = .returned (.string (joinS xs)) ∧ Below w.heap.size w w' := by
  have HC := Lib.hid hcells
  have HJ := Lib.hid (Try.strings_Join bk o c xs ⟨#[]⟩ w hcells hbk hN hcap (by rw [show (⟨#[]⟩ : ByteArray).data.toList = [] from rfl, join_flat]; exact hlen))
  clear hcells
  go_enter Try.func53, Try.ntmps53
  go_wp2_with fail
  refine (HJ.out).mono ?_
  rintro e w' ⟨rfl, hb⟩
  have HB := Lib.hid hb
  clear hb
  go_wp2
  go_ret
  exact ⟨ret_str (by rw [join_flat]; rfl), HB.out⟩
theorem numS_size (n : Nat) : (numS n).size = (numL n).length := by unfold numS; rw [nums_size]
theorem numS_size10 {n : Nat} (h : n < 18446744073709551616) : (numS n).size ≤ 10 := by rw [numS_size]; exact numL_len10 h
def textS (s : ByteArray) : ByteArray := numS s.size ++ s
theorem textS_two (s : ByteArray) : joinS [numS s.size, s] = textS s := by
  apply inj
  rw [textS, app]
  simp [joinS, flat]
def octet_Text.f (a0 : ByteArray) : Option ByteArray := if a0.size ≤ 140737488355000 then some (textS a0) else none
set_option maxHeartbeats 4000000 in
set_option maxRecDepth 1000000 in
theorem text_calls (s : ByteArray) (hs : s.size ≤ 140737488355000) (w : World) :
    Calls Try.prog 36 #[.string s] w fun e w' => e = .returned (.string (textS s)) ∧ Below w.heap.size w w' := by
  have hm : (s.size : Int) % 18446744073709551616 = s.size := by omega
  have HN := Lib.hid (numS_size10 (n := s.size) (by omega))
  go_enter Try.func36, Try.ntmps36
  go_wp2_with fail
  refine (num_calls s.size (by omega) _).mono ?_
  rintro e w1 ⟨rfl, hb⟩
  have HB := Lib.hid hb
  have hbs := hb.size
  clear hb hm
  go_wp2_with fail
  refine (joined_calls w1.heap.size 0 2 [numS s.size, s] _ ?_ (by simp) (by simp) (by simp) ?_).mono ?_
  · intro j x hj
    match j, hj with
    | 0, hj => simp at hj; subst hj; rw [cell_of_row _ w1.heap.size (0 + 0) _ _ (0, 0) (heap_alloc_new w1 _)]; rfl
    | 1, hj => simp at hj; subst hj; rw [cell_of_row _ w1.heap.size (0 + 1) _ _ (0, 0) (heap_alloc_new w1 _)]; rfl
    | j + 2, hj => simp at hj
  · have := HN.out
    simp only [flat, List.map_cons, List.map_nil, List.flatten_cons, List.flatten_nil, List.append_nil, List.length_append]
    rw [← sz, ← sz]; omega
  rintro e w2 ⟨rfl, hb2⟩
  have HB2 := Lib.hid hb2
  clear hb2
  go_wp2
  go_ret
  refine ⟨ret_str (textS_two s), ?_⟩
  exact below_then (HB.out.alloc HB.out.size _) (by simp; omega) HB2.out
theorem octet_Text.calls (a0 : ByteArray) (r : ByteArray) (w : World) (h : octet_Text.f a0 = some r) :
    Calls Try.prog 36 #[.string a0] w fun e w' => e = .returned (.string r) ∧ Below w.heap.size w w' := by
  unfold octet_Text.f at h
  split at h
  · rename_i hh
    obtain rfl := Option.some.inj h
    exact text_calls a0 hh w
  · cases h
end Go.Proofs.Ytcbfnfggnocndaa
end

section
namespace Go.Proofs.Ytcbfnfggnocndaa
open Go.RowKit Go.Proofs.YtcbfnfggnocndaaW.PrintWords Math
theorem info9 : (Try.prog.info? 9).map (fun i => (i.zero, i.size, i.bytes)) = some (some (.string ⟨#[]⟩), 1, 16) := by kernel_rfl
end Go.Proofs.Ytcbfnfggnocndaa
end

section
namespace Go.Proofs.Ytcbfnfggnocndaa
open Go.RowKit Go.Proofs.YtcbfnfggnocndaaW.PrintWords Go.Proofs.YtcbfnfggnocndaaW.PrintLast Go.Proofs.YtcbfnfggnocndaaW.PrintMore Math
def takeN : Nat → Nat → List UInt8 → Nat × List UInt8 × Int
  | at_, _, [] => (0, [], if at_ = 10 then 3 else 2)
  | at_, acc, c :: r =>
    if at_ = 10 then (0, [], 3)
    else if c.toNat < 128 then (if (1 ≤ at_ ∧ c.toNat = 0) ∨ (at_ = 9 ∧ 1 < c.toNat) then (0, [], 3) else (acc + c.toNat * 2 ^ (7 * at_), r, 0))
    else takeN (at_ + 1) (acc + c.toNat % 128 * 2 ^ (7 * at_)) r
def outN (p : Nat × List UInt8 × Int) : Int × ByteArray × Int := ((p.1 : Int), ⟨p.2.1.toArray⟩, p.2.2)
def takeNumS (s : ByteArray) : Int × ByteArray × Int := outN (takeN 0 0 s.data.toList)
theorem bt_at_ (s : ByteArray) (i : Nat) (h : i < s.data.toList.length) : bt s (i : Int) = ((s.data.toList[i]).toNat : Int) := by
  unfold bt
  rw [dif_pos (by rw [Int.toNat_natCast, sz]; exact h)]
  simp only [Int.toNat_natCast]
  rfl
theorem drop_bytes (s : ByteArray) (i : Nat) : s.extract i s.size = ⟨(s.data.toList.drop i).toArray⟩ := by
  apply inj
  rw [ext_, List.take_of_length_le (by rw [← sz]; exact Nat.le_refl _)]
theorem and127 (c : UInt8) : IntKind.u64.wrap (Go.bits .and .u8 (c.toNat : Int) 127) = ((c.toNat % 128 : Nat) : Int) := by
  have hc := c.toNat_lt
  have h := u8_and_nat c.toNat 127 hc (by decide)
  rw [nat_mask7] at h
  rw [show ((127 : Nat) : Int) = 127 from rfl] at h
  rw [h, IntKind.wrap_u64]
  omega
theorem or_shl {acc x a : Nat} (ha : acc < 2 ^ (7 * a)) (hx : x * 2 ^ (7 * a) < 18446744073709551616) (ha9 : a ≤ 9) :
    Go.bits .or .u64 (acc : Int) (shl .u64 (x : Int) (wrap64 (7 * (a : Int)))) = ((acc + x * 2 ^ (7 * a) : Nat) : Int) := by
  have e : shl .u64 (x : Int) (wrap64 (7 * (a : Int))) = ((x * 2 ^ (7 * a) : Nat) : Int) := by
    unfold shl
    rw [w64 (by omega) (by omega), show (7 * (a : Int)).toNat = 7 * a from by omega, show min (7 * a) IntKind.u64.bits = 7 * a from by (have : IntKind.u64.bits = 64 := rfl); omega, IntKind.wrap_u64]
    have : ((x : Int) * 2 ^ (7 * a)) = ((x * 2 ^ (7 * a) : Nat) : Int) := by push_cast; rfl
    rw [this]; omega
  have hlt : 2 ^ (7 * a) ≤ 2 ^ 63 := Nat.pow_le_pow_right (by decide) (by omega)
  rw [e, u64_or_nat _ _ (by omega) hx, Nat.or_comm, Nat.mul_comm x, ← Nat.two_pow_add_eq_or_of_lt ha, Nat.add_comm]
theorem l0_ten (s : ByteArray) (hs : 10 ≤ s.size) (k : Nat) (acc : Int) : T.octet_TakeNum.l0 (k + 2) s acc 10 = some (0, ⟨#[]⟩, 3) := by
  simp only [T.octet_TakeNum.l0, T.octet_TakeNum.j1]
  by_cases h : (10 : Int) < (s.size : Int)
  · rw [if_pos h, if_neg (by decide), if_pos trivial]
  · rw [if_neg h, if_neg (by decide), if_pos trivial]
theorem tk_bad {a acc : Nat} {c : UInt8} {r : List UInt8} (ha : a ≤ 9) (hc : c.toNat < 128) (h : (1 ≤ a ∧ c.toNat = 0) ∨ (a = 9 ∧ 1 < c.toNat)) : takeN a acc (c :: r) = (0, [], 3) := by
  rw [takeN, if_neg (by omega), if_pos hc, if_pos h]
theorem tk_ok {a acc : Nat} {c : UInt8} {r : List UInt8} (ha : a ≤ 9) (hc : c.toNat < 128) (h : ¬((1 ≤ a ∧ c.toNat = 0) ∨ (a = 9 ∧ 1 < c.toNat))) : takeN a acc (c :: r) = (acc + c.toNat * 2 ^ (7 * a), r, 0) := by
  rw [takeN, if_neg (by omega), if_pos hc, if_neg h]
theorem tk_go {a acc : Nat} {c : UInt8} {r : List UInt8} (ha : a ≤ 9) (hc : ¬ c.toNat < 128) : takeN a acc (c :: r) = takeN (a + 1) (acc + c.toNat % 128 * 2 ^ (7 * a)) r := by
  rw [takeN, if_neg (by omega), if_neg hc]
theorem l0_eq (s : ByteArray) (hs : s.size ≤ 9223372036854775807) (d : Nat) : ∀ (a k acc : Nat), a + d = 10 → a ≤ s.size → acc < 2 ^ (7 * a) →
    T.octet_TakeNum.l0 (k + 2 * d + 2) s (acc : Int) (a : Int) = some (outN (takeN a acc (s.data.toList.drop a))) := by
  induction d with
  | zero =>
    intro a k acc ha hsz hacc
    obtain rfl : a = 10 := by omega
    have h := l0_ten s hsz k acc
    rw [show k + 2 * 0 + 2 = k + 2 from by omega, show ((10 : Nat) : Int) = 10 from rfl, h]
    cases hd : s.data.toList.drop 10 with
    | nil => rfl
    | cons c r => rfl
  | succ d ih =>
    intro a k acc ha hsz hacc
    rw [show k + 2 * (d + 1) + 2 = (k + 2 * d + 2) + 1 + 1 from by omega]
    generalize hK : k + 2 * d + 2 = K
    simp only [T.octet_TakeNum.l0, T.octet_TakeNum.j1]
    by_cases hlt : a < s.size
    · have hl : a < s.data.toList.length := by rw [← sz]; exact hlt
      rw [if_pos (by omega), if_pos (decide_eq_true (by omega)), if_pos (by omega), if_pos (by omega), if_pos (by rw [w64 (by omega) (by omega)]; omega)]
      rw [bt_at_ s a hl, List.drop_eq_getElem_cons hl, w64 (n := (a : Int) + 1) (by omega) (by omega)]
      generalize s.data.toList[a] = c
      have hc := c.toNat_lt
      have ha9 : a ≤ 9 := by omega
      rw [and127]
      by_cases hc1 : c.toNat < 128
      · rw [if_pos (by omega)]
        have e1 : ((a : Int) + 1).toNat = a + 1 := by omega
        have fin : ∀ (_ : ¬((1 ≤ a ∧ c.toNat = 0) ∨ (a = 9 ∧ 1 < c.toNat))), (some (Go.bits .or .u64 (acc : Int) (shl .u64 ((c.toNat % 128 : Nat) : Int) (wrap64 (7 * (a : Int)))), s.extract ((a : Int) + 1).toNat s.size, (0 : Int)) : Option (Int × ByteArray × Int)) = some (outN (takeN a acc (c :: s.data.toList.drop (a + 1)))) := by
          intro hn
          have hx : c.toNat % 128 * 2 ^ (7 * a) < 18446744073709551616 := by
            rw [Nat.mod_eq_of_lt hc1]
            by_cases h9 : a = 9
            · subst h9
              have : c.toNat ≤ 1 := by omega
              calc c.toNat * 2 ^ (7 * 9) ≤ 1 * 2 ^ (7 * 9) := Nat.mul_le_mul_right _ this
                _ < 18446744073709551616 := by decide
            · calc c.toNat * 2 ^ (7 * a) ≤ 127 * 2 ^ (7 * a) := Nat.mul_le_mul_right _ (by omega)
                _ ≤ 127 * 2 ^ 56 := Nat.mul_le_mul_left _ (Nat.pow_le_pow_right (by decide) (by omega))
                _ < 18446744073709551616 := by decide
          rw [tk_ok ha9 hc1 hn, or_shl hacc hx (by omega), e1, drop_bytes, Nat.mod_eq_of_lt hc1]
          rfl
        by_cases ha1 : 1 ≤ a
        · rw [if_pos (by omega)]
          by_cases hz : c.toNat = 0
          · rw [if_pos (by omega), tk_bad ha9 hc1 (.inl ⟨ha1, hz⟩)]; rfl
          · rw [if_neg (by omega)]
            by_cases h9 : a = 9
            · rw [if_pos (by omega)]
              by_cases h1 : 1 < c.toNat
              · rw [if_pos (by omega), tk_bad ha9 hc1 (.inr ⟨h9, h1⟩)]; rfl
              · rw [if_neg (by omega), if_pos (by omega), if_pos (by omega)]
                exact fin (by omega)
            · rw [if_neg (by omega), if_pos (by omega), if_pos (by omega)]
              exact fin (by omega)
        · rw [if_neg (by omega), if_neg (by omega), if_pos (by omega), if_pos (by omega)]
          exact fin (by omega)
      · rw [if_neg (by omega), tk_go ha9 hc1]
        by_cases h9 : a = 9
        · subst h9
          obtain rfl : d = 0 := by omega
          rw [show ((9 : Nat) : Int) + 1 = 10 from rfl, ← hK, show k + 2 * 0 + 2 = k + 2 from by omega, l0_ten s (by omega)]
          cases hd : s.data.toList.drop (9 + 1) with
          | nil => rfl
          | cons c r => rfl
        · have hx : c.toNat % 128 * 2 ^ (7 * a) < 18446744073709551616 := by
            calc c.toNat % 128 * 2 ^ (7 * a) ≤ 127 * 2 ^ (7 * a) := Nat.mul_le_mul_right _ (by omega)
              _ ≤ 127 * 2 ^ 56 := Nat.mul_le_mul_left _ (Nat.pow_le_pow_right (by decide) (by omega))
              _ < 18446744073709551616 := by decide
          rw [or_shl hacc hx (by omega), ← hK]
          exact ih (a + 1) k _ (by omega) (by omega) (by
            have : c.toNat % 128 * 2 ^ (7 * a) ≤ 127 * 2 ^ (7 * a) := Nat.mul_le_mul_right _ (by omega)
            rw [show 7 * (a + 1) = 7 * a + 7 from by omega, Nat.pow_add]
            omega)
    · obtain rfl : a = s.size := by omega
      rw [if_neg (by omega), if_neg (by decide), if_neg (by omega), List.drop_eq_nil_of_le (by rw [← sz]; exact Nat.le_refl _)]
      unfold takeN
      rw [if_neg (by omega)]
      rfl
theorem takeNum_T (s : ByteArray) (hs : s.size ≤ 9223372036854775807) (k : Nat) : T.octet_TakeNum.f (k + 22) s = some (takeNumS s) := by
  have h := l0_eq s hs 10 0 k 0 rfl (Nat.zero_le _) (by decide)
  exact h
theorem takeN_len (l : List UInt8) : ∀ a acc, (takeN a acc l).2.1.length ≤ l.length ∧ ((takeN a acc l).2.2 = 0 → (takeN a acc l).2.1.length < l.length) := by
  induction l with
  | nil => intro a acc; rw [takeN]; refine ⟨by simp, fun h => ?_⟩; simp only at h; split at h <;> cases h
  | cons c r ih =>
    intro a acc
    rw [takeN]
    split
    · exact ⟨by simp, fun h => by cases h⟩
    · split
      · split
        · exact ⟨by simp, fun h => by cases h⟩
        · exact ⟨by simp, fun _ => by simp⟩
      · have := ih (a + 1) (acc + c.toNat % 128 * 2 ^ (7 * a))
        simp only [List.length_cons]
        exact ⟨by omega, fun h => by have := this.2 h; omega⟩
theorem takeN_lt (l : List UInt8) : ∀ a acc, a ≤ 10 → (acc < 2 ^ (7 * a)) → (takeN a acc l).1 < 18446744073709551616 := by
  induction l with
  | nil => intro a acc _ _; rw [takeN]; show 0 < _; decide
  | cons c r ih =>
    intro a acc ha hacc
    rw [takeN]
    split
    · decide
    · rename_i h10
      split
      · rename_i hc
        split
        · decide
        · rename_i hn
          show acc + c.toNat * 2 ^ (7 * a) < _
          by_cases h9 : a = 9
          · subst h9
            have h1 : c.toNat ≤ 1 := by omega
            have : c.toNat * 2 ^ (7 * 9) ≤ 1 * 2 ^ (7 * 9) := Nat.mul_le_mul_right _ h1
            omega
          · have h2 : 2 ^ (7 * a) ≤ 2 ^ 56 := Nat.pow_le_pow_right (by decide) (by omega)
            have : c.toNat * 2 ^ (7 * a) ≤ 127 * 2 ^ (7 * a) := Nat.mul_le_mul_right _ (by omega)
            omega
      · by_cases h9 : a = 9
        · subst h9
          cases r with
          | nil => rw [takeN]; decide
          | cons c r => rw [takeN, if_pos rfl]; decide
        · refine ih (a + 1) _ (by omega) ?_
          have : c.toNat % 128 * 2 ^ (7 * a) ≤ 127 * 2 ^ (7 * a) := Nat.mul_le_mul_right _ (by omega)
          rw [show 7 * (a + 1) = 7 * a + 7 from by omega, Nat.pow_add]
          omega
theorem takeN0_lt (l : List UInt8) : (takeN 0 0 l).1 < 18446744073709551616 := takeN_lt l 0 0 (by decide) (by decide)
def textL (l : List UInt8) (m : Int) : List UInt8 × List UInt8 × Int :=
  if (takeN 0 0 l).2.2 = 0 then
    (if m < 0 ∨ m < ((takeN 0 0 l).1 : Int) then ([], [], 5)
     else if (takeN 0 0 l).2.1.length < (takeN 0 0 l).1 then ([], [], 2)
     else ((takeN 0 0 l).2.1.take (takeN 0 0 l).1, (takeN 0 0 l).2.1.drop (takeN 0 0 l).1, 0))
  else ([], [], (takeN 0 0 l).2.2)
def outT (p : List UInt8 × List UInt8 × Int) : ByteArray × ByteArray × Int := (⟨p.1.toArray⟩, ⟨p.2.1.toArray⟩, p.2.2)
theorem mk_size (l : List UInt8) : (⟨l.toArray⟩ : ByteArray).size = l.length := by rw [sz]
theorem takeText_T (s : ByteArray) (hs : s.size ≤ 9223372036854775807) (m : Int) (hm : -9223372036854775808 ≤ m ∧ m ≤ 9223372036854775807) (k : Nat) :
    T.octet_TakeText.f (k + 22) s m = some (outT (textL s.data.toList m)) := by
  unfold T.octet_TakeText.f
  rw [bs (takeNum_T s hs k)]
  have hlt := takeN0_lt s.data.toList
  have hl := (takeN_len s.data.toList 0 0).1
  rw [← sz] at hl
  unfold takeNumS textL
  generalize takeN 0 0 s.data.toList = p at *
  obtain ⟨n, r, e⟩ := p
  replace hlt : n < 18446744073709551616 := hlt
  replace hl : r.length ≤ s.size := hl
  by_cases he : e = 0
  · rw [if_pos (show (outN (n, r, e)).2.2 = 0 from he), if_pos (show (n, r, e).2.2 = 0 from he)]
    dsimp only [outN]
    have j0 : ∀ b : Bool, T.octet_TakeText.j0 (k + 22) (n : Int) ⟨r.toArray⟩ b = if b = true then some (⟨#[]⟩, ⟨#[]⟩, 5) else if r.length < n then some (⟨#[]⟩, ⟨#[]⟩, 2) else some (⟨(r.take n).toArray⟩, ⟨(r.drop n).toArray⟩, 0) := by
      intro b
      show T.octet_TakeText.j0 ((k + 21) + 1) _ _ _ = _
      rw [T.octet_TakeText.j0]
      by_cases hb : b = true
      · rw [if_pos hb, if_pos hb]
      · rw [if_neg hb, if_neg hb, mk_size, IntKind.wrap_u64]
        by_cases h2 : r.length < n
        · rw [if_pos (by omega), if_pos h2]
        · rw [if_neg (by omega), if_neg h2, if_pos (by omega), if_pos (by omega), Int.toNat_natCast]
          congr 2
          · apply inj; rw [ext_, List.drop_zero]
          · congr 1; apply inj; rw [ext_, List.take_of_length_le (Nat.le_refl _)]
    by_cases h1 : m < 0
    · rw [if_pos h1, j0, if_pos rfl, if_pos (.inl h1)]; rfl
    · rw [if_neg h1, j0]
      by_cases h2 : m < (n : Int)
      · rw [if_pos (by simp [IntKind.wrap_u64]; omega), if_pos (.inr h2)]; rfl
      · rw [if_neg (by simp [IntKind.wrap_u64]; omega), if_neg (show ¬(m < 0 ∨ m < (n : Int)) by omega)]
        by_cases h3 : r.length < n
        · rw [if_pos h3, if_pos h3]; rfl
        · rw [if_neg h3, if_neg h3]; rfl
  · rw [if_neg (show ¬ (outN (n, r, e)).2.2 = 0 from he), if_neg (show ¬ (n, r, e).2.2 = 0 from he)]; rfl
def octet_TakeNum.f (a0 : ByteArray) : Option (Int × ByteArray × Int) := if a0.size ≤ 9223372036854775807 then some (takeNumS a0) else none
theorem octet_TakeNum.calls (a0 : ByteArray) (r1 : Int) (r2 : ByteArray) (r3 : Int) (w : World) (h : octet_TakeNum.f a0 = some (r1, r2, r3)) :
    Calls Try.prog 76 #[.string a0] w fun e w' => e = .returned (.tuple #[.int .u64 r1, .string r2, .int .i64 r3]) ∧ Drawn0 w w' := by
  unfold octet_TakeNum.f at h
  split at h
  · rename_i hh; exact T.octet_TakeNum.calls 22 a0 r1 r2 r3 w ((takeNum_T a0 hh 0).trans h)
  · cases h
def octet_TakeText.f (a0 : ByteArray) (a1 : Int) : Option (ByteArray × ByteArray × Int) := if a0.size ≤ 9223372036854775807 ∧ -9223372036854775808 ≤ a1 ∧ a1 ≤ 9223372036854775807 then some (outT (textL a0.data.toList a1)) else none
theorem octet_TakeText.calls (a0 : ByteArray) (a1 : Int) (r1 : ByteArray) (r2 : ByteArray) (r3 : Int) (w : World) (h : octet_TakeText.f a0 a1 = some (r1, r2, r3)) :
    Calls Try.prog 66 #[.string a0, .int .i64 a1] w fun e w' => e = .returned (.tuple #[.string r1, .string r2, .int .i64 r3]) ∧ Drawn0 w w' := by
  unfold octet_TakeText.f at h
  split at h
  · rename_i hh; exact T.octet_TakeText.calls 22 a0 a1 r1 r2 r3 w ((takeText_T a0 hh.1 a1 hh.2 0).trans h)
  · cases h
end Go.Proofs.Ytcbfnfggnocndaa
end

section
namespace Go.Proofs.Ytcbfnfggnocndaa
open Go.RowKit Go.Proofs.YtcbfnfggnocndaaW.PrintWords Go.Proofs.YtcbfnfggnocndaaW.PrintLast Go.Proofs.YtcbfnfggnocndaaW.PrintMore Math
def One (w : World) (b : Nat) (v : Value) (t : TypeId) : Prop := w.heap[b]? = some (.cells #[v] t (0, 0))
theorem One.cell {w : World} {b : Nat} {v : Value} {t : TypeId} (h : One w b v t) : w.cell? ⟨b, 0, none⟩ = some v := by simp [World.cell?, show w.heap[b]? = _ from h]
theorem One.free {w : World} {b : Nat} {v : Value} {t : TypeId} (h : One w b v t) : w.frozen? ⟨b, 0, none⟩ = false := by simp [World.frozen?, show w.heap[b]? = _ from h]
theorem One.lt {w : World} {b : Nat} {v : Value} {t : TypeId} (h : One w b v t) : b < w.heap.size := (Array.getElem?_eq_some_iff.1 h).1
theorem One.set {w : World} {b : Nat} {v u : Value} {t : TypeId} (h : One w b v t) : One (w.setCell ⟨b, 0, none⟩ u) b u t := by
  have := heap_setCell_same w b 0 #[v] t u h
  exact this
theorem One.far {w : World} {b c : Nat} {v u : Value} {t : TypeId} (h : One w b v t) (hne : b ≠ c) : One (w.setCell ⟨c, 0, none⟩ u) b v t := by
  unfold One; rw [heap_setCell_other w ⟨c, 0, none⟩ b u hne]; exact h
theorem One.keep {w w1 : World} {b B : Nat} {v : Value} {t : TypeId} (h : One w b v t) (hB : Below B w w1) (hb : b < B) : One w1 b v t := by
  unfold One; rw [hB.block b hb]; exact h
theorem own_far {w : World} {base n c : Nat} {e : TypeId} {v u : Value} {xs : List Value} (h : w.ownsRow base e 1 v n xs) (hc : c < base) : (w.setCell ⟨c, 0, none⟩ u).ownsRow base e 1 v n xs :=
  own_move h (fun k hk => heap_setCell_other w ⟨c, 0, none⟩ k u (by have := own_base h k hk; show k ≠ c; omega))
end Go.Proofs.Ytcbfnfggnocndaa
end

section
namespace Go.Proofs.Ytcbfnfggnocndaa
open Go.RowKit Math
def numB (n : Nat) : List UInt8 := (numL n).map fun x => UInt8.ofNat x.toNat
theorem numS_dl (n : Nat) : (numS n).data.toList = numB n := rfl
theorem numB_lo {n : Nat} (h : ¬ 128 ≤ n) : numB n = [UInt8.ofNat n] := by rw [numB, numL_lo h]; simp
theorem numB_hi {n : Nat} (h : 128 ≤ n) : numB n = UInt8.ofNat (n % 128 + 128) :: numB (n / 128) := by rw [numB, numL_hi h]; rfl
theorem ofNat_toNat {n : Nat} (h : n < 256) : (UInt8.ofNat n).toNat = n := by rw [UInt8.toNat_ofNat']; omega
theorem pow7 (a : Nat) : 2 ^ (7 * (a + 1)) = 128 * 2 ^ (7 * a) := by rw [show 7 * (a + 1) = 7 * a + 7 from by omega, Nat.pow_add]; omega
theorem take_num (n : Nat) : ∀ (a acc : Nat) (m : List UInt8), (1 ≤ a → 1 ≤ n) → n * 2 ^ (7 * a) < 18446744073709551616 → takeN a acc (numB n ++ m) = (acc + n * 2 ^ (7 * a), m, 0) := by
  induction n using Nat.strongRecOn with
  | _ n ih =>
    intro a acc m ha hn
    have ha9 : a ≤ 9 := by
      rcases Nat.lt_or_ge 9 a with h | h
      · have h1 := ha (by omega)
        have h2 : 2 ^ 70 ≤ 2 ^ (7 * a) := Nat.pow_le_pow_right (by decide) (by omega)
        have h3 : 1 * 2 ^ (7 * a) ≤ n * 2 ^ (7 * a) := Nat.mul_le_mul_right _ h1
        omega
      · exact h
    by_cases h : 128 ≤ n
    · rw [numB_hi h, List.cons_append]
      have hc : (UInt8.ofNat (n % 128 + 128)).toNat = n % 128 + 128 := ofNat_toNat (by omega)
      rw [tk_go ha9 (by rw [hc]; omega), hc]
      have e : n * 2 ^ (7 * a) = n % 128 * 2 ^ (7 * a) + n / 128 * 2 ^ (7 * (a + 1)) := by
        rw [pow7, ← Nat.mul_assoc, ← Nat.add_mul]
        congr 1; omega
      rw [ih (n / 128) (by omega) (a + 1) _ m (by omega) (by omega)]
      rw [show (n % 128 + 128) % 128 = n % 128 from by omega]
      congr 1
      omega
    · rw [numB_lo h, List.cons_append, List.nil_append]
      have hc : (UInt8.ofNat n).toNat = n := ofNat_toNat (by omega)
      rw [tk_ok ha9 (by rw [hc]; omega) (by
        rw [hc]
        rintro (⟨h1, h2⟩ | ⟨h1, h2⟩)
        · have := ha h1; omega
        · subst h1
          have : 2 * 2 ^ (7 * 9) ≤ n * 2 ^ (7 * 9) := Nat.mul_le_mul_right _ h2
          omega), hc]
theorem take_num0 {n : Nat} (h : n < 18446744073709551616) (m : List UInt8) : takeN 0 0 (numB n ++ m) = (n, m, 0) := by
  have := take_num n 0 0 m (by omega) (by simpa using h)
  simpa using this
theorem take_inv (l : List UInt8) : ∀ (a acc : Nat), a ≤ 10 → (takeN a acc l).2.2 = 0 → ∃ n, (takeN a acc l).1 = acc + n * 2 ^ (7 * a) ∧ l = numB n ++ (takeN a acc l).2.1 ∧ (1 ≤ a → 1 ≤ n) := by
  induction l with
  | nil => intro a acc _ h; rw [takeN] at h; simp only at h; split at h <;> cases h
  | cons c r ih =>
    intro a acc ha h
    have hcc : c = UInt8.ofNat c.toNat := by simp
    by_cases h10 : a = 10
    · rw [takeN, if_pos h10] at h; cases h
    · have ha9 : a ≤ 9 := by omega
      by_cases hc : c.toNat < 128
      · by_cases hb : (1 ≤ a ∧ c.toNat = 0) ∨ (a = 9 ∧ 1 < c.toNat)
        · rw [tk_bad ha9 hc hb] at h; cases h
        · rw [tk_ok ha9 hc hb]
          refine ⟨c.toNat, rfl, ?_, by omega⟩
          rw [numB_lo (by omega), ← hcc]; rfl
      · rw [tk_go ha9 hc] at h ⊢
        obtain ⟨n, h1, h2, h3⟩ := ih (a + 1) _ (by omega) h
        have hlt := c.toNat_lt
        have hn := h3 (by omega)
        refine ⟨c.toNat % 128 + 128 * n, ?_, ?_, by omega⟩
        · rw [h1, pow7, Nat.add_mul, ← Nat.mul_assoc, Nat.mul_comm n 128]; omega
        · rw [numB_hi (by omega), show (c.toNat % 128 + 128 * n) / 128 = n from by omega, show (c.toNat % 128 + 128 * n) % 128 + 128 = c.toNat from by omega, ← hcc, List.cons_append, ← h2]
theorem take_inv0 {l : List UInt8} (h : (takeN 0 0 l).2.2 = 0) : l = numB (takeN 0 0 l).1 ++ (takeN 0 0 l).2.1 := by
  obtain ⟨n, h1, h2, _⟩ := take_inv l 0 0 (by decide) h
  have : (takeN 0 0 l).1 = n := by rw [h1]; simp
  rw [this]; exact h2
def textB (t : List UInt8) : List UInt8 := numB t.length ++ t
theorem textS_dl (s : ByteArray) : (textS s).data.toList = textB s.data.toList := by rw [textS, app, numS_dl, textB, ← sz]
theorem text_take (t m : List UInt8) (long : Int) (hl : (t.length : Int) ≤ long) (ht : t.length < 18446744073709551616) : textL (textB t ++ m) long = (t, m, 0) := by
  unfold textL textB
  rw [List.append_assoc, take_num0 ht]
  dsimp only
  rw [if_pos rfl, if_neg (by omega), if_neg (by simp), List.take_left', List.drop_left'] <;> rfl
theorem text_inv {l : List UInt8} {m : Int} (h : (textL l m).2.2 = 0) : l = textB (textL l m).1 ++ (textL l m).2.1 ∧ ((textL l m).1.length : Int) ≤ m := by
  unfold textL at h ⊢
  by_cases h0 : (takeN 0 0 l).2.2 = 0
  · rw [if_pos h0] at h ⊢
    have hi := take_inv0 h0
    by_cases h1 : m < 0 ∨ m < ((takeN 0 0 l).1 : Int)
    · rw [if_pos h1] at h; cases h
    · rw [if_neg h1] at h ⊢
      by_cases h2 : (takeN 0 0 l).2.1.length < (takeN 0 0 l).1
      · rw [if_pos h2] at h; cases h
      · rw [if_neg h2]
        have e : ((takeN 0 0 l).2.1.take (takeN 0 0 l).1).length = (takeN 0 0 l).1 := by rw [List.length_take]; omega
        refine ⟨?_, by rw [e]; omega⟩
        unfold textB
        rw [e, List.append_assoc, List.take_append_drop]
        exact hi
  · rw [if_neg h0] at h; exact absurd h h0
end Go.Proofs.Ytcbfnfggnocndaa
end

section
namespace Go.Proofs
open Go.Shelf
theorem Try.lays166_b : Go.Proofs.Lays.n166 Try.prog Try.lays156_ren := {
  mixed := by kernel_rfl
  f166 := Try.func73.trans (congrArg some (by kernel_rfl))
  f240 := Try.func79.trans (congrArg some (by kernel_rfl))
  f276 := Try.func82.trans (congrArg some (by kernel_rfl))
  t0 := Try.underlying0
  a0 := Try.isAgg0
  z0 := Try.sizeOf0
  v0 := Try.zeroValue0
  t3 := Try.underlying3
  a3 := Try.isAgg3
  z3 := Try.sizeOf3
  v3 := Try.zeroValue3
  t4 := Try.underlying4
  a4 := Try.isAgg4
  z4 := Try.sizeOf4
  v4 := Try.zeroValue4
  t9 := Try.underlying9
  a9 := Try.isAgg9
  z9 := Try.sizeOf9
  v9 := Try.zeroValue9
  t20 := Try.underlying20
  a20 := Try.isAgg20
  z20 := Try.sizeOf20
  v20 := Try.zeroValue20
  t37 := Try.underlying71
  a37 := Try.isAgg71
  z37 := Try.sizeOf71
  v37 := Try.zeroValue71
  t70 := Try.underlying115
  a70 := Try.isAgg115
  z70 := Try.sizeOf115
  v70 := Try.zeroValue115
  t72 := Try.underlying117
  a72 := Try.isAgg117
  z72 := Try.sizeOf117
  v72 := Try.zeroValue117
  t75 := Try.underlying120
  a75 := Try.isAgg120
  z75 := Try.sizeOf120
  v75 := Try.zeroValue120
  t164 := Try.underlying132
  a164 := Try.isAgg132
  z164 := Try.sizeOf132
  v164 := Try.zeroValue132 }
end Go.Proofs
end

section
namespace Go.Proofs.Ytcbfnfggnocndaa
open Go.RowKit Go.Proofs.YtcbfnfggnocndaaW.PrintWords Math
theorem sb_write (B b : Nat) (bs : List Value) (s : ByteArray) (w : World) (h : Lib.IsBuilder 117 5 B b bs w) (hlen : bs.length + s.size ≤ 140737488355328) (hBw : B ≤ w.heap.size) :
  Calls Try.prog 73 #[.pointer (some ⟨b, 0, none⟩), .string s] w fun e w' => e = .returned (.tuple #[.int .i64 s.size, .nilIface]) ∧ (Lib.BuilderAt 117 5 B b (.pointer (some ⟨b, 0, none⟩)) (bs ++ Lib.strCells s) w' ∧ Below B w w') :=
 Any.Builder_WriteString Try.lays166_b Try.Builder_Extra_156 B b bs s w h hlen hBw
theorem sb_string (B b : Nat) (l : List UInt8) (w : World) (h : Lib.IsBuilder 117 5 B b (Lib.byteCells l) w) (hBw : B ≤ w.heap.size) :
  Calls Try.prog 74 #[.pointer (some ⟨b, 0, none⟩)] w fun e w' => e = .returned (.string ⟨l.toArray⟩) ∧ Below B w w' := Try.Builder_String_any B b l w h hBw
def RdS (w : World) (A : Option Addr) (l : List ByteArray) : Prop := l = [] ∨ ∃ ad, A = some ad ∧ ad.block < w.heap.size ∧ ∀ (j : Nat) (hj : j < l.length), w.cell? (ad.add j) = some (.string l[j])
theorem blk_add (ad : Addr) (j : Nat) : (ad.add j).block = ad.block := by
 unfold Addr.add
 split <;> rfl
theorem RdS.step {w w' : World} {A : Option Addr} {l : List ByteArray} (h : RdS w A l) (hz : w.heap.size ≤ w'.heap.size) (hb : ∀ ad, A = some ad → ad.block < w.heap.size → w'.heap[ad.block]? = w.heap[ad.block]?) : RdS w' A l := by
 rcases h with h | ⟨ad, ha, hk, hc⟩
 ·exact .inl h
 ·refine .inr ⟨ad, ha, Nat.lt_of_lt_of_le hk hz, fun j hj => ?_⟩
  rw [← hc j hj]
  exact World.cell?_of_block (a := ad.add j) (by rw [blk_add]; exact hb ad ha hk)
theorem RdS.below {w w' : World} {A : Option Addr} {l : List ByteArray} (h : RdS w A l) (hb : Below w.heap.size w w') : RdS w' A l := h.step hb.size fun ad _ hk => hb.block _ hk
theorem RdS.at_ {w : World} {A : Option Addr} {l : List ByteArray} (h : RdS w A l) (i : Nat) (hi : i < l.length) : ∃ ad, A = some ad ∧ w.cell? (ad.add i) = some (.string l[i]) := by
 rcases h with rfl | ⟨ad, ha, _, hc⟩
 ·cases hi
 ·exact ⟨ad, ha, hc i hi⟩
theorem rds_of {w : World} {A : Option Addr} {l : List ByteArray} (h : Kd.string.C w A l.length l) : RdS w A l := by
 by_cases h0 : l.length = 0
 ·exact .inl (List.eq_nil_of_length_eq_zero h0)
 ·obtain ⟨ad, e, hc⟩ := h.2.2 (by omega)
  have hcell : ∀ (j : Nat) (hj : j < l.length), w.cell? (ad.add j) = some (.string l[j]) := fun j hj => by
   obtain ⟨c, hl, hk, hcell⟩ := hc j _ (List.getElem?_eq_getElem hj)
   obtain rfl : c = [.string l[j]] := hk
   have := hcell 0 _ rfl
   rw [show Kd.string.sz = 1 from rfl, Nat.mul_one, Nat.add_zero] at this
   exact this
  refine .inr ⟨ad, e, ?_, hcell⟩
  have := World.block_lt_of_cell? w _ (hcell 0 (by omega))
  rw [blk_add] at this
  exact this
def roundB (l : List ByteArray) (at_ m : Nat) : List UInt8 := ((List.range m).map fun i => (l.getD ((at_ + i) % l.length) ⟨#[]⟩).data.toList).flatten
def roundS (l : List ByteArray) (at_ m : Nat) : ByteArray := ⟨(roundB l at_ m).toArray⟩
theorem roundB_succ (l : List ByteArray) (at_ m : Nat) : roundB l at_ (m + 1) = roundB l at_ m ++ (l.getD ((at_ + m) % l.length) ⟨#[]⟩).data.toList := by
 unfold roundB
 rw [List.range_succ, List.map_append, List.flatten_append]
 simp
theorem roundB_len (l : List ByteArray) (at_ : Nat) (K : Nat) (hs : ∀ s ∈ l, s.size ≤ K) : ∀ m, (roundB l at_ m).length ≤ K * m
 | 0 => by simp [roundB]
 | m + 1 => by
  rw [roundB_succ, List.length_append]
  have := roundB_len l at_ K hs m
  have h2 : (l.getD ((at_ + m) % l.length) ⟨#[]⟩).data.toList.length ≤ K := by
   rw [← sz, List.getD_eq_getElem?_getD]
   cases h : l[(at_ + m) % l.length]? with
   | none => exact Nat.zero_le _
   | some s => exact hs s (List.mem_of_getElem? h)
  rw [Nat.mul_succ]
  omega
set_option maxHeartbeats 4000000 in
set_option maxRecDepth 1000000 in
theorem round_calls (A : Option Addr) (c : Nat) (l : List ByteArray) (at_ many : Nat) (w : World) (hr : RdS w A l) (hl : 1 ≤ l.length) (hln : l.length ≤ 100000) (hat : at_ ≤ 200000) (hm : many ≤ 100000) (hs : ∀ s ∈ l, s.size ≤ 64) :
  Calls Try.prog 64 #[.slice A l.length c, .int .i64 at_, .int .i64 many] w fun e w' => e = .returned (.string (roundS l at_ many)) ∧ Below w.heap.size w w' := by
 have hbx : Lib.IsBuilder 117 5 w.heap.size w.heap.size (Lib.byteCells (roundB l at_ 0)) (w.alloc (.cells #[.pointer none, .slice none 0 0] 117)) := Lib.fresh_isBuilder _ _ w
 have HBX := Lib.hid hbx
 have HB0 := Lib.hid ((Below.refl w.heap.size w).alloc (Nat.le_refl _) (.cells #[.pointer none, .slice none 0 0] 117))
 have HR := Lib.hid hr; have HS := Lib.hid hs
 clear hr hbx hs
 go_enter Try.func64, Try.ntmps64
 go_wp2_with fail
 go_loopg [10] many (fun g v10 wx => ∃ i : Nat, i + g = many ∧ v10 = .int .i64 i ∧ Hid (Lib.IsBuilder 117 5 w.heap.size w.heap.size (Lib.byteCells (roundB l at_ i)) wx) ∧ Hid (Below w.heap.size w wx))
 case atStart => exact ⟨0, by omega, rfl, HBX, HB0⟩
 case round =>
  clear HBX HB0
  obtain ⟨i, hig, rfl, HI, HB⟩ := hrel
  cases gk with
  | zero =>
   obtain rfl : i = many := by omega
   have hiz : decide ((i : Int) < (i : Int)) = false := decide_eq_false (by omega)
   clear hig
   go_wp2_with fail
   refine (sb_string _ _ _ _ HI.out HB.out.size).mono ?_
   rintro e w2 ⟨rfl, hb2⟩
   have HB2 := Lib.hid (HB.out.trans hb2)
   clear hb2
   go_wp2_with fail
   go_ret
   exact ⟨rfl, HB2.out⟩
  | succ g =>
   have hi : i < many := by omega
   have hiz : decide ((i : Int) < (many : Int)) = true := decide_eq_true (by omega)
   obtain ⟨m, hm2⟩ : ∃ m, m = (at_ + i) % l.length := ⟨_, rfl⟩
   have hml : m < l.length := by rw [hm2]; exact Nat.mod_lt _ (by omega)
   obtain ⟨ad, hA, hcell⟩ := HR.out.at_ m hml
   subst hA
   replace hcell := (HB.out.cell (World.block_lt_of_cell? w _ hcell)).trans hcell
   have hrem : Int.tmod ((at_ : Int) + (i : Int)) (l.length : Int) = (m : Int) := by
    rw [show (at_ : Int) + (i : Int) = ((at_ + i : Nat) : Int) by omega, hm2]; rfl
   have hsn := roundB_succ l at_ i
   have hg : l.getD ((at_ + i) % l.length) ⟨#[]⟩ = l[m] := by rw [← hm2, List.getD_eq_getElem?_getD, List.getElem?_eq_getElem hml]; rfl
   rw [hg] at hsn
   have hsz := HS.out _ (List.getElem_mem hml)
   have hln2 : (roundB l at_ i).length ≤ 64 * i := roundB_len l at_ 64 HS.out i
   have hln3 : (roundB l at_ i).length + l[m].size ≤ 140737488355328 := by omega
   have hsc : Lib.strCells l[m] = Lib.byteCells l[m].data.toList := Lib.strCells_eq _
   have HSN := Lib.hid hsn; have HLN := Lib.hid hln3; have HSC := Lib.hid hsc
   have hlz : ¬ ((l.length : Int) = 0) := by omega
   have hlz2 : ((l.length : Int) == 0) = false := beq_eq_false_iff_ne.2 (by omega)
   have p1 : (0 : Int) ≤ (m : Int) := by omega
   have p2 : (m : Int) < (l.length : Int) := by omega
   clear hsn hln2 hln3 hg hm2 hsz hsc
   generalize l[m] = sx at *
   go_wp2_with fail
   refine (sb_write _ _ _ sx _ HI.out (by rw [Lib.byteCells_length]; exact HLN.out) HB.out.size).mono ?_
   rintro e w4 ⟨rfl, hs4, hb4⟩
   have HB4 := Lib.hid (HB.out.trans hb4)
   have HS4 : Hid (Lib.IsBuilder 117 5 w.heap.size w.heap.size (Lib.byteCells (roundB l at_ (i + 1))) w4) := Lib.hid (by
    rw [HSN.out, Lib.byteCells_append, ← HSC.out]; exact .inr hs4)
   clear hs4 hb4
   go_wp2_with fail
   go_roundg g
   case measure => omega
   case rel => exact ⟨i + 1, by omega, by congr 1, HS4, HB4⟩
def redo_round.f (l0 : List ByteArray) (a1 a2 : Int) : Option ByteArray := if 1 ≤ l0.length ∧ l0.length ≤ 100000 ∧ 0 ≤ a1 ∧ a1 ≤ 200000 ∧ 0 ≤ a2 ∧ a2 ≤ 100000 ∧ ∀ s ∈ l0, s.size ≤ 64 then some (roundS l0 a1.toNat a2.toNat) else none
theorem redo_round.calls (A0 : Option Addr) (c0 : Nat) (l0 : List ByteArray) (a1 a2 : Int) (r : ByteArray) (w : World) (hr0 : Kd.C Kd.string w A0 l0.length l0) (hc0 : l0.length ≤ c0) (h : redo_round.f l0 a1 a2 = some r) :
  Calls Try.prog 64 #[.slice A0 l0.length c0, .int .i64 a1, .int .i64 a2] w fun e w' => e = .returned (.string r) ∧ Below w.heap.size w w' := by
 unfold redo_round.f at h
 split at h
 ·rename_i hh
  obtain rfl := Option.some.inj h
  obtain ⟨x, rfl⟩ := Int.eq_ofNat_of_zero_le hh.2.2.1
  obtain ⟨n, rfl⟩ := Int.eq_ofNat_of_zero_le hh.2.2.2.2.1
  exact round_calls A0 c0 l0 x n w (rds_of hr0) hh.1 hh.2.1 (by omega) (by omega) hh.2.2.2.2.2.2
 ·cases h
end Go.Proofs.Ytcbfnfggnocndaa
end
