import Derived.Test.YtgnmhbkialgeaaaZOne22
import Derived.Test.YtgnmhbkialgeaaaProg
import Derived.Below
import Derived.OwnWalk
import Derived.WalkKit
import Derived.KernelRfl
import Derived.RowKit3
import Derived.Deep.LoopGhost
import Derived.Deep.WholeRow
import Derived.Deep.QuietTactic
import Derived.BigQuiet
import Derived.Lib.Hide
import Derived.Laws.Rows
import Derived.Laws.CopyOwn
import Derived.Laws.ResultCell
import Derived.Outline
import Derived.Test.YtgnmhbkialgeaaaZOne0
import Derived.Test.YtgnmhbkialgeaaaZOne1
import Derived.Deep.Draws
import Derived.Deep.AppendLies
import Derived.Maps.AppendAt
import Derived.Laws.BytesArg
import Derived.Laws.MakeOwn
import Derived.Laws.OwnMore
import Derived.Deep.OwnRows
import Derived.Tactics
import Derived.Lib.ConvBytes
import Derived.Laws.Slices
import Derived.WideLaws
import Derived.Deep.DeepCutAuto
import Derived.Deep.CutBlock
import Derived.Deep.RegionHeld3
import Derived.Lib.AppendStr
import Derived.ArgAppend
import Derived.Laws.IdiomCopy
import Derived.OrdersHeld
import Derived.Laws.BitsLemmas
import Derived.RowKit
import Derived.Test.YtgnmhbkialgeaaaZOne2
import Derived.Test.YtgnmhbkialgeaaaZOne3
import Derived.Test.YtgnmhbkialgeaaaZOne4
import Derived.Test.YtgnmhbkialgeaaaZOne5
import Derived.Test.YtgnmhbkialgeaaaZOne6
import Derived.Test.YtgnmhbkialgeaaaZOne7
import Derived.Test.YtgnmhbkialgeaaaZOne8
import Derived.Test.YtgnmhbkialgeaaaZOne9
import Derived.Test.YtgnmhbkialgeaaaZOne10
import Derived.Test.YtgnmhbkialgeaaaZOne11
import Derived.Test.YtgnmhbkialgeaaaZOne12
import Derived.Test.YtgnmhbkialgeaaaZOne13
import Derived.Test.YtgnmhbkialgeaaaZOne14
import Derived.Test.YtgnmhbkialgeaaaZOne15
import Derived.Test.YtgnmhbkialgeaaaZOne16
import Derived.Test.YtgnmhbkialgeaaaZOne17
import Derived.Test.YtgnmhbkialgeaaaZOne18
import Derived.Test.YtgnmhbkialgeaaaZOne19
import Derived.Test.YtgnmhbkialgeaaaZOne20
import Derived.Test.YtgnmhbkialgeaaaZOne21
import Derived.Shelf.Abstract
import Derived.ScopeJumps
set_option linter.unusedVariables false
set_option linter.unusedSimpArgs false
section
namespace Go.Proofs.Ytgnmhbkialgeaaa
open Go.RowKit Go.Proofs.YtgnmhbkialgeaaaW.PrintWords Go.Proofs.YtgnmhbkialgeaaaW.PrintLast Go.Proofs.YtgnmhbkialgeaaaW.PrintMore Math
def rspR (s : List UInt8) (e : Int) : (List Int × List UInt8 × List (List UInt8)) × List UInt8 × Int :=
 (((numsR 9 s e).1, (textR (numsR 9 s e).2.1 (numsR 9 s e).2.2).1, (textsR (textR (numsR 9 s e).2.1 (numsR 9 s e).2.2).2.1 (textR (numsR 9 s e).2.1 (numsR 9 s e).2.2).2.2).1), (textsR (textR (numsR 9 s e).2.1 (numsR 9 s e).2.2).2.1 (textR (numsR 9 s e).2.1 (numsR 9 s e).2.2).2.2).2)
def rspA (p : List Int × List UInt8 × List (List UInt8)) (v : Value) : Array Value := #[.int .i64 (p.1.getD 0 0), .int .i64 (p.1.getD 1 0), .int .i64 (p.1.getD 2 0), .int .i64 (p.1.getD 3 0), .int .i64 (p.1.getD 4 0), .int .i64 (p.1.getD 5 0), .int .i64 (p.1.getD 6 0), .int .i64 (p.1.getD 7 0), .int .i64 (p.1.getD 8 0), .string ⟨p.2.1.toArray⟩, v]
theorem rA_set9 (l c : List Int) (x y : ByteArray) (v : Value) : (rArr l c x v).setIfInBounds 9 (.string y) = rArr l c y v := by simp [rArr]
theorem rA_set10 (l c : List Int) (x : ByteArray) (v u : Value) : (rArr l c x v).setIfInBounds 10 u = rArr l c x u := by simp [rArr]
theorem text_len {s s' a : List UInt8} {e e' : Int} (h : textR s e = (a, s', e')) {n : Nat} (hs : s.length ≤ n) : s'.length ≤ n := by
 have := textR_le s e
 rw [h] at this
 exact Nat.le_trans this hs
def Names (W : World) (b k : Nat) (v : Value) (l : List ByteArray) : Prop := ∃ B, b < B ∧ k < B ∧ Kd.R Kd.string 9 W B (fun _ => True) v l
theorem Names.set {W : World} {b k : Nat} {v : Value} {l : List ByteArray} (h : Names W b k v l) (g j : Nat) (hg : g = b ∨ g = k) (u : Value) : Names (W.setCell ⟨g, j, none⟩ u) b k v l := by
 obtain ⟨B, h1, h2, h3⟩ := h
 exact ⟨B, h1, h2, Kd.R_mono (Kd.R_far (p := ⟨g, j, none⟩) (Kd.R_bound h3) (fun q hq => by have h := hq.2.1; show q ≠ g; omega) _) (fun _ _ => trivial)⟩
set_option maxHeartbeats 4000000 in
set_option maxRecDepth 1000000 in
theorem rsp1_step (b k : Nat) (s : List UInt8) (w : World) (hb : TB w b s 0) (hm : CB w k (rArr [] [] ⟨#[]⟩ (.slice none 0 0)) 37) (hne : k ≠ b) (hs : s.length ≤ 8000000000000) :
  Calls Try.prog 44 #[.pointer (some ⟨b, 0, none⟩), .pointer (some ⟨k, 0, none⟩)] w fun x w' => x = .returned (.tuple #[]) ∧ TB w' b (rspR s 0).2.1 (rspR s 0).2.2 ∧ (∃ v, CB w' k (rspA (rspR s 0).1 v) 37 ∧ Names w' b k v (mks (rspR s 0).1.2.2)) ∧ G2 b k w w' := by
 obtain ⟨x1, s1, e1, h1⟩ : ∃ x s' e', numR s 0 = (x, s', e') := ⟨_, _, _, rfl⟩
 obtain ⟨x2, s2, e2, h2⟩ : ∃ x s' e', numR s1 e1 = (x, s', e') := ⟨_, _, _, rfl⟩
 obtain ⟨x3, s3, e3, h3⟩ : ∃ x s' e', numR s2 e2 = (x, s', e') := ⟨_, _, _, rfl⟩
 obtain ⟨x4, s4, e4, h4⟩ : ∃ x s' e', numR s3 e3 = (x, s', e') := ⟨_, _, _, rfl⟩
 obtain ⟨x5, s5, e5, h5⟩ : ∃ x s' e', numR s4 e4 = (x, s', e') := ⟨_, _, _, rfl⟩
 obtain ⟨x6, s6, e6, h6⟩ : ∃ x s' e', numR s5 e5 = (x, s', e') := ⟨_, _, _, rfl⟩
 obtain ⟨x7, s7, e7, h7⟩ : ∃ x s' e', numR s6 e6 = (x, s', e') := ⟨_, _, _, rfl⟩
 obtain ⟨x8, s8, e8, h8⟩ : ∃ x s' e', numR s7 e7 = (x, s', e') := ⟨_, _, _, rfl⟩
 obtain ⟨x9, s9, e9, h9⟩ : ∃ x s' e', numR s8 e8 = (x, s', e') := ⟨_, _, _, rfl⟩
 obtain ⟨a, s10, e10, h10⟩ : ∃ x s' e', textR s9 e9 = (x, s', e') := ⟨_, _, _, rfl⟩
 obtain ⟨nm, s11, e11, h11⟩ : ∃ x s' e', textsR s10 e10 = (x, s', e') := ⟨_, _, _, rfl⟩
 have hN : numsR 9 s 0 = ([x1, x2, x3, x4, x5, x6, x7, x8, x9], s9, e9) := by simp [numsR, h1, h2, h3, h4, h5, h6, h7, h8, h9]
 have HRES : Hid (rspR s 0 = (([x1, x2, x3, x4, x5, x6, x7, x8, x9], a, nm), s11, e11)) := Lib.hid (by unfold rspR; rw [hN]; dsimp only; rw [h10]; dsimp only; rw [h11])
 have l1 := num_len h1 hs; have l2 := num_len h2 l1; have l3 := num_len h3 l2; have l4 := num_len h4 l3; have l5 := num_len h5 l4; have l6 := num_len h6 l5; have l7 := num_len h7 l6; have l8 := num_len h8 l7; have l9 := num_len h9 l8; have l10 := text_len h10 l9
 have HX1 := Lib.hid (num_at b h1 hs); have HX2 := Lib.hid (num_at b h2 l1); have HX3 := Lib.hid (num_at b h3 l2); have HX4 := Lib.hid (num_at b h4 l3); have HX5 := Lib.hid (num_at b h5 l4); have HX6 := Lib.hid (num_at b h6 l5)
 have HX7 := Lib.hid (num_at b h7 l6); have HX8 := Lib.hid (num_at b h8 l7); have HX9 := Lib.hid (num_at b h9 l8)
 have HX10 := Lib.hid (fun V (h : TB V b s9 e9) => text_step b s9 e9 V h l9)
 rw [h10] at HX10
 have HX11 := Lib.hid (fun V (h : TB V b s10 e10) => texts_step b s10 e10 V h l10)
 rw [h11] at HX11
 have HT0 : Hid (TB w.drew b s 0) := Lib.hid hb
 have HM0 : Hid (CB w.drew k (rArr [] [] ⟨#[]⟩ (.slice none 0 0)) 37) := Lib.hid hm
 have HG0 := Lib.hid (G2.refl b k w).drew
 have HNE := Lib.hid hne
 clear hN h1 h2 h3 h4 h5 h6 h7 h8 h9 h10 h11 l1 l2 l3 l4 l5 l6 l7 l8 l9 l10 hb hm hne hs
 go_enter Try.func44, Try.ntmps44
 go_wp2_with fail
 refine start_ (n := 31) (S := fun w' => True) (ds := []) #[false, false, false, false, false, false, false, false, false, false, false, false, false, false, false, false, false, false, false, false, false, false, false, false, false, false, false, false, false, false, false] (by kernel_rfl) rfl rfl trivial (fun hHeld => ?_)
 refine pure_ (i := 0) (N := some 3) (v := ?_) (a' := ?_) #[true, false, false, false, false, false, false, false, false, false, false, false, false, false, false, false, false, false, false, false, false, false, false, false, false, false, false, false, false, false, false] rfl rfl (by kernel_rfl) (fun _ _ _ h => h) (Or.inl ⟨by rfl, ?_⟩) ?_ ?_
 (rotate_left; · (intro w'; go_simp; with_reducible rfl))
 (rotate_left; · (simp only [Act.put, List.setIfInBounds_toArray, List.set_cons_zero, List.set_cons_succ, i64_w, i32_w]; rfl))
 refine pure_ (i := 1) (N := some 4) (v := ?_) (a' := ?_) #[true, true, false, false, false, false, false, false, false, false, false, false, false, false, false, false, false, false, false, false, false, false, false, false, false, false, false, false, false, false, false] rfl rfl (by kernel_rfl) (fun _ _ _ h => h) (Or.inl ⟨by rfl, ?_⟩) ?_ ?_
 (rotate_left; · (intro w'; go_simp; with_reducible rfl))
 (rotate_left; · (simp only [Act.put, List.setIfInBounds_toArray, List.set_cons_zero, List.set_cons_succ, i64_w, i32_w]; rfl))
 refine pure_ (i := 2) (N := some 5) (v := ?_) (a' := ?_) #[true, true, true, false, false, false, false, false, false, false, false, false, false, false, false, false, false, false, false, false, false, false, false, false, false, false, false, false, false, false, false] rfl rfl (by kernel_rfl) (fun _ _ _ h => h) (Or.inl ⟨by rfl, ?_⟩) ?_ ?_
 (rotate_left; · (intro w'; go_simp; with_reducible rfl))
 (rotate_left; · (simp only [Act.put, List.setIfInBounds_toArray, List.set_cons_zero, List.set_cons_succ, i64_w, i32_w]; rfl))
 refine pure_ (i := 4) (N := some 7) (v := ?_) (a' := ?_) #[true, true, true, false, true, false, false, false, false, false, false, false, false, false, false, false, false, false, false, false, false, false, false, false, false, false, false, false, false, false, false] rfl rfl (by kernel_rfl) (fun _ _ _ h => h) (Or.inl ⟨by rfl, ?_⟩) ?_ ?_
 (rotate_left; · (intro w'; go_simp; with_reducible rfl))
 (rotate_left; · (simp only [Act.put, List.setIfInBounds_toArray, List.set_cons_zero, List.set_cons_succ, i64_w, i32_w]; rfl))
 refine pure_ (i := 5) (N := some 8) (v := ?_) (a' := ?_) #[true, true, true, false, true, true, false, false, false, false, false, false, false, false, false, false, false, false, false, false, false, false, false, false, false, false, false, false, false, false, false] rfl rfl (by kernel_rfl) (fun _ _ _ h => h) (Or.inl ⟨by rfl, ?_⟩) ?_ ?_
 (rotate_left; · (intro w'; go_simp; with_reducible rfl))
 (rotate_left; · (simp only [Act.put, List.setIfInBounds_toArray, List.set_cons_zero, List.set_cons_succ, i64_w, i32_w]; rfl))
 refine pure_ (i := 6) (N := some 9) (v := ?_) (a' := ?_) #[true, true, true, false, true, true, true, false, false, false, false, false, false, false, false, false, false, false, false, false, false, false, false, false, false, false, false, false, false, false, false] rfl rfl (by kernel_rfl) (fun _ _ _ h => h) (Or.inl ⟨by rfl, ?_⟩) ?_ ?_
 (rotate_left; · (intro w'; go_simp; with_reducible rfl))
 (rotate_left; · (simp only [Act.put, List.setIfInBounds_toArray, List.set_cons_zero, List.set_cons_succ, i64_w, i32_w]; rfl))
 refine pure_ (i := 8) (N := some 11) (v := ?_) (a' := ?_) #[true, true, true, false, true, true, true, false, true, false, false, false, false, false, false, false, false, false, false, false, false, false, false, false, false, false, false, false, false, false, false] rfl rfl (by kernel_rfl) (fun _ _ _ h => h) (Or.inl ⟨by rfl, ?_⟩) ?_ ?_
 (rotate_left; · (intro w'; go_simp; with_reducible rfl))
 (rotate_left; · (simp only [Act.put, List.setIfInBounds_toArray, List.set_cons_zero, List.set_cons_succ, i64_w, i32_w]; rfl))
 refine pure_ (i := 9) (N := some 12) (v := ?_) (a' := ?_) #[true, true, true, false, true, true, true, false, true, true, false, false, false, false, false, false, false, false, false, false, false, false, false, false, false, false, false, false, false, false, false] rfl rfl (by kernel_rfl) (fun _ _ _ h => h) (Or.inl ⟨by rfl, ?_⟩) ?_ ?_
 (rotate_left; · (intro w'; go_simp; with_reducible rfl))
 (rotate_left; · (simp only [Act.put, List.setIfInBounds_toArray, List.set_cons_zero, List.set_cons_succ, i64_w, i32_w]; rfl))
 refine pure_ (i := 10) (N := some 13) (v := ?_) (a' := ?_) #[true, true, true, false, true, true, true, false, true, true, true, false, false, false, false, false, false, false, false, false, false, false, false, false, false, false, false, false, false, false, false] rfl rfl (by kernel_rfl) (fun _ _ _ h => h) (Or.inl ⟨by rfl, ?_⟩) ?_ ?_
 (rotate_left; · (intro w'; go_simp; with_reducible rfl))
 (rotate_left; · (simp only [Act.put, List.setIfInBounds_toArray, List.set_cons_zero, List.set_cons_succ, i64_w, i32_w]; rfl))
 refine pure_ (i := 12) (N := some 15) (v := ?_) (a' := ?_) #[true, true, true, false, true, true, true, false, true, true, true, false, true, false, false, false, false, false, false, false, false, false, false, false, false, false, false, false, false, false, false] rfl rfl (by kernel_rfl) (fun _ _ _ h => h) (Or.inl ⟨by rfl, ?_⟩) ?_ ?_
 (rotate_left; · (intro w'; go_simp; with_reducible rfl))
 (rotate_left; · (simp only [Act.put, List.setIfInBounds_toArray, List.set_cons_zero, List.set_cons_succ, i64_w, i32_w]; rfl))
 refine pure_ (i := 13) (N := some 16) (v := ?_) (a' := ?_) #[true, true, true, false, true, true, true, false, true, true, true, false, true, true, false, false, false, false, false, false, false, false, false, false, false, false, false, false, false, false, false] rfl rfl (by kernel_rfl) (fun _ _ _ h => h) (Or.inl ⟨by rfl, ?_⟩) ?_ ?_
 (rotate_left; · (intro w'; go_simp; with_reducible rfl))
 (rotate_left; · (simp only [Act.put, List.setIfInBounds_toArray, List.set_cons_zero, List.set_cons_succ, i64_w, i32_w]; rfl))
 refine pure_ (i := 14) (N := some 17) (v := ?_) (a' := ?_) #[true, true, true, false, true, true, true, false, true, true, true, false, true, true, true, false, false, false, false, false, false, false, false, false, false, false, false, false, false, false, false] rfl rfl (by kernel_rfl) (fun _ _ _ h => h) (Or.inl ⟨by rfl, ?_⟩) ?_ ?_
 (rotate_left; · (intro w'; go_simp; with_reducible rfl))
 (rotate_left; · (simp only [Act.put, List.setIfInBounds_toArray, List.set_cons_zero, List.set_cons_succ, i64_w, i32_w]; rfl))
 refine pure_ (i := 16) (N := some 19) (v := ?_) (a' := ?_) #[true, true, true, false, true, true, true, false, true, true, true, false, true, true, true, false, true, false, false, false, false, false, false, false, false, false, false, false, false, false, false] rfl rfl (by kernel_rfl) (fun _ _ _ h => h) (Or.inl ⟨by rfl, ?_⟩) ?_ ?_
 (rotate_left; · (intro w'; go_simp; with_reducible rfl))
 (rotate_left; · (simp only [Act.put, List.setIfInBounds_toArray, List.set_cons_zero, List.set_cons_succ, i64_w, i32_w]; rfl))
 refine pure_ (i := 17) (N := some 20) (v := ?_) (a' := ?_) #[true, true, true, false, true, true, true, false, true, true, true, false, true, true, true, false, true, true, false, false, false, false, false, false, false, false, false, false, false, false, false] rfl rfl (by kernel_rfl) (fun _ _ _ h => h) (Or.inl ⟨by rfl, ?_⟩) ?_ ?_
 (rotate_left; · (intro w'; go_simp; with_reducible rfl))
 (rotate_left; · (simp only [Act.put, List.setIfInBounds_toArray, List.set_cons_zero, List.set_cons_succ, i64_w, i32_w]; rfl))
 refine pure_ (i := 18) (N := some 21) (v := ?_) (a' := ?_) #[true, true, true, false, true, true, true, false, true, true, true, false, true, true, true, false, true, true, true, false, false, false, false, false, false, false, false, false, false, false, false] rfl rfl (by kernel_rfl) (fun _ _ _ h => h) (Or.inl ⟨by rfl, ?_⟩) ?_ ?_
 (rotate_left; · (intro w'; go_simp; with_reducible rfl))
 (rotate_left; · (simp only [Act.put, List.setIfInBounds_toArray, List.set_cons_zero, List.set_cons_succ, i64_w, i32_w]; rfl))
 refine one_ (i := 3) (N := some 6) #[true, true, true, true, true, true, true, false, true, true, true, false, true, true, true, false, true, true, true, false, false, false, false, false, false, false, false, false, false, false, false] rfl rfl (by kernel_rfl) (by decide) (fun K hK => ?_)
 refine goes_ Try.func42 (by kernel_rfl) rfl #[.pointer (some ⟨b, 0, none⟩)] (by rfl) rfl rfl (by simp only [List.map_toArray, List.map_cons, List.map_nil]; rfl) ?_
 with_reducible refine ((HX1.out _ HT0.out)).mono ?_
 rintro e w11 ⟨rfl, ht, hg⟩
 refine ⟨_, rfl, ?_⟩
 have HT1 := Lib.hid ht; have HM1 := Lib.hid (HM0.out.grown hg HNE.out); have HG1 := Lib.hid (HG0.out.one hg)
 clear ht hg
 refine hK.out _ _ trivial (fun hHeld => ?_)
 clear hK K
 refine norm_ (a' := ?_) ?_ ?_
 rotate_left
 ·show Act.put _ (some 6) _ = _
  simp only [Act.put, List.setIfInBounds_toArray, List.set_cons_zero, List.set_cons_succ, i64_w, i32_w]
  rfl
 refine one_ (i := 7) (N := some 10) #[true, true, true, true, true, true, true, true, true, true, true, false, true, true, true, false, true, true, true, false, false, false, false, false, false, false, false, false, false, false, false] rfl rfl (by kernel_rfl) (by decide) (fun K hK => ?_)
 refine goes_ Try.func42 (by kernel_rfl) rfl #[.pointer (some ⟨b, 0, none⟩)] (by rfl) rfl rfl (by simp only [List.map_toArray, List.map_cons, List.map_nil]; rfl) ?_
 with_reducible refine ((HX2.out _ HT1.out)).mono ?_
 rintro e w12 ⟨rfl, ht, hg⟩
 refine ⟨_, rfl, ?_⟩
 have HT2 := Lib.hid ht; have HM2 := Lib.hid (HM1.out.grown hg HNE.out); have HG2 := Lib.hid (HG1.out.one hg)
 clear ht hg
 refine hK.out _ _ trivial (fun hHeld => ?_)
 clear hK K
 refine norm_ (a' := ?_) ?_ ?_
 rotate_left
 ·show Act.put _ (some 10) _ = _
  simp only [Act.put, List.setIfInBounds_toArray, List.set_cons_zero, List.set_cons_succ, i64_w, i32_w]
  rfl
 refine one_ (i := 11) (N := some 14) #[true, true, true, true, true, true, true, true, true, true, true, true, true, true, true, false, true, true, true, false, false, false, false, false, false, false, false, false, false, false, false] rfl rfl (by kernel_rfl) (by decide) (fun K hK => ?_)
 refine goes_ Try.func42 (by kernel_rfl) rfl #[.pointer (some ⟨b, 0, none⟩)] (by rfl) rfl rfl (by simp only [List.map_toArray, List.map_cons, List.map_nil]; rfl) ?_
 with_reducible refine ((HX3.out _ HT2.out)).mono ?_
 rintro e w13 ⟨rfl, ht, hg⟩
 refine ⟨_, rfl, ?_⟩
 have HT3 := Lib.hid ht; have HM3 := Lib.hid (HM2.out.grown hg HNE.out); have HG3 := Lib.hid (HG2.out.one hg)
 clear ht hg
 refine hK.out _ _ trivial (fun hHeld => ?_)
 clear hK K
 refine norm_ (a' := ?_) ?_ ?_
 rotate_left
 ·show Act.put _ (some 14) _ = _
  simp only [Act.put, List.setIfInBounds_toArray, List.set_cons_zero, List.set_cons_succ, i64_w, i32_w]
  rfl
 refine one_ (i := 15) (N := some 18) #[true, true, true, true, true, true, true, true, true, true, true, true, true, true, true, true, true, true, true, false, false, false, false, false, false, false, false, false, false, false, false] rfl rfl (by kernel_rfl) (by decide) (fun K hK => ?_)
 refine goes_ Try.func42 (by kernel_rfl) rfl #[.pointer (some ⟨b, 0, none⟩)] (by rfl) rfl rfl (by simp only [List.map_toArray, List.map_cons, List.map_nil]; rfl) ?_
 with_reducible refine ((HX4.out _ HT3.out)).mono ?_
 rintro e w14 ⟨rfl, ht, hg⟩
 refine ⟨_, rfl, ?_⟩
 have HT4 := Lib.hid ht; have HM4 := Lib.hid (HM3.out.grown hg HNE.out); have HG4 := Lib.hid (HG3.out.one hg)
 clear ht hg
 refine hK.out _ _ trivial (fun hHeld => ?_)
 clear hK K
 refine norm_ (a' := ?_) ?_ ?_
 rotate_left
 ·show Act.put _ (some 18) _ = _
  simp only [Act.put, List.setIfInBounds_toArray, List.set_cons_zero, List.set_cons_succ, i64_w, i32_w]
  rfl
 refine one_ (i := 19) (N := some 22) #[true, true, true, true, true, true, true, true, true, true, true, true, true, true, true, true, true, true, true, true, false, false, false, false, false, false, false, false, false, false, false] rfl rfl (by kernel_rfl) (by decide) (fun K hK => ?_)
 refine goes_ Try.func42 (by kernel_rfl) rfl #[.pointer (some ⟨b, 0, none⟩)] (by rfl) rfl rfl (by simp only [List.map_toArray, List.map_cons, List.map_nil]; rfl) ?_
 with_reducible refine ((HX5.out _ HT4.out)).mono ?_
 rintro e w15 ⟨rfl, ht, hg⟩
 refine ⟨_, rfl, ?_⟩
 have HT5 := Lib.hid ht; have HM5 := Lib.hid (HM4.out.grown hg HNE.out); have HG5 := Lib.hid (HG4.out.one hg)
 clear ht hg
 refine hK.out _ _ trivial (fun hHeld => ?_)
 clear hK K
 refine norm_ (a' := ?_) ?_ ?_
 rotate_left
 ·show Act.put _ (some 22) _ = _
  simp only [Act.put, List.setIfInBounds_toArray, List.set_cons_zero, List.set_cons_succ, i64_w, i32_w]
  rfl
 refine one_ (i := 20) (N := none) #[true, true, true, true, true, true, true, true, true, true, true, true, true, true, true, true, true, true, true, true, true, false, false, false, false, false, false, false, false, false, false] rfl rfl (by kernel_rfl) (by decide) (fun K hK => ?_)
 refine row_ (by rfl) rfl 37 (.tmp 1) (.const (.agg (rArr [] [] ⟨#[]⟩ (.slice none 0 0)))) rfl k (rArr [] [] ⟨#[]⟩ (.slice none 0 0)) rfl rfl 37 _ HM5.out (by kernel_rfl) rfl (by kernel_rfl) ?_
 have HMz : Hid (CB (w15.setRow k (rArr [] [] ⟨#[]⟩ (.slice none 0 0))) k (rArr [] [] ⟨#[]⟩ (.slice none 0 0)) 37) := Lib.hid (setRow_heap _ _ _ _ _ _ HM5.out)
 have HTz : Hid (TB (w15.setRow k (rArr [] [] ⟨#[]⟩ (.slice none 0 0))) b _ _) := Lib.hid ((setRow_other _ _ _ _ HNE.out.symm).trans HT5.out)
 have HGz := Lib.hid (HG5.out.row (cs := rArr [] [] ⟨#[]⟩ (.slice none 0 0)))
 generalize w15.setRow k (rArr [] [] ⟨#[]⟩ (.slice none 0 0)) = vz at *
 have hm := HMz.out
 have qq := blk_cell hm 0; have ff := blk_frozen hm 0
 clear hm
 simp only [mArr, rArr, List.getElem?_toArray, List.getElem?_cons_zero, List.getElem?_cons_succ] at qq
 refine hK.out _ _ trivial (fun hHeld => ?_)
 clear hK K
 refine pure_ (i := 21) (N := some 23) (v := ?_) (a' := ?_) #[true, true, true, true, true, true, true, true, true, true, true, true, true, true, true, true, true, true, true, true, true, true, false, false, false, false, false, false, false, false, false] rfl rfl (by kernel_rfl) (fun _ _ _ h => h) (Or.inl ⟨by rfl, ?_⟩) ?_ ?_
 (rotate_left; · (intro w'; go_simp; with_reducible rfl))
 (rotate_left; · (simp only [Act.put, List.setIfInBounds_toArray, List.set_cons_zero, List.set_cons_succ, i64_w, i32_w]; rfl))
 refine one_ (i := 22) (N := none) #[true, true, true, true, true, true, true, true, true, true, true, true, true, true, true, true, true, true, true, true, true, true, true, false, false, false, false, false, false, false, false] rfl rfl (by kernel_rfl) (by decide) (fun K hK => ?_)
 refine skip_ (w1 := ?_) (by rfl) rfl ?_ ?_
 rotate_left
 ·go_simp
  rfl
 clear qq ff
 have HMv1 : Hid (CB (vz.setCell ⟨k, 0, none⟩ (.int .i64 x1)) k (rArr [x1] [] ⟨#[]⟩ (.slice none 0 0)) 37) := Lib.hid (HMz.out.set 0 _ rfl); have HTv1 := Lib.hid (HTz.out.far (j := 0) (u := .int .i64 x1) HNE.out.symm); have HGv1 := Lib.hid (HGz.out.set (j := 0) (u := .int .i64 x1))
 generalize vz.setCell ⟨k, 0, none⟩ (.int .i64 x1) = v1 at *
 have hm := HMv1.out
 have qq := blk_cell hm 1; have ff := blk_frozen hm 1
 clear hm
 simp only [mArr, rArr, List.getElem?_toArray, List.getElem?_cons_zero, List.getElem?_cons_succ] at qq
 refine hK.out _ _ trivial (fun hHeld => ?_)
 clear hK K
 refine pure_ (i := 23) (N := some 24) (v := ?_) (a' := ?_) #[true, true, true, true, true, true, true, true, true, true, true, true, true, true, true, true, true, true, true, true, true, true, true, true, false, false, false, false, false, false, false] rfl rfl (by kernel_rfl) (fun _ _ _ h => h) (Or.inl ⟨by rfl, ?_⟩) ?_ ?_
 (rotate_left; · (intro w'; go_simp; with_reducible rfl))
 (rotate_left; · (simp only [Act.put, List.setIfInBounds_toArray, List.set_cons_zero, List.set_cons_succ, i64_w, i32_w]; rfl))
 refine one_ (i := 24) (N := none) #[true, true, true, true, true, true, true, true, true, true, true, true, true, true, true, true, true, true, true, true, true, true, true, true, true, false, false, false, false, false, false] rfl rfl (by kernel_rfl) (by decide) (fun K hK => ?_)
 refine skip_ (w1 := ?_) (by rfl) rfl ?_ ?_
 rotate_left
 ·go_simp
  rfl
 clear qq ff
 have HMv2 : Hid (CB (v1.setCell ⟨k, 1, none⟩ (.int .i64 x2)) k (rArr [x1, x2] [] ⟨#[]⟩ (.slice none 0 0)) 37) := Lib.hid (HMv1.out.set 1 _ rfl); have HTv2 := Lib.hid (HTv1.out.far (j := 1) (u := .int .i64 x2) HNE.out.symm); have HGv2 := Lib.hid (HGv1.out.set (j := 1) (u := .int .i64 x2))
 generalize v1.setCell ⟨k, 1, none⟩ (.int .i64 x2) = v2 at *
 have hm := HMv2.out
 have qq := blk_cell hm 2; have ff := blk_frozen hm 2
 clear hm
 simp only [mArr, rArr, List.getElem?_toArray, List.getElem?_cons_zero, List.getElem?_cons_succ] at qq
 refine hK.out _ _ trivial (fun hHeld => ?_)
 clear hK K
 refine pure_ (i := 25) (N := some 25) (v := ?_) (a' := ?_) #[true, true, true, true, true, true, true, true, true, true, true, true, true, true, true, true, true, true, true, true, true, true, true, true, true, true, false, false, false, false, false] rfl rfl (by kernel_rfl) (fun _ _ _ h => h) (Or.inl ⟨by rfl, ?_⟩) ?_ ?_
 (rotate_left; · (intro w'; go_simp; with_reducible rfl))
 (rotate_left; · (simp only [Act.put, List.setIfInBounds_toArray, List.set_cons_zero, List.set_cons_succ, i64_w, i32_w]; rfl))
 refine one_ (i := 26) (N := none) #[true, true, true, true, true, true, true, true, true, true, true, true, true, true, true, true, true, true, true, true, true, true, true, true, true, true, true, false, false, false, false] rfl rfl (by kernel_rfl) (by decide) (fun K hK => ?_)
 refine skip_ (w1 := ?_) (by rfl) rfl ?_ ?_
 rotate_left
 ·go_simp
  rfl
 clear qq ff
 have HMv3 : Hid (CB (v2.setCell ⟨k, 2, none⟩ (.int .i64 x3)) k (rArr [x1, x2, x3] [] ⟨#[]⟩ (.slice none 0 0)) 37) := Lib.hid (HMv2.out.set 2 _ rfl); have HTv3 := Lib.hid (HTv2.out.far (j := 2) (u := .int .i64 x3) HNE.out.symm); have HGv3 := Lib.hid (HGv2.out.set (j := 2) (u := .int .i64 x3))
 generalize v2.setCell ⟨k, 2, none⟩ (.int .i64 x3) = v3 at *
 have hm := HMv3.out
 have qq := blk_cell hm 3; have ff := blk_frozen hm 3
 clear hm
 simp only [mArr, rArr, List.getElem?_toArray, List.getElem?_cons_zero, List.getElem?_cons_succ] at qq
 refine hK.out _ _ trivial (fun hHeld => ?_)
 clear hK K
 refine pure_ (i := 27) (N := some 26) (v := ?_) (a' := ?_) #[true, true, true, true, true, true, true, true, true, true, true, true, true, true, true, true, true, true, true, true, true, true, true, true, true, true, true, true, false, false, false] rfl rfl (by kernel_rfl) (fun _ _ _ h => h) (Or.inl ⟨by rfl, ?_⟩) ?_ ?_
 (rotate_left; · (intro w'; go_simp; with_reducible rfl))
 (rotate_left; · (simp only [Act.put, List.setIfInBounds_toArray, List.set_cons_zero, List.set_cons_succ, i64_w, i32_w]; rfl))
 refine one_ (i := 28) (N := none) #[true, true, true, true, true, true, true, true, true, true, true, true, true, true, true, true, true, true, true, true, true, true, true, true, true, true, true, true, true, false, false] rfl rfl (by kernel_rfl) (by decide) (fun K hK => ?_)
 refine skip_ (w1 := ?_) (by rfl) rfl ?_ ?_
 rotate_left
 ·go_simp
  rfl
 clear qq ff
 have HMv4 : Hid (CB (v3.setCell ⟨k, 3, none⟩ (.int .i64 x4)) k (rArr [x1, x2, x3, x4] [] ⟨#[]⟩ (.slice none 0 0)) 37) := Lib.hid (HMv3.out.set 3 _ rfl); have HTv4 := Lib.hid (HTv3.out.far (j := 3) (u := .int .i64 x4) HNE.out.symm); have HGv4 := Lib.hid (HGv3.out.set (j := 3) (u := .int .i64 x4))
 generalize v3.setCell ⟨k, 3, none⟩ (.int .i64 x4) = v4 at *
 have hm := HMv4.out
 have qq := blk_cell hm 4; have ff := blk_frozen hm 4
 clear hm
 simp only [mArr, rArr, List.getElem?_toArray, List.getElem?_cons_zero, List.getElem?_cons_succ] at qq
 refine hK.out _ _ trivial (fun hHeld => ?_)
 clear hK K
 refine pure_ (i := 29) (N := some 27) (v := ?_) (a' := ?_) #[true, true, true, true, true, true, true, true, true, true, true, true, true, true, true, true, true, true, true, true, true, true, true, true, true, true, true, true, true, true, false] rfl rfl (by kernel_rfl) (fun _ _ _ h => h) (Or.inl ⟨by rfl, ?_⟩) ?_ ?_
 (rotate_left; · (intro w'; go_simp; with_reducible rfl))
 (rotate_left; · (simp only [Act.put, List.setIfInBounds_toArray, List.set_cons_zero, List.set_cons_succ, i64_w, i32_w]; rfl))
 refine one_ (i := 30) (N := none) #[true, true, true, true, true, true, true, true, true, true, true, true, true, true, true, true, true, true, true, true, true, true, true, true, true, true, true, true, true, true, true] rfl rfl (by kernel_rfl) (by decide) (fun K hK => ?_)
 refine skip_ (w1 := ?_) (by rfl) rfl ?_ ?_
 rotate_left
 ·go_simp
  rfl
 clear qq ff
 have HMv5 : Hid (CB (v4.setCell ⟨k, 4, none⟩ (.int .i64 x5)) k (rArr [x1, x2, x3, x4, x5] [] ⟨#[]⟩ (.slice none 0 0)) 37) := Lib.hid (HMv4.out.set 4 _ rfl); have HTv5 := Lib.hid (HTv4.out.far (j := 4) (u := .int .i64 x5) HNE.out.symm); have HGv5 := Lib.hid (HGv4.out.set (j := 4) (u := .int .i64 x5))
 generalize v4.setCell ⟨k, 4, none⟩ (.int .i64 x5) = v5 at *
 refine hK.out _ _ trivial (fun hHeld => ?_)
 clear hK K
 refine done_ (by kernel_rfl) ?_
 go_wp2_with fail
 refine (HX6.out _ HTv5.out).mono ?_
 rintro e w16 ⟨rfl, ht, hg⟩
 have HT6x := Lib.hid ht
 have hm := HMv5.out.grown hg HNE.out
 have HM6x := Lib.hid hm
 have HG6x := Lib.hid (HGv5.out.one hg)
 have qq := blk_cell hm 5; have ff := blk_frozen hm 5
 simp only [rArr, List.getElem?_toArray, List.getElem?_cons_zero, List.getElem?_cons_succ] at qq
 clear ht hg hm
 go_wp2_with fail
 clear qq ff
 have HT6 : Hid (TB (w16.setCell ⟨k, 5, none⟩ (.int .i64 x6)).drew b s6 e6) := Lib.hid (HT6x.out.far HNE.out.symm _ _)
 have HM6 : Hid (CB (w16.setCell ⟨k, 5, none⟩ (.int .i64 x6)).drew k (rArr [x1, x2, x3, x4, x5] [x6] ⟨#[]⟩ (.slice none 0 0)) 37) := Lib.hid (HM6x.out.set 5 _ rfl)
 have HG6 := Lib.hid (HG6x.out.set (j := 5) (u := .int .i64 x6)).drew
 generalize w16.setCell ⟨k, 5, none⟩ (.int .i64 x6) = v6 at *
 refine start_ (n := 21) (S := fun w' => True) (ds := []) #[false, false, false, false, false, false, false, false, false, false, false, false, false, false, false, false, false, false, false, false, false] (by kernel_rfl) rfl rfl trivial (fun hHeld => ?_)
 refine pure_ (i := 0) (N := some 34) (v := ?_) (a' := ?_) #[true, false, false, false, false, false, false, false, false, false, false, false, false, false, false, false, false, false, false, false, false] rfl rfl (by kernel_rfl) (fun _ _ _ h => h) (Or.inl ⟨by rfl, ?_⟩) ?_ ?_
 (rotate_left; · (intro w'; go_simp; with_reducible rfl))
 (rotate_left; · (simp only [Act.put, List.setIfInBounds_toArray, List.set_cons_zero, List.set_cons_succ, i64_w, i32_w]; rfl))
 refine pure_ (i := 1) (N := some 35) (v := ?_) (a' := ?_) #[true, true, false, false, false, false, false, false, false, false, false, false, false, false, false, false, false, false, false, false, false] rfl rfl (by kernel_rfl) (fun _ _ _ h => h) (Or.inl ⟨by rfl, ?_⟩) ?_ ?_
 (rotate_left; · (intro w'; go_simp; with_reducible rfl))
 (rotate_left; · (simp only [Act.put, List.setIfInBounds_toArray, List.set_cons_zero, List.set_cons_succ, i64_w, i32_w]; rfl))
 refine pure_ (i := 2) (N := some 36) (v := ?_) (a' := ?_) #[true, true, true, false, false, false, false, false, false, false, false, false, false, false, false, false, false, false, false, false, false] rfl rfl (by kernel_rfl) (fun _ _ _ h => h) (Or.inl ⟨by rfl, ?_⟩) ?_ ?_
 (rotate_left; · (intro w'; go_simp; with_reducible rfl))
 (rotate_left; · (simp only [Act.put, List.setIfInBounds_toArray, List.set_cons_zero, List.set_cons_succ, i64_w, i32_w]; rfl))
 refine pure_ (i := 4) (N := some 38) (v := ?_) (a' := ?_) #[true, true, true, false, true, false, false, false, false, false, false, false, false, false, false, false, false, false, false, false, false] rfl rfl (by kernel_rfl) (fun _ _ _ h => h) (Or.inl ⟨by rfl, ?_⟩) ?_ ?_
 (rotate_left; · (intro w'; go_simp; with_reducible rfl))
 (rotate_left; · (simp only [Act.put, List.setIfInBounds_toArray, List.set_cons_zero, List.set_cons_succ, i64_w, i32_w]; rfl))
 refine pure_ (i := 5) (N := some 39) (v := ?_) (a' := ?_) #[true, true, true, false, true, true, false, false, false, false, false, false, false, false, false, false, false, false, false, false, false] rfl rfl (by kernel_rfl) (fun _ _ _ h => h) (Or.inl ⟨by rfl, ?_⟩) ?_ ?_
 (rotate_left; · (intro w'; go_simp; with_reducible rfl))
 (rotate_left; · (simp only [Act.put, List.setIfInBounds_toArray, List.set_cons_zero, List.set_cons_succ, i64_w, i32_w]; rfl))
 refine pure_ (i := 6) (N := some 40) (v := ?_) (a' := ?_) #[true, true, true, false, true, true, true, false, false, false, false, false, false, false, false, false, false, false, false, false, false] rfl rfl (by kernel_rfl) (fun _ _ _ h => h) (Or.inl ⟨by rfl, ?_⟩) ?_ ?_
 (rotate_left; · (intro w'; go_simp; with_reducible rfl))
 (rotate_left; · (simp only [Act.put, List.setIfInBounds_toArray, List.set_cons_zero, List.set_cons_succ, i64_w, i32_w]; rfl))
 refine pure_ (i := 8) (N := some 42) (v := ?_) (a' := ?_) #[true, true, true, false, true, true, true, false, true, false, false, false, false, false, false, false, false, false, false, false, false] rfl rfl (by kernel_rfl) (fun _ _ _ h => h) (Or.inl ⟨by rfl, ?_⟩) ?_ ?_
 (rotate_left; · (intro w'; go_simp; with_reducible rfl))
 (rotate_left; · (simp only [Act.put, List.setIfInBounds_toArray, List.set_cons_zero, List.set_cons_succ, i64_w, i32_w]; rfl))
 refine pure_ (i := 9) (N := some 43) (v := ?_) (a' := ?_) #[true, true, true, false, true, true, true, false, true, true, false, false, false, false, false, false, false, false, false, false, false] rfl rfl (by kernel_rfl) (fun _ _ _ h => h) (Or.inl ⟨by rfl, ?_⟩) ?_ ?_
 (rotate_left; · (intro w'; go_simp; with_reducible rfl))
 (rotate_left; · (simp only [Act.put, List.setIfInBounds_toArray, List.set_cons_zero, List.set_cons_succ, i64_w, i32_w]; rfl))
 refine pure_ (i := 10) (N := some 44) (v := ?_) (a' := ?_) #[true, true, true, false, true, true, true, false, true, true, true, false, false, false, false, false, false, false, false, false, false] rfl rfl (by kernel_rfl) (fun _ _ _ h => h) (Or.inl ⟨by rfl, ?_⟩) ?_ ?_
 (rotate_left; · (intro w'; go_simp; with_reducible rfl))
 (rotate_left; · (simp only [Act.put, List.setIfInBounds_toArray, List.set_cons_zero, List.set_cons_succ, i64_w, i32_w]; rfl))
 refine one_ (i := 3) (N := some 37) #[true, true, true, true, true, true, true, false, true, true, true, false, false, false, false, false, false, false, false, false, false] rfl rfl (by kernel_rfl) (by decide) (fun K hK => ?_)
 refine goes_ Try.func42 (by kernel_rfl) rfl #[.pointer (some ⟨b, 0, none⟩)] (by rfl) rfl rfl (by simp only [List.map_toArray, List.map_cons, List.map_nil]; rfl) ?_
 with_reducible refine ((HX7.out _ HT6.out)).mono ?_
 rintro e w17 ⟨rfl, ht, hg⟩
 refine ⟨_, rfl, ?_⟩
 have HT7 := Lib.hid ht; have HM7 := Lib.hid (HM6.out.grown hg HNE.out); have HG7 := Lib.hid (HG6.out.one hg)
 clear ht hg
 refine hK.out _ _ trivial (fun hHeld => ?_)
 clear hK K
 refine norm_ (a' := ?_) ?_ ?_
 rotate_left
 ·show Act.put _ (some 37) _ = _
  simp only [Act.put, List.setIfInBounds_toArray, List.set_cons_zero, List.set_cons_succ, i64_w, i32_w]
  rfl
 refine pure_ (i := 12) (N := some 46) (v := ?_) (a' := ?_) #[true, true, true, true, true, true, true, false, true, true, true, false, true, false, false, false, false, false, false, false, false] rfl rfl (by kernel_rfl) (fun _ _ _ h => h) (Or.inl ⟨by rfl, ?_⟩) ?_ ?_
 (rotate_left; · (intro w'; go_simp; with_reducible rfl))
 (rotate_left; · (simp only [Act.put, List.setIfInBounds_toArray, List.set_cons_zero, List.set_cons_succ, i64_w, i32_w]; rfl))
 refine pure_ (i := 13) (N := some 47) (v := ?_) (a' := ?_) #[true, true, true, true, true, true, true, false, true, true, true, false, true, true, false, false, false, false, false, false, false] rfl rfl (by kernel_rfl) (fun _ _ _ h => h) (Or.inl ⟨by rfl, ?_⟩) ?_ ?_
 (rotate_left; · (intro w'; go_simp; with_reducible rfl))
 (rotate_left; · (simp only [Act.put, List.setIfInBounds_toArray, List.set_cons_zero, List.set_cons_succ, i64_w, i32_w]; rfl))
 refine one_ (i := 7) (N := some 41) #[true, true, true, true, true, true, true, true, true, true, true, false, true, true, false, false, false, false, false, false, false] rfl rfl (by kernel_rfl) (by decide) (fun K hK => ?_)
 refine goes_ Try.func42 (by kernel_rfl) rfl #[.pointer (some ⟨b, 0, none⟩)] (by rfl) rfl rfl (by simp only [List.map_toArray, List.map_cons, List.map_nil]; rfl) ?_
 with_reducible refine ((HX8.out _ HT7.out)).mono ?_
 rintro e w18 ⟨rfl, ht, hg⟩
 refine ⟨_, rfl, ?_⟩
 have HT8 := Lib.hid ht; have HM8 := Lib.hid (HM7.out.grown hg HNE.out); have HG8 := Lib.hid (HG7.out.one hg)
 clear ht hg
 refine hK.out _ _ trivial (fun hHeld => ?_)
 clear hK K
 refine norm_ (a' := ?_) ?_ ?_
 rotate_left
 ·show Act.put _ (some 41) _ = _
  simp only [Act.put, List.setIfInBounds_toArray, List.set_cons_zero, List.set_cons_succ, i64_w, i32_w]
  rfl
 refine one_ (i := 11) (N := some 45) #[true, true, true, true, true, true, true, true, true, true, true, true, true, true, false, false, false, false, false, false, false] rfl rfl (by kernel_rfl) (by decide) (fun K hK => ?_)
 refine goes_ Try.func42 (by kernel_rfl) rfl #[.pointer (some ⟨b, 0, none⟩)] (by rfl) rfl rfl (by simp only [List.map_toArray, List.map_cons, List.map_nil]; rfl) ?_
 with_reducible refine ((HX9.out _ HT8.out)).mono ?_
 rintro e w19 ⟨rfl, ht, hg⟩
 refine ⟨_, rfl, ?_⟩
 have HT9 := Lib.hid ht; have HM9 := Lib.hid (HM8.out.grown hg HNE.out); have HG9 := Lib.hid (HG8.out.one hg)
 clear ht hg
 have hm := HM9.out
 have qq := blk_cell hm 6; have ff := blk_frozen hm 6
 clear hm
 simp only [mArr, rArr, List.getElem?_toArray, List.getElem?_cons_zero, List.getElem?_cons_succ] at qq
 refine hK.out _ _ trivial (fun hHeld => ?_)
 clear hK K
 refine norm_ (a' := ?_) ?_ ?_
 rotate_left
 ·show Act.put _ (some 45) _ = _
  simp only [Act.put, List.setIfInBounds_toArray, List.set_cons_zero, List.set_cons_succ, i64_w, i32_w]
  rfl
 refine one_ (i := 14) (N := none) #[true, true, true, true, true, true, true, true, true, true, true, true, true, true, true, false, false, false, false, false, false] rfl rfl (by kernel_rfl) (by decide) (fun K hK => ?_)
 refine skip_ (w1 := ?_) (by rfl) rfl ?_ ?_
 rotate_left
 ·go_simp
  rfl
 clear qq ff
 have HMv7 : Hid (CB (w19.setCell ⟨k, 6, none⟩ (.int .i64 x7)) k (rArr [x1, x2, x3, x4, x5] [x6, x7] ⟨#[]⟩ (.slice none 0 0)) 37) := Lib.hid (HM9.out.set 6 _ rfl); have HTv7 := Lib.hid (HT9.out.far (j := 6) (u := .int .i64 x7) HNE.out.symm); have HGv7 := Lib.hid (HG9.out.set (j := 6) (u := .int .i64 x7))
 generalize w19.setCell ⟨k, 6, none⟩ (.int .i64 x7) = v7 at *
 have hm := HMv7.out
 have qq := blk_cell hm 7; have ff := blk_frozen hm 7
 clear hm
 simp only [mArr, rArr, List.getElem?_toArray, List.getElem?_cons_zero, List.getElem?_cons_succ] at qq
 refine hK.out _ _ trivial (fun hHeld => ?_)
 clear hK K
 refine pure_ (i := 15) (N := some 48) (v := ?_) (a' := ?_) #[true, true, true, true, true, true, true, true, true, true, true, true, true, true, true, true, false, false, false, false, false] rfl rfl (by kernel_rfl) (fun _ _ _ h => h) (Or.inl ⟨by rfl, ?_⟩) ?_ ?_
 (rotate_left; · (intro w'; go_simp; with_reducible rfl))
 (rotate_left; · (simp only [Act.put, List.setIfInBounds_toArray, List.set_cons_zero, List.set_cons_succ, i64_w, i32_w]; rfl))
 refine pure_ (i := 16) (N := some 49) (v := ?_) (a' := ?_) #[true, true, true, true, true, true, true, true, true, true, true, true, true, true, true, true, true, false, false, false, false] rfl rfl (by kernel_rfl) (fun _ _ _ h => h) (Or.inl ⟨by rfl, ?_⟩) ?_ ?_
 (rotate_left; · (intro w'; go_simp; with_reducible rfl))
 (rotate_left; · (simp only [Act.put, List.setIfInBounds_toArray, List.set_cons_zero, List.set_cons_succ, i64_w, i32_w]; rfl))
 refine one_ (i := 17) (N := none) #[true, true, true, true, true, true, true, true, true, true, true, true, true, true, true, true, true, true, false, false, false] rfl rfl (by kernel_rfl) (by decide) (fun K hK => ?_)
 refine skip_ (w1 := ?_) (by rfl) rfl ?_ ?_
 rotate_left
 ·go_simp
  rfl
 clear qq ff
 have HMv8 : Hid (CB (v7.setCell ⟨k, 7, none⟩ (.int .i64 x8)) k (rArr [x1, x2, x3, x4, x5] [x6, x7, x8] ⟨#[]⟩ (.slice none 0 0)) 37) := Lib.hid (HMv7.out.set 7 _ rfl); have HTv8 := Lib.hid (HTv7.out.far (j := 7) (u := .int .i64 x8) HNE.out.symm); have HGv8 := Lib.hid (HGv7.out.set (j := 7) (u := .int .i64 x8))
 generalize v7.setCell ⟨k, 7, none⟩ (.int .i64 x8) = v8 at *
 have hm := HMv8.out
 have qq := blk_cell hm 8; have ff := blk_frozen hm 8
 clear hm
 simp only [mArr, rArr, List.getElem?_toArray, List.getElem?_cons_zero, List.getElem?_cons_succ] at qq
 refine hK.out _ _ trivial (fun hHeld => ?_)
 clear hK K
 refine pure_ (i := 18) (N := some 50) (v := ?_) (a' := ?_) #[true, true, true, true, true, true, true, true, true, true, true, true, true, true, true, true, true, true, true, false, false] rfl rfl (by kernel_rfl) (fun _ _ _ h => h) (Or.inl ⟨by rfl, ?_⟩) ?_ ?_
 (rotate_left; · (intro w'; go_simp; with_reducible rfl))
 (rotate_left; · (simp only [Act.put, List.setIfInBounds_toArray, List.set_cons_zero, List.set_cons_succ, i64_w, i32_w]; rfl))
 refine pure_ (i := 19) (N := some 51) (v := ?_) (a' := ?_) #[true, true, true, true, true, true, true, true, true, true, true, true, true, true, true, true, true, true, true, true, false] rfl rfl (by kernel_rfl) (fun _ _ _ h => h) (Or.inl ⟨by rfl, ?_⟩) ?_ ?_
 (rotate_left; · (intro w'; go_simp; with_reducible rfl))
 (rotate_left; · (simp only [Act.put, List.setIfInBounds_toArray, List.set_cons_zero, List.set_cons_succ, i64_w, i32_w]; rfl))
 refine one_ (i := 20) (N := none) #[true, true, true, true, true, true, true, true, true, true, true, true, true, true, true, true, true, true, true, true, true] rfl rfl (by kernel_rfl) (by decide) (fun K hK => ?_)
 refine skip_ (w1 := ?_) (by rfl) rfl ?_ ?_
 rotate_left
 ·go_simp
  rfl
 clear qq ff
 have HMv9 : Hid (CB (v8.setCell ⟨k, 8, none⟩ (.int .i64 x9)) k (rArr [x1, x2, x3, x4, x5] [x6, x7, x8, x9] ⟨#[]⟩ (.slice none 0 0)) 37) := Lib.hid (HMv8.out.set 8 _ rfl); have HTv9 := Lib.hid (HTv8.out.far (j := 8) (u := .int .i64 x9) HNE.out.symm); have HGv9 := Lib.hid (HGv8.out.set (j := 8) (u := .int .i64 x9))
 generalize v8.setCell ⟨k, 8, none⟩ (.int .i64 x9) = v9 at *
 refine hK.out _ _ trivial (fun hHeld => ?_)
 clear hK K
 refine done_ (by kernel_rfl) ?_
 go_wp2_with fail
 refine (HX10.out _ HTv9.out).mono ?_
 rintro e w30 ⟨rfl, ht, hg⟩
 have HT10 := Lib.hid ht
 have hm := HMv9.out.grown hg HNE.out
 have HM10 := Lib.hid hm
 have HG10 := Lib.hid (HGv9.out.one hg)
 have qq := blk_cell hm 9; have ff := blk_frozen hm 9
 simp only [rArr, List.getElem?_toArray, List.getElem?_cons_zero, List.getElem?_cons_succ] at qq
 clear ht hg hm
 have HT10v := Lib.hid (HT10.out.far (k := k) HNE.out.symm 9 (.string ⟨a.toArray⟩))
 have HM10v := Lib.hid (HM10.out.set 9 (.string ⟨a.toArray⟩) (rA_set9 _ _ _ _ _))
 have HG10v := Lib.hid (HG10.out.set (j := 9) (u := .string ⟨a.toArray⟩))
 go_wp2_with fail
 clear qq ff
 generalize w30.setCell ⟨k, 9, none⟩ (.string ⟨a.toArray⟩) = v10 at *
 have hbl := HT10v.out.lt; have hkl := blk_lt HM10v.out
 refine (HX11.out _ HT10v.out).mono ?_
 rintro e w40 ⟨v, rfl, hR, ht, hg⟩
 have HT11 := Lib.hid ht
 have hm := HM10v.out.grown hg HNE.out
 have HM11 := Lib.hid hm
 have HG11 := Lib.hid (HG10v.out.one hg)
 have HN11 : Hid (Names w40 b k v (mks nm)) := Lib.hid ⟨_, hbl, hkl, hR⟩
 obtain ⟨A, c, rfl⟩ := Kd.R_slice hR
 have qq := blk_cell hm 10; have ff := blk_frozen hm 10
 simp only [rArr, List.getElem?_toArray, List.getElem?_cons_zero, List.getElem?_cons_succ] at qq
 clear ht hg hm hR hbl hkl
 have HTz := Lib.hid (HT11.out.far (k := k) HNE.out.symm 10 (.slice A (mks nm).length c))
 have HMz := Lib.hid (HM11.out.set 10 (.slice A (mks nm).length c) (rA_set10 _ _ _ _ _))
 have HGz := Lib.hid (HG11.out.set (j := 10) (u := .slice A (mks nm).length c))
 have HNz := Lib.hid (HN11.out.set k 10 (.inr rfl) (.slice A (mks nm).length c))
 go_wp2_with fail
 go_end0
 rw [HRES.out]
 exact ⟨rfl, HTz.out, ⟨_, HMz.out, HNz.out⟩, HGz.out⟩
end Go.Proofs.Ytgnmhbkialgeaaa
end

section
namespace Go.Proofs.Ytgnmhbkialgeaaa
open Go.RowKit Go.Proofs.YtgnmhbkialgeaaaW.PrintWords
def tq (c : Int) : Int := if Go.bits .and .u32 c 1 = 1 then Go.bits .xor .u32 (c / 2) 2197175160 else c / 2
def tqs : Nat → Int → Int
 | 0, c => c
 | n + 1, c => tq (tqs n c)
def tb (i : Int) : Int := tqs 8 i
def tbRow (i : Nat) : Array Value := ((List.range 256).map fun j => Value.int .u32 (if j < i then tb (j : Int) else 0)).toArray
theorem tbRow_size (i : Nat) : (tbRow i).size = 256 := by simp [tbRow]
theorem tbRow_zero : tbRow 0 = Array.replicate 256 (.int .u32 0) := by
 apply Array.ext
 ·simp [tbRow]
 ·intro j h1 h2; simp [tbRow]
theorem tbRow_get (i j : Nat) (h : j < (tbRow i).size) : (tbRow i)[j] = Value.int .u32 (if j < i then tb (j : Int) else 0) := by
 simp [tbRow]
theorem tbRow_set (i : Nat) : (tbRow i).setIfInBounds i (.int .u32 (tb (i : Int))) = tbRow (i + 1) := by
 apply Array.ext
 ·rw [Array.size_setIfInBounds, tbRow_size, tbRow_size]
 ·intro j h1 h2
  rw [Array.size_setIfInBounds] at h1
  rw [Array.getElem_setIfInBounds h1, tbRow_get, tbRow_get]
  by_cases h : i = j
  ·subst h; rw [if_pos rfl, if_pos (by omega)]
  ·rw [if_neg h]
   by_cases h3 : j < i
   ·rw [if_pos h3, if_pos (by omega)]
   ·rw [if_neg h3, if_neg (by omega)]
theorem tbRow_one (i : Nat) : (tbRow i).all (·.oneCell') = true := by
 rw [Array.all_eq_true_iff_forall_mem]
 intro x hx
 simp only [tbRow, List.mem_toArray, List.mem_map] at hx
 obtain ⟨j, _, rfl⟩ := hx
 rfl
theorem tbRow_at0 (i : Nat) (h : i < 256) : (tbRow i)[i]? = some (.int .u32 0) := by
 simp [tbRow, h]
theorem tbRow_at (j : Nat) (h : j < 256) : (tbRow 256)[j]? = some (.int .u32 (tb (j : Int))) := by
 simp [tbRow, h]
def mb (c : Int) (b : Int) : Int := Go.bits .xor .u32 (tb (Go.bits .xor .u8 (c % 256) b)) (c / 256)
def mores (c : Int) (l : List UInt8) : Int := l.foldl (fun c b => mb c (b.toNat : Int)) c
def seal_More.f (a0 : Int) (a1 : ByteArray) : Option Int := if a1.size ≤ 9223372036854775807 ∧ 0 ≤ a0 ∧ a0 < 4294967296 then some (mores a0 a1.data.toList) else none
theorem bits_u8_range (op : BinOp) (x y : Int) : 0 ≤ Go.bits op .u8 x y ∧ Go.bits op .u8 x y < 256 := by
 unfold Go.bits; dsimp only; rw [IntKind.wrap_u8]; omega
theorem bits_u32_range (op : BinOp) (x y : Int) : 0 ≤ Go.bits op .u32 x y ∧ Go.bits op .u32 x y < 4294967296 := by
 unfold Go.bits; dsimp only; rw [IntKind.wrap_u32]; omega
theorem mores_snoc (c : Int) (l : List UInt8) (b : UInt8) : mores c (l ++ [b]) = mb (mores c l) (b.toNat : Int) := by simp [mores]
theorem mores_range (c : Int) (hc : 0 ≤ c ∧ c < 4294967296) (l : List UInt8) : 0 ≤ mores c l ∧ mores c l < 4294967296 := by
 induction l generalizing c with
 | nil => exact hc
 | cons b l ih => exact ih (mb c b.toNat) (bits_u32_range _ _ _)
theorem take_snoc_b (s : ByteArray) (i : Nat) (h : i < s.size) : s.data.toList.take (i + 1) = s.data.toList.take i ++ [s[i]] := by
 rw [List.take_succ_eq_append_getElem (by simpa using h)]; rfl
theorem zero41 : (∀ w, (zeroValue 126).run Try.prog w = .ok (.agg (Array.replicate 256 (.int .u32 0))) w) ∧ (Try.prog.info? 126).map (·.size) = some 256 :=
 zero_of_info (by kernel_rfl)
set_option maxHeartbeats 1000000 in
theorem turn_calls (c : Int) (w : World) : Calls Try.prog 78 #[.int .u32 c] w fun e w' => e = .returned (.int .u32 (tq c)) ∧ w = w' := by
 by_cases h : Go.bits .and .u32 c 1 = 1
 ·have e : tq c = Go.bits .xor .u32 (c / 2) 2197175160 := by unfold tq; rw [if_pos h]
  rw [e]
  have h1 : (Go.bits .and .u32 c 1 == 1) = true := by rw [h]; rfl
  clear h e
  go_enter Try.func78, Try.ntmps78
  go_wp2
  go_ret
  exact ⟨rfl, rfl⟩
 ·have e : tq c = c / 2 := by unfold tq; rw [if_neg h]
  rw [e]
  have h1 : (Go.bits .and .u32 c 1 == 1) = false := by simpa using h
  clear h e
  go_enter Try.func78, Try.ntmps78
  go_wp2
  go_ret
  exact ⟨rfl, rfl⟩
set_option maxHeartbeats 4000000 in
set_option maxRecDepth 1000000 in
theorem table_calls (w : World) : Calls Try.prog 76 #[] w fun e w' => e = .returned (.agg (tbRow 256)) ∧ Below w.heap.size w w' := by
 have z41 := zero41.1
 rw [← tbRow_zero] at z41
 go_enter Try.func76, Try.ntmps76
 go_wp2
 go_loopg [5] 256 (fun g s5 wx => ∃ i : Nat, i + g = 256 ∧ s5 = .int .i64 i ∧ wx = (w.alloc (.cells (tbRow 0) 126)).alloc (.cells (tbRow i) 126))
 case atStart => exact ⟨0, by omega, rfl, rfl⟩
 case round =>
  obtain ⟨i, hig, rfl, rfl⟩ := hrel
  cases gk with
  | zero =>
   obtain rfl : i = 256 := by omega
   clear hig z41
   have hiz : ¬ ((256 : Int) < 256) := by omega
   have hi41 := Lib.hid (show (Try.prog.info? 126).map (·.size) = some (tbRow 256).size by rw [tbRow_size]; exact zero41.2)
   go_wp2_with (first | (refine wpList_load_row rfl 126 _ rfl (w.heap.size + 1) rfl 126 (tbRow 256) (0, 0) _ (heap_alloc2_new w _ _) Try.underlying126 rfl hi41.out ?_) | (refine wpList_store_row rfl 126 _ _ rfl w.heap.size (tbRow 256) rfl rfl 126 (tbRow 0) (heap_alloc2_old w _ _) hi41.out (by rw [tbRow_size, tbRow_size]) (tbRow_one 256) ?_))
   refine bodyPost_ret (v := .agg (tbRow 256)) ?_ rfl ⟨rfl, ?_⟩
   ·refine results_cell_row (p := 0) (ty := 126) rfl _ _ w.heap.size 126 (tbRow 256) (0, 0) _ rfl ?_ Try.underlying126 rfl hi41.out
    exact setRow_heap _ _ _ _ _ _ (heap_alloc2_old w _ _)
   ·exact below_setRow (((Below.refl _ _).alloc (Nat.le_refl _) _).alloc (by simp) _) (Nat.le_refl _) _
  | succ g =>
   have hi : i < 256 := by omega
   have hiz : (i : Int) < 256 := by omega
   have hm : (i : Int) % 4294967296 = i := by omega
   have HT := Lib.hid (tbRow_set i)
   clear z41
   go_wp2
   go_loopg [4, 10] 8 (fun gj s4 s10 wx => ∃ j : Nat, j + gj = 8 ∧ s10 = .int .i64 j ∧ s4 = .int .u32 (tqs j (i : Int)) ∧ wx = (w.alloc (.cells (tbRow 0) 126)).alloc (.cells (tbRow i) 126))
   case atStart => exact ⟨0, by omega, rfl, rfl, rfl⟩
   case round =>
    obtain ⟨j, hjg, rfl, rfl, rfl⟩ := hrel
    cases gk with
    | zero =>
     obtain rfl : j = 8 := by omega
     have hjz : ¬ ((8 : Int) < 8) := by omega
     clear hjg
     have hcell := tbRow_at0 i hi
     go_wp2
     go_roundg g
     case measure => omega
     case rel => exact ⟨i + 1, by omega, by go_num, by rw [← HT.out]; rfl⟩
    | succ gj =>
     have hjz : (j : Int) < 8 := by omega
     go_wp2_with (go_at_call 78; refine (turn_calls _ _).mono ?_; rintro e w' ⟨rfl, rfl⟩)
     go_roundg gj
     case measure => omega
     case rel => exact ⟨j + 1, by omega, by go_num, rfl, rfl⟩
set_option maxHeartbeats 4000000 in
set_option maxRecDepth 1000000 in
theorem more_calls (c : Int) (s : ByteArray) (w : World) (hs : s.size ≤ 9223372036854775807) (hc : 0 ≤ c ∧ c < 4294967296) :
  Calls Try.prog 70 #[.int .u32 c, .string s] w fun e w' => e = .returned (.int .u32 (mores c s.data.toList)) ∧ Below w.heap.size w w' := by
 have z41 := zero41.1
 rw [← tbRow_zero] at z41
 go_enter Try.func70, Try.ntmps70
 go_wp2_with fail
 refine (table_calls _).mono ?_
 rintro e w1 ⟨rfl, hb⟩
 have hi41 := Lib.hid (show (Try.prog.info? 126).map (·.size) = some (tbRow 256).size by rw [tbRow_size]; exact zero41.2)
 go_wp2_with (refine wpList_store_row rfl 126 _ _ rfl w1.heap.size (tbRow 256) rfl rfl 126 (tbRow 0) (heap_alloc_last w1 _) hi41.out (by rw [tbRow_size, tbRow_size]) (tbRow_one 256) ?_; rw [World.setRow_alloc_new])
 clear z41 hi41
 have HW := Lib.hid ((show Below w.heap.size w (w1.alloc (.cells (tbRow 256) 126)) from hb.alloc hb.size _))
 clear hb
 generalize hW : w1.alloc (.cells (tbRow 256) 126) = W at *
 have hcell : ∀ j : Nat, j < 256 → W.cell? ⟨w1.heap.size, j, none⟩ = some (.int .u32 (tb (j : Int))) := fun j hj => by
  rw [← hW, cell_of_row _ w1.heap.size j (tbRow 256) _ (0, 0) (heap_alloc_last w1 _)]
  exact tbRow_at j hj
 clear hW
 have HC := Lib.hid hcell
 clear hcell
 go_loopg [0, 10] s.size (fun g v0 v10 wx => ∃ (i : Nat) (x : Int), i + g = s.size ∧ v10 = .int .i64 i ∧ v0 = .int .u32 x ∧ Hid (x = mores c (s.data.toList.take i)) ∧ wx = W)
 case atStart => exact ⟨0, c, by omega, rfl, rfl, Lib.hid rfl, rfl⟩
 case round =>
  obtain ⟨i, x, hig, rfl, rfl, HX, rfl⟩ := hrel
  have hx0 : 0 ≤ x := by rw [HX.out]; exact (mores_range c hc _).1
  have hx1 : x < 4294967296 := by rw [HX.out]; exact (mores_range c hc _).2
  cases gk with
  | zero =>
   obtain rfl : i = s.size := by omega
   have hiz : ¬ ((s.size : Int) < (s.size : Int)) := by omega
   clear hig
   go_wp2
   go_ret
   refine ⟨?_, HW.out⟩
   rw [HX.out, List.take_of_length_le (by simp)]
   rfl
  | succ g =>
   have hi : i < s.size := by omega
   have hiz : (i : Int) < (s.size : Int) := by omega
   obtain ⟨q, hq⟩ : ∃ q : Nat, (q : Int) = Go.bits .xor .u8 (x % 256) (s[i].toNat : Int) := ⟨(Go.bits .xor .u8 (x % 256) (s[i].toNat : Int)).toNat, by have := bits_u8_range .xor (x % 256) (s[i].toNat : Int); omega⟩
   have hqb : q < 256 := by have := bits_u8_range .xor (x % 256) (s[i].toNat : Int); omega
   have hc1 := HC.out q hqb
   have hq2 := hq.symm
   have HQ := Lib.hid hq
   clear hq
   go_wp2
   go_roundg g
   case measure => omega
   case rel =>
    refine ⟨i + 1, _, by omega, by go_num, rfl, Lib.hid ?_, rfl⟩
    rw [take_snoc_b s i hi, mores_snoc, ← HX.out, mb, ← HQ.out]
theorem seal_More.calls (a0 : Int) (a1 : ByteArray) (r : Int) (w : World) (h : seal_More.f a0 a1 = some r) :
  Calls Try.prog 70 #[.int .u32 a0, .string a1] w fun e w' => e = .returned (.int .u32 r) ∧ Below w.heap.size w w' := by
 unfold seal_More.f at h
 split at h
 ·rename_i hh
  obtain rfl := Option.some.inj h
  exact more_calls a0 a1 w hh.1 hh.2
 ·cases h
end Go.Proofs.Ytgnmhbkialgeaaa
end

section
namespace Go.Proofs.Ytgnmhbkialgeaaa
open Go.RowKit
def P32 : Nat := 2197175160
def tqN (c : Nat) : Nat := if c % 2 = 1 then (c / 2) ^^^ P32 else c / 2
def tqsN : Nat → Nat → Nat
  | 0, c => c
  | n + 1, c => tqN (tqsN n c)
theorem tqN_lt {c : Nat} (h : c < 4294967296) : tqN c < 4294967296 := by
  unfold tqN
  split
  · exact Nat.xor_lt_two_pow (n := 32) (by omega) (by decide)
  · omega
theorem tqsN_lt {c : Nat} (h : c < 4294967296) (n : Nat) : tqsN n c < 4294967296 := by
  induction n with
  | zero => exact h
  | succ n ih => exact tqN_lt ih
theorem tq_nat {c : Nat} (h : c < 4294967296) : tq (c : Int) = (tqN c : Int) := by
  unfold tq tqN
  have e1 : Go.bits .and .u32 (c : Int) 1 = ((c % 2 : Nat) : Int) := by
    have := u32_and_nat c 1 h (by decide)
    rw [nat_mask1] at this
    exact this
  rw [e1]
  by_cases h1 : c % 2 = 1
  · rw [if_pos (by omega), if_pos h1, show ((c : Int) / 2) = ((c / 2 : Nat) : Int) from by omega, show (2197175160 : Int) = ((P32 : Nat) : Int) from rfl, u32_xor_nat _ _ (by omega) (by decide)]
  · rw [if_neg (by omega), if_neg h1]; omega
theorem tqs_nat {c : Nat} (h : c < 4294967296) (n : Nat) : tqs n (c : Int) = (tqsN n c : Int) := by
  induction n with
  | zero => rfl
  | succ n ih => show tq (tqs n c) = _; rw [ih, tq_nat (tqsN_lt h n)]; rfl
theorem xor_div2 (a b : Nat) : (a ^^^ b) / 2 = (a / 2) ^^^ (b / 2) := by
  have := Nat.shiftRight_xor_distrib (a := a) (b := b) (i := 1)
  simpa [Nat.shiftRight_eq_div_pow] using this
theorem xor_mod2 (a b : Nat) : (a ^^^ b) % 2 = (a % 2 + b % 2) % 2 := by
  have h := Nat.testBit_xor a b 0
  simp only [Nat.testBit_zero] at h
  have ha : a % 2 = 0 ∨ a % 2 = 1 := by omega
  have hb : b % 2 = 0 ∨ b % 2 = 1 := by omega
  have hx : (a ^^^ b) % 2 = 0 ∨ (a ^^^ b) % 2 = 1 := by omega
  rcases ha with ha | ha <;> rcases hb with hb | hb <;> rcases hx with hx | hx <;> simp [ha, hb, hx] at h ⊢
theorem tqN_xor (a b : Nat) : tqN (a ^^^ b) = tqN a ^^^ tqN b := by
  unfold tqN
  rw [xor_div2, xor_mod2]
  have ha : a % 2 = 0 ∨ a % 2 = 1 := by omega
  have hb : b % 2 = 0 ∨ b % 2 = 1 := by omega
  rcases ha with ha | ha <;> rcases hb with hb | hb <;> simp only [ha, hb] <;> simp only [Nat.reduceAdd, Nat.reduceMod, Nat.zero_ne_one, if_true, if_false]
  · rw [Nat.xor_assoc]
  · rw [Nat.xor_assoc, Nat.xor_assoc, Nat.xor_comm P32]
  · rw [Nat.xor_assoc, Nat.xor_comm P32 (b / 2 ^^^ P32), Nat.xor_assoc, Nat.xor_self, Nat.xor_zero]
theorem tqsN_xor (n a b : Nat) : tqsN n (a ^^^ b) = tqsN n a ^^^ tqsN n b := by
  induction n with
  | zero => rfl
  | succ n ih => show tqN _ = tqN _ ^^^ tqN _; rw [ih, tqN_xor]
theorem tqsN_succ (n c : Nat) : tqsN (n + 1) c = tqsN n (tqN c) := by
  induction n with
  | zero => rfl
  | succ n ih => show tqN (tqsN (n + 1) c) = tqN (tqsN n (tqN c)); rw [ih]
theorem tqsN_mul (n y : Nat) : tqsN n (y * 2 ^ n) = y := by
  induction n with
  | zero => show y * 1 = y; omega
  | succ n ih =>
    rw [tqsN_succ]
    have : tqN (y * 2 ^ (n + 1)) = y * 2 ^ n := by
      unfold tqN
      rw [Nat.pow_succ, show y * (2 ^ n * 2) = 2 * (y * 2 ^ n) from by rw [Nat.mul_comm (2 ^ n) 2, ← Nat.mul_assoc, Nat.mul_comm y 2, Nat.mul_assoc], if_neg (by omega)]
      omega
    rw [this, ih]
theorem tqN_zero {z : Nat} (hz : z < 4294967296) (h : tqN z = 0) : z = 0 := by
  unfold tqN at h
  split at h
  · have : z / 2 = P32 := by
      have h2 := congrArg (· ^^^ P32) h
      simp only [Nat.xor_assoc, Nat.xor_self, Nat.xor_zero, Nat.zero_xor] at h2
      exact h2
    unfold P32 at this
    omega
  · omega
theorem tqsN_zero {z : Nat} (hz : z < 4294967296) (n : Nat) (h : tqsN n z = 0) : z = 0 := by
  induction n with
  | zero => exact h
  | succ n ih => exact ih (tqN_zero (tqsN_lt hz n) h)
def mbN (c b : Nat) : Nat := tqsN 8 (c ^^^ b)
def moresN (c : Nat) (l : List UInt8) : Nat := l.foldl (fun c b => mbN c b.toNat) c
theorem split8 (c : Nat) : c = (c % 256) ^^^ (c / 256 * 2 ^ 8) := by
  have h := Nat.two_pow_add_eq_or_of_lt (i := 8) (b := c % 256) (by omega) (c / 256)
  apply Nat.eq_of_testBit_eq
  intro i
  rw [Nat.testBit_xor, show (256 : Nat) = 2 ^ 8 from rfl, Nat.testBit_mod_two_pow, Nat.testBit_mul_two_pow, Nat.testBit_div_two_pow]
  by_cases hi : i < 8
  · simp [hi, show ¬ 8 ≤ i from by omega]
  · simp [hi, show 8 ≤ i from by omega]
theorem mb_nat {c : Nat} (h : c < 4294967296) (b : UInt8) : mb (c : Int) (b.toNat : Int) = (mbN c b.toNat : Int) := by
  have hb := b.toNat_lt
  unfold mb tb mbN
  rw [show ((c : Int) % 256) = ((c % 256 : Nat) : Int) from by omega, u8_xor_nat _ _ (by omega) (by omega), show ((c : Int) / 256) = ((c / 256 : Nat) : Int) from by omega]
  have h1 : (c % 256 ^^^ b.toNat) < 256 := Nat.xor_lt_two_pow (n := 8) (by omega) (by omega)
  rw [tqs_nat (by omega), u32_xor_nat _ _ (tqsN_lt (by omega) 8) (by omega)]
  congr 1
  have e : c ^^^ b.toNat = (c % 256 ^^^ b.toNat) ^^^ (c / 256 * 2 ^ 8) := by
    conv => lhs; rw [split8 c]
    rw [Nat.xor_assoc, Nat.xor_assoc, Nat.xor_comm (c / 256 * 2 ^ 8)]
  rw [e, tqsN_xor 8 (c % 256 ^^^ b.toNat), tqsN_mul]
theorem mbN_lt {c : Nat} (h : c < 4294967296) (b : UInt8) : mbN c b.toNat < 4294967296 := by
  have hb := b.toNat_lt
  exact tqsN_lt (Nat.xor_lt_two_pow (n := 32) h (by omega)) 8
theorem mores_nat (l : List UInt8) : ∀ {c : Nat}, c < 4294967296 → mores (c : Int) l = (moresN c l : Int) ∧ moresN c l < 4294967296 := by
  induction l with
  | nil => intro c h; exact ⟨rfl, h⟩
  | cons b l ih =>
    intro c h
    have h2 := ih (mbN_lt h b)
    refine ⟨?_, h2.2⟩
    show mores (mb c b.toNat) l = _
    rw [mb_nat h]; exact h2.1
theorem mbN_inj {c d : Nat} (hc : c < 4294967296) (hd : d < 4294967296) (x y : UInt8) (h : mbN c x.toNat = mbN d y.toNat) : c ^^^ x.toNat = d ^^^ y.toNat := by
  have hx := x.toNat_lt
  have hy := y.toNat_lt
  unfold mbN at h
  have h2 := congrArg (· ^^^ tqsN 8 (d ^^^ y.toNat)) h
  simp only [Nat.xor_self] at h2
  rw [← tqsN_xor] at h2
  have lt : ((c ^^^ x.toNat) ^^^ (d ^^^ y.toNat)) < 4294967296 := Nat.xor_lt_two_pow (n := 32) (Nat.xor_lt_two_pow (n := 32) hc (by omega)) (Nat.xor_lt_two_pow (n := 32) hd (by omega))
  have h3 := tqsN_zero lt 8 h2
  have h4 := congrArg (· ^^^ (d ^^^ y.toNat)) h3
  simp only [Nat.xor_assoc, Nat.xor_self, Nat.xor_zero, Nat.zero_xor] at h4
  exact h4
theorem moresN_inj (l : List UInt8) : ∀ {c d : Nat}, c < 4294967296 → d < 4294967296 → moresN c l = moresN d l → c = d := by
  induction l with
  | nil => intro c d _ _ h; exact h
  | cons b l ih =>
    intro c d hc hd h
    have h2 := mbN_inj hc hd b b (ih (mbN_lt hc b) (mbN_lt hd b) h)
    have h3 := congrArg (· ^^^ b.toNat) h2
    simp only [Nat.xor_assoc, Nat.xor_self, Nat.xor_zero] at h3
    exact h3
end Go.Proofs.Ytgnmhbkialgeaaa
end

section
namespace Go.Proofs.Ytgnmhbkialgeaaa.U
open Go.RowKit Go.Proofs.YtgnmhbkialgeaaaW.PrintWords Go.Proofs.YtgnmhbkialgeaaaW.PrintLast Go.Proofs.YtgnmhbkialgeaaaW.PrintMore
attribute [local go_sem] max2_int min2_int max_two min_two max_three min_three max_four min_four   -- for this text's walks alone
attribute [local go_sem high] Go.Proofs.Ytgnmhbkialgeaaa.px_xor_u8 Go.Proofs.Ytgnmhbkialgeaaa.px_xor_u16 Go.Proofs.Ytgnmhbkialgeaaa.px_xor_u32 Go.Proofs.Ytgnmhbkialgeaaa.px_xor_u64
def errW : Option Int → Value
  | none => .nilIface
  | some c => .iface 0 (.int .i64 c)
theorem errW_none : errW none = .nilIface := rfl
theorem errW_some (c : Int) : errW (some c) = .iface 0 (.int .i64 c) := rfl
theorem info5 : (Try.prog.info? 5).map (fun i => (i.zero, i.size, i.bytes)) = some (some (.int .u8 0), 1, 1) := by kernel_rfl
end Go.Proofs.Ytgnmhbkialgeaaa.U
end

section
namespace Go.Proofs.Ytgnmhbkialgeaaa.U
open Go.RowKit Go.Proofs.YtgnmhbkialgeaaaW.PrintWords Go.Proofs.YtgnmhbkialgeaaaW.PrintLast Go.Proofs.YtgnmhbkialgeaaaW.PrintMore
attribute [local go_sem] max2_int min2_int max_two min_two max_three min_three max_four min_four   -- for this text's walks alone
attribute [local go_sem high] Go.Proofs.Ytgnmhbkialgeaaa.px_xor_u8 Go.Proofs.Ytgnmhbkialgeaaa.px_xor_u16 Go.Proofs.Ytgnmhbkialgeaaa.px_xor_u32 Go.Proofs.Ytgnmhbkialgeaaa.px_xor_u64
def seal_four.f (a0 : Int) : Option (ByteArray) := some (strOfNums (([(a0) % 256, (a0 / 256) % 256, (a0 / 65536) % 256, (a0 / 16777216) % 256] : List Int)))
set_option maxHeartbeats 8000000 in
set_option maxRecDepth 100000 in
theorem seal_four.calls (a0 : Int) (r : ByteArray) (w : World) (h : seal_four.f a0 = some r) :
  Calls Try.prog 54 #[.int .u32 a0] w fun e w' => e = .returned (.string r) ∧ Below w.heap.size w w' := by
 have HB := Aside0.mk (Below.refl w.heap.size w)
 have H : (some (strOfNums (([(a0) % 256, (a0 / 256) % 256, (a0 / 65536) % 256, (a0 / 16777216) % 256] : List Int)))) = some r := h
 clear h
 obtain ⟨y101, hy101⟩ : ∃ y_ : List Int, y_ = (([(a0) % 256, (a0 / 256) % 256, (a0 / 65536) % 256, (a0 / 16777216) % 256] : List Int)) := ⟨_, rfl⟩
 replace H : (some (strOfNums y101)) = some r := by first | (rw [hy101]; with_reducible exact H) | (have H2_ := (Option.bind_some _ _).symm.trans H; rw [hy101]; with_reducible exact H2_) | (have H2_ := (Option.bind_some _ _).symm.trans H; with_reducible exact H2_) | with_reducible exact H | (rw [hy101]; exact H) | exact H
 have Ny101 := Aside0.mk hy101
 clear hy101
 obtain rfl := Option.some.inj H
 go_enter Try.func54, Try.ntmps54
 go_wp2_with (first | ((with_reducible refine gate_dst (N := 14) rfl ?_); refine Kd.R_lit (Kd.int .u8) _ 5 ?hg (N := 14) ?hd (xs := ([(a0) % 256, (a0 / 256) % 256, (a0 / 65536) % 256, (a0 / 16777216) % 256] : List Int)) (inner := [.int .u8 ((a0) % 256), .int .u8 ((a0 / 256) % 256), .int .u8 ((a0 / 65536) % 256), .int .u8 ((a0 / 16777216) % 256)]) (ok := fun _ => True) (okp := fun _ => True) ?hr ?hp (fun _ hk => hk) trivial (Below.refl _ _) (Nat.le_refl _) (by simp) ?_; (case hd => rfl); (case hg => rfl); (case hr => first | (go_simp; done) | (go_simp; rfl)); (case hp => exact (Reps.one (show Kd.M (Kd.int .u8) _ _ _ ((a0) % 256) [.int .u8 ((a0) % 256)] from rfl) (Reps.one (show Kd.M (Kd.int .u8) _ _ _ ((a0 / 256) % 256) [.int .u8 ((a0 / 256) % 256)] from rfl) (Reps.one (show Kd.M (Kd.int .u8) _ _ _ ((a0 / 65536) % 256) [.int .u8 ((a0 / 65536) % 256)] from rfl) (Reps.one (show Kd.M (Kd.int .u8) _ _ _ ((a0 / 16777216) % 256) [.int .u8 ((a0 / 16777216) % 256)] from rfl) (Reps.none _ _)))))); intro v102 w2 ho3 hb hg_ hnew_; clear hg_ hnew_; (first | rw [← Ny101.out] at ho3 | (simp only [Int.reduceToNat] at ho3; rw [← Ny101.out] at ho3)); have n0_ := Aside0.mk (Kd.R_lower ho3 (below_size (by repeat (first | (with_reducible first | exact HB.out | apply below_alloc | apply pw_below_drewN | apply below_drew1) | exact HB.out)))); have n1_ := Aside0.mk (below_step (by repeat (first | (with_reducible first | exact HB.out | apply below_alloc | apply pw_below_drewN | apply below_drew1) | exact HB.out)) hb); clear HB; have HO103 := n0_; have HB := n1_; clear n0_ n1_; clear hb ho3; have hcv4 := own_string (P := Try.prog) Try.underlying59 Try.underlying5 Try.underlying9 (Kd.own_of_R HO103.out)))
 go_ret
 exact ⟨by first | rfl | (simp [errW_none, errW_some] <;> rfl) | (simp [*, errW_none, errW_some] <;> rfl), by repeat (first | (with_reducible first | exact HB.out | apply below_alloc | apply pw_below_drewN | apply below_drew1) | exact HB.out)⟩
def seal_Sum.f (a0 : ByteArray) : Option (Int) := (seal_More.f 4294967295 a0).bind fun t104 => (some (Go.bits .xor .u32 4294967295 t104))
set_option maxHeartbeats 8000000 in
set_option maxRecDepth 100000 in
theorem seal_Sum.calls (a0 : ByteArray) (r : Int) (w : World) (h : seal_Sum.f a0 = some r) :
  Calls Try.prog 55 #[.string a0] w fun e w' => e = .returned (.int .u32 r) ∧ Below w.heap.size w w' := by
 have HB := Aside0.mk (Below.refl w.heap.size w)
 have H : ((seal_More.f 4294967295 a0).bind fun t104 => (some (Go.bits .xor .u32 4294967295 t104))) = some r := h
 clear h
 replace H := Option.bind_eq_some_iff.mp H
 obtain ⟨t104, A20, H⟩ := H
 replace H : (some (Go.bits .xor .u32 4294967295 t104)) = some r := H
 have A2 := Aside0.mk A20
 clear A20
 obtain rfl := Option.some.inj H
 go_enter Try.func55, Try.ntmps55
 go_wp2_with (first | ((with_reducible refine gate_callee (f := 70) rfl ?_); refine goesL_ (some 4) rfl rfl Try.func70 (by kernel_rfl) rfl #[.int .u32 4294967295, .string a0] rfl (by (try simp only [List.map_toArray, List.map_cons, List.map_nil]); first | done | rfl | (simp only [List.length_drop, List.length_take]; rfl)) ?_; (with_reducible refine (seal_More.calls 4294967295 a0 t104 _ A2.out).mono ?_); rintro e w3 ⟨rfl, hb⟩; refine ⟨_, rfl, ?_⟩; have n0_ := Aside0.mk (below_step (by repeat (first | (with_reducible first | exact HB.out | apply below_alloc | apply pw_below_drewN | apply below_drew1) | exact HB.out)) hb); clear HB; have HB := n0_; clear n0_; (try clear hb); (try clear hb2); (try clear hk); (try clear hi)))
 go_ret
 exact ⟨by first | rfl | (simp [errW_none, errW_some] <;> rfl) | (simp [*, errW_none, errW_some] <;> rfl), by repeat (first | (with_reducible first | exact HB.out | apply below_alloc | apply pw_below_drewN | apply below_drew1) | exact HB.out)⟩
def seal_Put.f (a0 : ByteArray) : Option (ByteArray) := (seal_Sum.f a0).bind fun t105 => ((seal_four.f t105).bind fun t106 => (if a0.size + t106.size ≤ 9223372036854775807 then (some (a0 ++ t106)) else (none)))
set_option maxHeartbeats 8000000 in
set_option maxRecDepth 100000 in
theorem seal_Put.calls (a0 : ByteArray) (r : ByteArray) (w : World) (h : seal_Put.f a0 = some r) :
  Calls Try.prog 31 #[.string a0] w fun e w' => e = .returned (.string r) ∧ Below w.heap.size w w' := by
 have HB := Aside0.mk (Below.refl w.heap.size w)
 have H : ((seal_Sum.f a0).bind fun t105 => ((seal_four.f t105).bind fun t106 => (if a0.size + t106.size ≤ 9223372036854775807 then (some (a0 ++ t106)) else (none)))) = some r := h
 clear h
 replace H := Option.bind_eq_some_iff.mp H
 obtain ⟨t105, A20, H⟩ := H
 replace H : ((seal_four.f t105).bind fun t106 => (if a0.size + t106.size ≤ 9223372036854775807 then (some (a0 ++ t106)) else (none))) = some r := H
 have A2 := Aside0.mk A20
 clear A20
 replace H := Option.bind_eq_some_iff.mp H
 obtain ⟨t106, A30, H⟩ := H
 replace H : (if a0.size + t106.size ≤ 9223372036854775807 then (some (a0 ++ t106)) else (none)) = some r := H
 have A3 := Aside0.mk A30
 clear A30
 by_cases c4 : a0.size + t106.size ≤ 9223372036854775807
 ·rw [if_pos c4] at H
  have c4b0 := eq_true c4
  have c4b1 : decide (a0.size + t106.size ≤ 9223372036854775807) = true := decide_eq_true c4
  try have c4b2 : (9223372036854775807 < a0.size + t106.size) = False := eq_false (Nat.not_lt.2 c4)
  obtain rfl := Option.some.inj H
  go_enter Try.func31, Try.ntmps31
  go_wp2_with (first | ((with_reducible refine gate_callee (f := 55) rfl ?_); refine goesL_ (some 5) rfl rfl Try.func55 (by kernel_rfl) rfl #[.string a0] rfl (by (try simp only [List.map_toArray, List.map_cons, List.map_nil]); first | done | rfl | (simp only [List.length_drop, List.length_take]; rfl)) ?_; (with_reducible refine (seal_Sum.calls a0 t105 _ A2.out).mono ?_); rintro e w5 ⟨rfl, hb⟩; refine ⟨_, rfl, ?_⟩; have n0_ := Aside0.mk (below_step (by repeat (first | (with_reducible first | exact HB.out | apply below_alloc | apply pw_below_drewN | apply below_drew1) | exact HB.out)) hb); clear HB; have HB := n0_; clear n0_; (try clear hb); (try clear hb2); (try clear hk); (try clear hi)) | ((with_reducible refine gate_callee (f := 54) rfl ?_); refine goesL_ (some 6) rfl rfl Try.func54 (by kernel_rfl) rfl #[.int .u32 t105] rfl (by (try simp only [List.map_toArray, List.map_cons, List.map_nil]); first | done | rfl | (simp only [List.length_drop, List.length_take]; rfl)) ?_; (with_reducible refine (seal_four.calls t105 t106 _ A3.out).mono ?_); rintro e w6 ⟨rfl, hb⟩; refine ⟨_, rfl, ?_⟩; have n0_ := Aside0.mk (below_step (by repeat (first | (with_reducible first | exact HB.out | apply below_alloc | apply pw_below_drewN | apply below_drew1) | exact HB.out)) hb); clear HB; have HB := n0_; clear n0_; (try clear hb); (try clear hb2); (try clear hk); (try clear hi)))
  go_ret
  exact ⟨by first | rfl | (simp [errW_none, errW_some] <;> rfl) | (simp [*, errW_none, errW_some] <;> rfl), by repeat (first | (with_reducible first | exact HB.out | apply below_alloc | apply pw_below_drewN | apply below_drew1) | exact HB.out)⟩
 ·rw [if_neg c4] at H
  exact absurd H (by simp)
def seal_Take.f (a0 : ByteArray) : Option (ByteArray × Int) := if (wrap64 ((a0.size : Int) - 4)) < 0 then (some ((⟨#[]⟩ : ByteArray), 2)) else (if 0 ≤ (wrap64 ((a0.size : Int) - 4)) then (if (wrap64 ((a0.size : Int) - 4)) ≤ (a0.size : Int) then ((seal_Sum.f (a0.extract 0 ((wrap64 ((a0.size : Int) - 4)) : Int).toNat)).bind fun t107 => ((seal_four.f t107).bind fun t108 => (if t108.toList = (a0.extract ((wrap64 ((a0.size : Int) - 4)) : Int).toNat a0.size).toList then (some (a0.extract 0 ((wrap64 ((a0.size : Int) - 4)) : Int).toNat, 0)) else (some ((⟨#[]⟩ : ByteArray), 4))))) else (none)) else (none))
def seal_Take.T4 : Bool × List (List Nat × List Nat) := (true, [([], []), ([], []), ([0, 1], [0, 1]), ([2], [2]), ([3, 3], [3]), ([], []), ([], []), ([5, 6], [5, 6]), ([4, 7], [4, 7]), ([8, 4], [8])])
def seal_Take.B4 : List Nat := [0, 0, 3, 7, 15, 0, 0, 96, 255, 511]
theorem seal_Take.tab4 : rtab .any (opsOf Try.f62 4) = seal_Take.T4 := by kernel_rfl
theorem seal_Take.bits4 : waitsOk seal_Take.T4.2 seal_Take.B4 = true := by kernel_rfl
set_option maxHeartbeats 8000000 in
set_option maxRecDepth 100000 in
theorem seal_Take.calls (a0 : ByteArray) (r1 : ByteArray) (r2 : Int) (w : World) (h : seal_Take.f a0 = some (r1, r2)) :
  Calls Try.prog 62 #[.string a0] w fun e w' => e = .returned (.tuple #[.string r1, .int .i64 r2]) ∧ Below w.heap.size w w' := by
 have HB := Aside0.mk (Below.refl w.heap.size w)
 have H : (if (wrap64 ((a0.size : Int) - 4)) < 0 then (some ((⟨#[]⟩ : ByteArray), 2)) else (if 0 ≤ (wrap64 ((a0.size : Int) - 4)) then (if (wrap64 ((a0.size : Int) - 4)) ≤ (a0.size : Int) then ((seal_Sum.f (a0.extract 0 ((wrap64 ((a0.size : Int) - 4)) : Int).toNat)).bind fun t107 => ((seal_four.f t107).bind fun t108 => (if t108.toList = (a0.extract ((wrap64 ((a0.size : Int) - 4)) : Int).toNat a0.size).toList then (some (a0.extract 0 ((wrap64 ((a0.size : Int) - 4)) : Int).toNat, 0)) else (some ((⟨#[]⟩ : ByteArray), 4))))) else (none)) else (none))) = some (r1, r2) := h
 clear h
 by_cases c2 : (wrap64 ((a0.size : Int) - 4)) < 0
 ·rw [if_pos c2] at H
  have c2b0 : decide ((wrap64 ((a0.size : Int) - 4)) < 0) = true := decide_eq_true c2
  clear c2
  simp only [Option.some.injEq, Prod.mk.injEq] at H
  obtain ⟨rfl, rfl⟩ := H
  go_enter Try.func62, Try.ntmps62
  go_wp2
  go_ret2
  exact ⟨by first | rfl | (simp [errW_none, errW_some] <;> rfl) | (simp [*, errW_none, errW_some] <;> rfl), by repeat (first | (with_reducible first | exact HB.out | apply below_alloc | apply pw_below_drewN | apply below_drew1) | exact HB.out)⟩
 ·rw [if_neg c2] at H
  have c2b0 : decide ((wrap64 ((a0.size : Int) - 4)) < 0) = false := decide_eq_false c2
  clear c2
  obtain ⟨ji3, hji3⟩ : ∃ j_ : Int, (wrap64 ((a0.size : Int) - 4)) = j_ := ⟨_, rfl⟩
  replace H : (if 0 ≤ (ji3) then (if (ji3) ≤ (a0.size : Int) then ((seal_Sum.f (a0.extract 0 ((ji3) : Int).toNat)).bind fun t107 => ((seal_four.f t107).bind fun t108 => (if t108.toList = (a0.extract ((ji3) : Int).toNat a0.size).toList then (some (a0.extract 0 ((ji3) : Int).toNat, 0)) else (some ((⟨#[]⟩ : ByteArray), 4))))) else (none)) else (none)) = some (r1, r2) := by first | (rw [hji3] at H; exact H) | (simp only [hji3] at H ⊢; exact H)
  (try rw [hji3] at c2b0)
  have hji3w : (IntKind.i64.wrap ((a0.size : Int) - 4)) = ji3 := (i64_w _).trans hji3
  by_cases c4 : 0 ≤ (ji3)
  ·rw [if_pos c4] at H
   have c4b0 := eq_true c4
   have c4b1 : decide (0 ≤ (ji3)) = true := decide_eq_true c4
   clear c4
   by_cases c5 : (ji3) ≤ (a0.size : Int)
   ·rw [if_pos c5] at H
    have c5b0 := eq_true c5
    have c5b1 : decide ((ji3) ≤ (a0.size : Int)) = true := decide_eq_true c5
    clear c5
    replace H := Option.bind_eq_some_iff.mp H
    obtain ⟨t107, A60, H⟩ := H
    replace H : ((seal_four.f t107).bind fun t108 => (if t108.toList = (a0.extract ((ji3) : Int).toNat a0.size).toList then (some (a0.extract 0 ((ji3) : Int).toNat, 0)) else (some ((⟨#[]⟩ : ByteArray), 4)))) = some (r1, r2) := H
    have A6 := Aside0.mk A60
    clear A60
    replace H := Option.bind_eq_some_iff.mp H
    obtain ⟨t108, A70, H⟩ := H
    replace H : (if t108.toList = (a0.extract ((ji3) : Int).toNat a0.size).toList then (some (a0.extract 0 ((ji3) : Int).toNat, 0)) else (some ((⟨#[]⟩ : ByteArray), 4))) = some (r1, r2) := H
    have A7 := Aside0.mk A70
    clear A70
    have c8b0 := eq_true (of_decide_eq_true (by first | (with_reducible assumption) | assumption) : 0 ≤ (ji3))
    have c9b0 := eq_true (of_decide_eq_true (by first | (with_reducible assumption) | assumption) : (ji3) ≤ (a0.size : Int))
    by_cases c10 : t108.toList = (a0.extract ((ji3) : Int).toNat a0.size).toList
    ·rw [if_pos c10] at H
     have c10b0 : (t108.toList == (a0.extract ((ji3) : Int).toNat a0.size).toList) = true := beq_iff_eq.mpr c10
     have c10b1 : (t108.toList != (a0.extract ((ji3) : Int).toNat a0.size).toList) = false := bne_eq_false_iff_eq.mpr c10
     clear c10
     have c11b0 := eq_true (of_decide_eq_true (by first | (with_reducible assumption) | assumption) : 0 ≤ (ji3))
     have c12b0 := eq_true (of_decide_eq_true (by first | (with_reducible assumption) | assumption) : (ji3) ≤ (a0.size : Int))
     simp only [Option.some.injEq, Prod.mk.injEq] at H
     obtain ⟨rfl, rfl⟩ := H
     go_enter Try.func62, Try.ntmps62
     try go_wp2
     have n0_ := Aside0.mk (below_drew1 HB.out)
     (clear HB; have HB := n0_; clear n0_)
     refine start_ (n := 10) (S := fun w' => True) (ds := []) #[false, false, false, false, false, false, false, false, false, false] (by kernel_rfl) rfl rfl trivial (fun hHeld => ?_); refine with_tabW seal_Take.tab4 seal_Take.bits4 (fun HT_ HW_ => ?_)
     generalize w.drew = w13 at HB hHeld ⊢
     refine pure_ (i := 0) (N := some 13) (v := ?_) (a' := ?_) #[true, false, false, false, false, false, false, false, false, false] rfl rfl (any_of HT_.out (by kernel_rfl)) (fun _ _ _ h => h) (Or.inl ⟨by rfl, ?_⟩) ?_ ?_
     (rotate_left; · (intro w'; go_simp; with_reducible rfl))
     (rotate_left; · (simp only [Act.put, List.setIfInBounds_toArray, List.set_cons_zero, List.set_cons_succ, i64_w, i32_w]; rfl))
     refine pure_ (i := 1) (N := some 14) (v := ?_) (a' := ?_) #[true, true, false, false, false, false, false, false, false, false] rfl rfl (any_of HT_.out (by kernel_rfl)) (fun _ _ _ h => h) (Or.inl ⟨by rfl, ?_⟩) ?_ ?_
     (rotate_left; · (intro w'; go_simp; with_reducible rfl))
     (rotate_left; · (simp only [Act.put, List.setIfInBounds_toArray, List.set_cons_zero, List.set_cons_succ, i64_w, i32_w]; rfl))
     refine pure_ (i := 2) (N := some 15) (v := ?_) (a' := ?_) #[true, true, true, false, false, false, false, false, false, false] rfl rfl (any_of HT_.out (by kernel_rfl)) (fun _ _ _ h => h) (Or.inl ⟨by rfl, ?_⟩) ?_ ?_
     (rotate_left; · (intro w'; go_simp; with_reducible rfl))
     (rotate_left; · (simp only [Act.put, List.setIfInBounds_toArray, List.set_cons_zero, List.set_cons_succ, i64_w, i32_w]; rfl))
     refine pure_ (i := 5) (N := some 18) (v := ?_) (a' := ?_) #[true, true, true, false, false, true, false, false, false, false] rfl rfl (any_of HT_.out (by kernel_rfl)) (fun _ _ _ h => h) (Or.inl ⟨by rfl, ?_⟩) ?_ ?_
     (rotate_left; · (intro w'; go_simp; with_reducible rfl))
     (rotate_left; · (simp only [Act.put, List.setIfInBounds_toArray, List.set_cons_zero, List.set_cons_succ, i64_w, i32_w]; rfl))
     refine pure_ (i := 6) (N := some 19) (v := ?_) (a' := ?_) #[true, true, true, false, false, true, true, false, false, false] rfl rfl (any_of HT_.out (by kernel_rfl)) (fun _ _ _ h => h) (Or.inl ⟨by rfl, ?_⟩) ?_ ?_
     (rotate_left; · (intro w'; go_simp; with_reducible rfl))
     (rotate_left; · (simp only [Act.put, List.setIfInBounds_toArray, List.set_cons_zero, List.set_cons_succ, i64_w, i32_w]; rfl))
     refine pure_ (i := 7) (N := some 20) (v := ?_) (a' := ?_) #[true, true, true, false, false, true, true, true, false, false] rfl rfl (any_of HT_.out (by kernel_rfl)) (fun _ _ _ h => h) (Or.inl ⟨by rfl, ?_⟩) ?_ ?_
     (rotate_left; · (intro w'; go_simp; with_reducible rfl))
     (rotate_left; · (simp only [Act.put, List.setIfInBounds_toArray, List.set_cons_zero, List.set_cons_succ, i64_w, i32_w]; rfl))
     refine one_ (i := 3) (N := some 16) #[true, true, true, true, false, true, true, true, false, false] rfl rfl (one_of HT_.out (by kernel_rfl)) (by decide) (fun K hK => ?_)
     refine goes_ Try.func55 (by kernel_rfl) rfl #[.string (a0.extract 0 ((ji3) : Int).toNat)] (by rfl) rfl rfl (by (try simp only [List.map_toArray, List.map_cons, List.map_nil]); first | done | (simp only [hji3]; rfl) | rfl | (simp only [List.length_drop, List.length_take]; rfl)) ?_
     with_reducible refine (seal_Sum.calls (a0.extract 0 ((ji3) : Int).toNat) t107 _ A6.out).mono ?_
     rintro e w14 ⟨rfl, hb⟩
     refine ⟨_, rfl, ?_⟩
     have n0_ := Aside0.mk (below_step (by repeat (first | (with_reducible first | exact HB.out | apply below_alloc | apply pw_below_drewN | apply below_drew1) | exact HB.out)) hb)
     (clear HB; have HB := n0_; clear n0_; (try clear hb); (try clear hb2); (try clear hk); (try clear hi))
     refine hK.out _ _ trivial (fun hHeld => ?_)
     clear hK K
     refine norm_ (a' := ?_) ?_ ?_
     rotate_left
     ·show Act.put _ (some 16) _ = _
      simp only [Act.put, List.setIfInBounds_toArray, List.set_cons_zero, List.set_cons_succ, i64_w, i32_w]
      rfl
     refine one_ (i := 4) (N := some 17) #[true, true, true, true, true, true, true, true, false, false] rfl rfl (one_of HT_.out (by kernel_rfl)) (by decide) (fun K hK => ?_)
     refine goes_ Try.func54 (by kernel_rfl) rfl #[.int .u32 t107] (by rfl) rfl rfl (by (try simp only [List.map_toArray, List.map_cons, List.map_nil]); first | done | rfl | (simp only [List.length_drop, List.length_take]; rfl)) ?_
     with_reducible refine (seal_four.calls t107 t108 _ A7.out).mono ?_
     rintro e w15 ⟨rfl, hb⟩
     refine ⟨_, rfl, ?_⟩
     have n0_ := Aside0.mk (below_step (by repeat (first | (with_reducible first | exact HB.out | apply below_alloc | apply pw_below_drewN | apply below_drew1) | exact HB.out)) hb)
     (clear HB; have HB := n0_; clear n0_; (try clear hb); (try clear hb2); (try clear hk); (try clear hi))
     refine hK.out _ _ trivial (fun hHeld => ?_)
     clear hK K
     refine norm_ (a' := ?_) ?_ ?_
     rotate_left
     ·show Act.put _ (some 17) _ = _
      simp only [Act.put, List.setIfInBounds_toArray, List.set_cons_zero, List.set_cons_succ, i64_w, i32_w]
      rfl
     refine pure_ (i := 8) (N := some 21) (v := ?_) (a' := ?_) #[true, true, true, true, true, true, true, true, true, false] rfl rfl (any_of HT_.out (by kernel_rfl)) (fun _ _ _ h => h) (Or.inl ⟨by rfl, ?_⟩) ?_ ?_
     (rotate_left; · (intro w'; go_simp; with_reducible rfl))
     (rotate_left; · (simp only [Act.put, List.setIfInBounds_toArray, List.set_cons_zero, List.set_cons_succ, i64_w, i32_w]; rfl))
     refine pure_ (i := 9) (N := some 12) (v := ?_) (a' := ?_) #[true, true, true, true, true, true, true, true, true, true] rfl rfl (any_of HT_.out (by kernel_rfl)) (fun _ _ _ h => h) (Or.inl ⟨by rfl, ?_⟩) ?_ ?_
     (rotate_left; · (intro w'; go_simp; with_reducible rfl))
     (rotate_left; · (simp only [Act.put, List.setIfInBounds_toArray, List.set_cons_zero, List.set_cons_succ, i64_w, i32_w]; rfl))
     refine done_ (done_of HT_.out (by kernel_rfl)) ?_
     try go_wp2
     go_ret2
     exact ⟨by first | rfl | (simp [errW_none, errW_some] <;> rfl) | (simp only [← hji3]; first | rfl | (simp [errW_none, errW_some] <;> rfl)) | (simp [*, errW_none, errW_some] <;> rfl), by repeat (first | (with_reducible first | exact HB.out | apply below_alloc | apply pw_below_drewN | apply below_drew1) | exact HB.out)⟩
    ·rw [if_neg c10] at H
     have c10b0 : (t108.toList == (a0.extract ((ji3) : Int).toNat a0.size).toList) = false := beq_eq_false_iff_ne.mpr c10
     have c10b1 : (t108.toList != (a0.extract ((ji3) : Int).toNat a0.size).toList) = true := bne_iff_ne.mpr c10
     simp only [Option.some.injEq, Prod.mk.injEq] at H
     obtain ⟨rfl, rfl⟩ := H
     go_enter Try.func62, Try.ntmps62
     try go_wp2
     have n0_ := Aside0.mk (below_drew1 HB.out)
     (clear HB; have HB := n0_; clear n0_)
     refine start_ (n := 10) (S := fun w' => True) (ds := []) #[false, false, false, false, false, false, false, false, false, false] (by kernel_rfl) rfl rfl trivial (fun hHeld => ?_); refine with_tabW seal_Take.tab4 seal_Take.bits4 (fun HT_ HW_ => ?_)
     generalize w.drew = w16 at HB hHeld ⊢
     refine pure_ (i := 0) (N := some 13) (v := ?_) (a' := ?_) #[true, false, false, false, false, false, false, false, false, false] rfl rfl (any_of HT_.out (by kernel_rfl)) (fun _ _ _ h => h) (Or.inl ⟨by rfl, ?_⟩) ?_ ?_
     (rotate_left; · (intro w'; go_simp; with_reducible rfl))
     (rotate_left; · (simp only [Act.put, List.setIfInBounds_toArray, List.set_cons_zero, List.set_cons_succ, i64_w, i32_w]; rfl))
     refine pure_ (i := 1) (N := some 14) (v := ?_) (a' := ?_) #[true, true, false, false, false, false, false, false, false, false] rfl rfl (any_of HT_.out (by kernel_rfl)) (fun _ _ _ h => h) (Or.inl ⟨by rfl, ?_⟩) ?_ ?_
     (rotate_left; · (intro w'; go_simp; with_reducible rfl))
     (rotate_left; · (simp only [Act.put, List.setIfInBounds_toArray, List.set_cons_zero, List.set_cons_succ, i64_w, i32_w]; rfl))
     refine pure_ (i := 2) (N := some 15) (v := ?_) (a' := ?_) #[true, true, true, false, false, false, false, false, false, false] rfl rfl (any_of HT_.out (by kernel_rfl)) (fun _ _ _ h => h) (Or.inl ⟨by rfl, ?_⟩) ?_ ?_
     (rotate_left; · (intro w'; go_simp; with_reducible rfl))
     (rotate_left; · (simp only [Act.put, List.setIfInBounds_toArray, List.set_cons_zero, List.set_cons_succ, i64_w, i32_w]; rfl))
     refine pure_ (i := 5) (N := some 18) (v := ?_) (a' := ?_) #[true, true, true, false, false, true, false, false, false, false] rfl rfl (any_of HT_.out (by kernel_rfl)) (fun _ _ _ h => h) (Or.inl ⟨by rfl, ?_⟩) ?_ ?_
     (rotate_left; · (intro w'; go_simp; with_reducible rfl))
     (rotate_left; · (simp only [Act.put, List.setIfInBounds_toArray, List.set_cons_zero, List.set_cons_succ, i64_w, i32_w]; rfl))
     refine pure_ (i := 6) (N := some 19) (v := ?_) (a' := ?_) #[true, true, true, false, false, true, true, false, false, false] rfl rfl (any_of HT_.out (by kernel_rfl)) (fun _ _ _ h => h) (Or.inl ⟨by rfl, ?_⟩) ?_ ?_
     (rotate_left; · (intro w'; go_simp; with_reducible rfl))
     (rotate_left; · (simp only [Act.put, List.setIfInBounds_toArray, List.set_cons_zero, List.set_cons_succ, i64_w, i32_w]; rfl))
     refine pure_ (i := 7) (N := some 20) (v := ?_) (a' := ?_) #[true, true, true, false, false, true, true, true, false, false] rfl rfl (any_of HT_.out (by kernel_rfl)) (fun _ _ _ h => h) (Or.inl ⟨by rfl, ?_⟩) ?_ ?_
     (rotate_left; · (intro w'; go_simp; with_reducible rfl))
     (rotate_left; · (simp only [Act.put, List.setIfInBounds_toArray, List.set_cons_zero, List.set_cons_succ, i64_w, i32_w]; rfl))
     refine one_ (i := 3) (N := some 16) #[true, true, true, true, false, true, true, true, false, false] rfl rfl (one_of HT_.out (by kernel_rfl)) (by decide) (fun K hK => ?_)
     refine goes_ Try.func55 (by kernel_rfl) rfl #[.string (a0.extract 0 ((ji3) : Int).toNat)] (by rfl) rfl rfl (by (try simp only [List.map_toArray, List.map_cons, List.map_nil]); first | done | (simp only [hji3]; rfl) | rfl | (simp only [List.length_drop, List.length_take]; rfl)) ?_
     with_reducible refine (seal_Sum.calls (a0.extract 0 ((ji3) : Int).toNat) t107 _ A6.out).mono ?_
     rintro e w17 ⟨rfl, hb⟩
     refine ⟨_, rfl, ?_⟩
     have n0_ := Aside0.mk (below_step (by repeat (first | (with_reducible first | exact HB.out | apply below_alloc | apply pw_below_drewN | apply below_drew1) | exact HB.out)) hb)
     (clear HB; have HB := n0_; clear n0_; (try clear hb); (try clear hb2); (try clear hk); (try clear hi))
     refine hK.out _ _ trivial (fun hHeld => ?_)
     clear hK K
     refine norm_ (a' := ?_) ?_ ?_
     rotate_left
     ·show Act.put _ (some 16) _ = _
      simp only [Act.put, List.setIfInBounds_toArray, List.set_cons_zero, List.set_cons_succ, i64_w, i32_w]
      rfl
     refine one_ (i := 4) (N := some 17) #[true, true, true, true, true, true, true, true, false, false] rfl rfl (one_of HT_.out (by kernel_rfl)) (by decide) (fun K hK => ?_)
     refine goes_ Try.func54 (by kernel_rfl) rfl #[.int .u32 t107] (by rfl) rfl rfl (by (try simp only [List.map_toArray, List.map_cons, List.map_nil]); first | done | rfl | (simp only [List.length_drop, List.length_take]; rfl)) ?_
     with_reducible refine (seal_four.calls t107 t108 _ A7.out).mono ?_
     rintro e w18 ⟨rfl, hb⟩
     refine ⟨_, rfl, ?_⟩
     have n0_ := Aside0.mk (below_step (by repeat (first | (with_reducible first | exact HB.out | apply below_alloc | apply pw_below_drewN | apply below_drew1) | exact HB.out)) hb)
     (clear HB; have HB := n0_; clear n0_; (try clear hb); (try clear hb2); (try clear hk); (try clear hi))
     refine hK.out _ _ trivial (fun hHeld => ?_)
     clear hK K
     refine norm_ (a' := ?_) ?_ ?_
     rotate_left
     ·show Act.put _ (some 17) _ = _
      simp only [Act.put, List.setIfInBounds_toArray, List.set_cons_zero, List.set_cons_succ, i64_w, i32_w]
      rfl
     refine pure_ (i := 8) (N := some 21) (v := ?_) (a' := ?_) #[true, true, true, true, true, true, true, true, true, false] rfl rfl (any_of HT_.out (by kernel_rfl)) (fun _ _ _ h => h) (Or.inl ⟨by rfl, ?_⟩) ?_ ?_
     (rotate_left; · (intro w'; go_simp; with_reducible rfl))
     (rotate_left; · (simp only [Act.put, List.setIfInBounds_toArray, List.set_cons_zero, List.set_cons_succ, i64_w, i32_w]; rfl))
     refine pure_ (i := 9) (N := some 12) (v := ?_) (a' := ?_) #[true, true, true, true, true, true, true, true, true, true] rfl rfl (any_of HT_.out (by kernel_rfl)) (fun _ _ _ h => h) (Or.inl ⟨by rfl, ?_⟩) ?_ ?_
     (rotate_left; · (intro w'; go_simp; with_reducible rfl))
     (rotate_left; · (simp only [Act.put, List.setIfInBounds_toArray, List.set_cons_zero, List.set_cons_succ, i64_w, i32_w]; rfl))
     refine done_ (done_of HT_.out (by kernel_rfl)) ?_
     try go_wp2
     go_ret2
     exact ⟨by first | rfl | (simp [errW_none, errW_some] <;> rfl) | (simp only [← hji3]; first | rfl | (simp [errW_none, errW_some] <;> rfl)) | (simp [*, errW_none, errW_some] <;> rfl), by repeat (first | (with_reducible first | exact HB.out | apply below_alloc | apply pw_below_drewN | apply below_drew1) | exact HB.out)⟩
   ·rw [if_neg c5] at H
    exact absurd H (by simp)
  ·rw [if_neg c4] at H
   exact absurd H (by simp)
end Go.Proofs.Ytgnmhbkialgeaaa.U
end

section
namespace Go.Proofs.Ytgnmhbkialgeaaa
open Go.RowKit Go.Proofs.Ytgnmhbkialgeaaa.U Go.Proofs.YtgnmhbkialgeaaaW.PrintWords Go.Proofs.YtgnmhbkialgeaaaW.PrintLast Math
theorem seal_More_eq (s : ByteArray) (hs : s.size ≤ 9223372036854775807) (c : Nat) (hc : c < 4294967296) : seal_More.f (c : Int) s = some ((moresN c s.data.toList : Nat) : Int) := by
  unfold seal_More.f
  rw [if_pos ⟨hs, by omega, by omega⟩, (mores_nat _ hc).1]
def sumN (s : ByteArray) : Nat := moresN 4294967295 s.data.toList ^^^ 4294967295
theorem sumN_lt (s : ByteArray) : sumN s < 4294967296 := Nat.xor_lt_two_pow (n := 32) (mores_nat s.data.toList (c := 4294967295) (by decide)).2 (by decide)
theorem seal_Sum_eq (s : ByteArray) (hs : s.size ≤ 9223372036854775807) : seal_Sum.f s = some ((sumN s : Nat) : Int) := by
  unfold seal_Sum.f
  have h := seal_More_eq s hs 4294967295 (by decide)
  have h2 := (mores_nat s.data.toList (c := 4294967295) (by decide)).2
  rw [show ((4294967295 : Nat) : Int) = 4294967295 from rfl] at h
  rw [h]
  simp only [Option.bind_some]
  have e : Go.bits .xor .u32 4294967295 ((moresN 4294967295 s.data.toList : Nat) : Int) = ((sumN s : Nat) : Int) := by
    have := u32_xor_nat 4294967295 (moresN 4294967295 s.data.toList) (by decide) h2
    rw [Nat.xor_comm] at this
    exact this
  rw [e]
theorem moresN_append (c : Nat) (l m : List UInt8) : moresN c (l ++ m) = moresN (moresN c l) m := by simp [moresN]
theorem moresN_lt (l : List UInt8) {c : Nat} (h : c < 4294967296) : moresN c l < 4294967296 := (mores_nat l h).2
def fourS (c : Nat) : ByteArray := strOfNums [(c : Int) % 256, (c : Int) / 256 % 256, (c : Int) / 65536 % 256, (c : Int) / 16777216 % 256]
theorem fourS_size (c : Nat) : (fourS c).size = 4 := by unfold fourS; rw [nums_size]; rfl
theorem seal_four_eq (c : Nat) : seal_four.f (c : Int) = some (fourS c) := rfl
theorem ofNat_inj {a b : Nat} (ha : a < 256) (hb : b < 256) (h : UInt8.ofNat a = UInt8.ofNat b) : a = b := by
  have h2 := congrArg UInt8.toNat h
  rw [UInt8.toNat_ofNat', UInt8.toNat_ofNat'] at h2
  omega
theorem fourS_inj {c d : Nat} (hc : c < 4294967296) (hd : d < 4294967296) (h : (fourS c).data.toList = (fourS d).data.toList) : c = d := by
  unfold fourS at h
  rw [nums_dl, nums_dl] at h
  simp only [List.map_cons, List.map_nil, List.cons.injEq, and_true] at h
  obtain ⟨h1, h2, h3, h4⟩ := h
  have h1 := ofNat_inj (by omega) (by omega) h1
  have h2 := ofNat_inj (by omega) (by omega) h2
  have h3 := ofNat_inj (by omega) (by omega) h3
  have h4 := ofNat_inj (by omega) (by omega) h4
  omega
def putS (s : ByteArray) : ByteArray := s ++ fourS (sumN s)
theorem putS_size (s : ByteArray) : (putS s).size = s.size + 4 := by unfold putS; rw [app_size, fourS_size]
theorem seal_Put_eq (s : ByteArray) (hs : s.size ≤ 9223372036854775803) : seal_Put.f s = some (putS s) := by
  unfold seal_Put.f
  rw [seal_Sum_eq s (by omega)]
  simp only [Option.bind_some]
  rw [seal_four_eq]
  simp only [Option.bind_some]
  rw [if_pos (by rw [fourS_size]; omega)]
  rfl
def takeS (s : ByteArray) : ByteArray × Int :=
  if s.size < 4 then (⟨#[]⟩, 2)
  else if (fourS (sumN (s.extract 0 (s.size - 4)))).data.toList = (s.extract (s.size - 4) s.size).data.toList then (s.extract 0 (s.size - 4), 0)
  else (⟨#[]⟩, 4)
theorem ext0_le (s : ByteArray) (n : Nat) : (s.extract 0 n).size ≤ s.size := by
  rw [sz, ext_, List.drop_zero, List.length_take, ← sz]; omega
theorem seal_Take_eq (s : ByteArray) (hs : s.size ≤ 9223372036854775807) : seal_Take.f s = some (takeS s) := by
  unfold seal_Take.f takeS
  by_cases h : s.size < 4
  · rw [if_pos h, if_pos (by rw [w64 (by omega) (by omega)]; omega)]
  · rw [if_neg h, w64 (by omega) (by omega), if_neg (by omega), if_pos (by omega), if_pos (by omega), show ((s.size : Int) - 4).toNat = s.size - 4 from by omega]
    rw [seal_Sum_eq _ (by have := ext0_le s (s.size - 4); omega)]
    simp only [Option.bind_some]
    rw [seal_four_eq]
    simp only [Option.bind_some]
    rw [tl, tl]
    by_cases h2 : (fourS (sumN (s.extract 0 (s.size - 4)))).data.toList = (s.extract (s.size - 4) s.size).data.toList
    · rw [if_pos h2, if_pos h2]
    · rw [if_neg h2, if_neg h2]
theorem take_put (s : ByteArray) : takeS (putS s) = (s, 0) := by
  have e1 : (putS s).extract 0 ((putS s).size - 4) = s := by
    apply inj
    rw [ext_, putS_size, putS, app, List.drop_zero, show s.size + 4 - 4 = s.data.toList.length from by rw [← sz]; omega, List.take_left']
    rfl
  unfold takeS
  rw [if_neg (by rw [putS_size]; omega), e1, if_pos]
  rw [ext_, putS_size, List.take_of_length_le (by rw [putS, app, List.length_append, ← sz, ← sz, fourS_size]; omega), putS, app, show s.size + 4 - 4 = s.data.toList.length from by rw [← sz]; omega, List.drop_left']
  rfl
theorem put_take (s : ByteArray) (h : (takeS s).2 = 0) : putS (takeS s).1 = s := by
  unfold takeS at h ⊢
  by_cases h1 : s.size < 4
  · rw [if_pos h1] at h; cases h
  · rw [if_neg h1] at h ⊢
    by_cases h2 : (fourS (sumN (s.extract 0 (s.size - 4)))).data.toList = (s.extract (s.size - 4) s.size).data.toList
    · rw [if_pos h2]
      apply inj
      rw [putS, app, h2, ext_, ext_, List.drop_zero, show s.data.toList.take s.size = s.data.toList from List.take_of_length_le (by rw [← sz]; exact Nat.le_refl _)]
      exact List.take_append_drop _ _
    · rw [if_neg h2] at h; cases h
end Go.Proofs.Ytgnmhbkialgeaaa
end

section
namespace Go.Proofs.Ytgnmhbkialgeaaa
open Go.RowKit Go.Shelf Go.Proofs.YtgnmhbkialgeaaaW.PrintWords Go.Proofs.YtgnmhbkialgeaaaW.PrintLast Go.Proofs.YtgnmhbkialgeaaaW.PrintMore Math
def openE (letter : UInt8) (F : List UInt8 → List UInt8 × Int) (s : ByteArray) : Int :=
 if (takeS s).2 = 0 then
  match (takeS s).1.data.toList with
  | [] => 3
  | c :: r => if c = letter then (if (F r).2 = 0 then (if (F r).1 = [] then 0 else 3) else (F r).2) else 3
 else (takeS s).2
theorem arr_eq (s : ByteArray) (l : List UInt8) (h : s.data.toList = l) : s = ⟨l.toArray⟩ := by apply inj; exact h
theorem G2.grown {b k : Nat} {w V W : World} (hB : Below w.heap.size w V) (hb : w.heap.size ≤ b) (h : G2 b k V W) : w.grownBy W (some k) :=
 ⟨h.os.trans hB.os, h.tape.trans hB.tape, h.output.trans hB.output, Nat.le_trans hB.size h.size, fun i hi hr => (h.block i (Nat.lt_of_lt_of_le hi hB.size) (by omega) (fun e => hr (by rw [e]))).trans (hB.block i hi)⟩
theorem TB.pute {W : World} {b : Nat} {s : List UInt8} {e e' : Int} (h : TB W b s e) : TB (W.setCell ⟨b, 1, none⟩ (.int .i64 e')) b s e' := blk_put h 1 _ rfl
theorem TB.put0 {W : World} {b : Nat} {s s' : List UInt8} {e : Int} (h : TB W b s e) : TB (W.setCell ⟨b, 0, none⟩ (.string ⟨s'.toArray⟩)) b s' e := blk_put h 0 _ rfl
theorem idx0 (T : ByteArray) (c : UInt8) (r : List UInt8) (hT : T.data.toList = c :: r) (W : World) : (Instr.index 9 (.string T) (.int .i64 0)).run Try.prog W = .ok (.int .u8 (c.toNat : Int)) W := by
 have hs : 0 < T.size := by rw [sz, hT]; simp
 have hb := bt_at_ T 0 (by rw [hT]; simp)
 have hb2 : (T[0]'hs).toNat = c.toNat := by
  unfold bt at hb
  rw [dif_pos (by simpa using hs)] at hb
  simp only [hT, List.getElem_cons_zero] at hb
  exact Int.ofNat_inj.1 hb
 rw [run_index_string W 9 T .i64 0 Try.underlying9]
 simp [hs, hb2]
theorem frame85 (l : List Value) (h : l.length = 85) : ∃ u : Nat → Value, l = [u 0, u 1, u 2, u 3, u 4, u 5, u 6, u 7, u 8, u 9, u 10, u 11, u 12, u 13, u 14, u 15, u 16, u 17, u 18, u 19, u 20, u 21, u 22, u 23, u 24, u 25, u 26, u 27, u 28, u 29, u 30, u 31, u 32, u 33, u 34, u 35, u 36, u 37, u 38, u 39, u 40, u 41, u 42, u 43, u 44, u 45, u 46, u 47, u 48, u 49, u 50, u 51, u 52, u 53, u 54, u 55, u 56, u 57, u 58, u 59, u 60, u 61, u 62, u 63, u 64, u 65, u 66, u 67, u 68, u 69, u 70, u 71, u 72, u 73, u 74, u 75, u 76, u 77, u 78, u 79, u 80, u 81, u 82, u 83, u 84] ∧ ∀ i, u i = l.getD i undef := by
 refine ⟨fun i => l.getD i undef, ?_, fun _ => rfl⟩
 show l = (List.range 85).map (fun i => l.getD i undef)
 apply List.ext_getElem?
 intro i
 rw [List.getElem?_map]
 by_cases hi : i < 85
 ·rw [List.getElem?_range hi, List.getElem?_eq_getElem (show i < l.length by omega)]
  simp only [Option.map_some, List.getD_eq_getElem?_getD]
  rw [List.getElem?_eq_getElem (show i < l.length by omega)]; rfl
 ·rw [List.getElem?_eq_none (by omega), List.getElem?_eq_none (by rw [List.length_range]; omega)]; rfl
theorem tb_new (w : World) : TB (w.alloc (.cells #[.string ⟨#[]⟩, .int .i64 0] 68)) w.heap.size [] 0 := heap_alloc_new _ _
set_option maxHeartbeats 4000000 in
set_option maxRecDepth 1000000 in
theorem opened_stay (s : ByteArray) (hs : s.size ≤ 8000000000000) (letter : UInt8) (g : FuncId) (lb : Array Value) (w : World) (t : List UInt8) (e0 ee : Int) (ht : takeS s = (⟨t.toArray⟩, e0))
  (hcase : (e0 ≠ 0 ∧ ee = e0) ∨ (e0 = 0 ∧ ee = 3 ∧ (t = [] ∨ ∃ c r, t = c :: r ∧ c ≠ letter))) :
  Calls Try.prog 40 #[.string s, .int .u8 letter.toNat, .func (.func g) #[] lb] w fun x w' => x = .returned (.int .i64 ee) ∧ Below w.heap.size w w' := by
 have HS := Lib.hid (fun V => U.seal_Take.calls s ⟨t.toArray⟩ e0 V (by rw [seal_Take_eq s (by omega), ht]))
 have HT0 := Lib.hid (tb_new w)
 have HB0 := Lib.hid ((Below.refl w.heap.size w).alloc (Nat.le_refl _) (.cells #[.string ⟨#[]⟩, .int .i64 0] 68))
 have HZ0 : Hid (w.heap.size < (w.alloc (.cells #[.string ⟨#[]⟩, .int .i64 0] 68)).heap.size) := Lib.hid (by rw [World.size_alloc]; omega)
 have HCS := Lib.hid hcase
 clear hcase ht
 go_enter Try.func40, Try.ntmps40
 go_wp2_with fail
 refine wp_scope_jumps 0 (fun a' w' => a'.tmps.size = 85 ∧ a'.tmps.getD 7 undef = .pointer (some ⟨w.heap.size, 0, none⟩) ∧ a'.defers = [] ∧ ∃ (st : List UInt8) (e' : Int), Hid (TB w' w.heap.size st e') ∧ Hid (e' = ee ∧ Below w.heap.size w w')) (fun _ _ => 0) rfl ?_ ?_
 ·go_wp2_with fail
  refine (HS.out _).mono ?_
  rintro x w1 ⟨rfl, hb⟩
  have HT1 := Lib.hid (HT0.out.below hb)
  have HB1 := Lib.hid (HB0.out.trans (hb.mono (by have := HZ0.out; omega)))
  have c0 := HT1.out.c0; have c1 := HT1.out.c1; have f0 := HT1.out.f 0; have f1 := HT1.out.f 1
  have HT2 := Lib.hid (HT1.out.put (s' := t) (e' := e0))
  have HB2 := Lib.hid (bset (j := 1) (u := .int .i64 e0) (Nat.le_refl _) (bset (j := 0) (u := .string ⟨t.toArray⟩) (Nat.le_refl _) HB1.out))
  clear hb
  rcases HCS.out with ⟨he, hee⟩ | ⟨he, hee, hc⟩
  ·have heb : (e0 != 0) = true := by simpa using he
   have HEE := Lib.hid hee
   clear he hee HCS
   go_wp2_with fail
   go_step3
   exact ⟨rfl, rfl, rfl, rfl, _, _, HT2, Lib.hid ⟨HEE.out.symm, HB2.out⟩⟩
  ·obtain rfl := he
   have HEE := Lib.hid hee
   rcases hc with rfl | ⟨c, r, rfl, hc⟩
   ·have hT0 : ((⟨#[]⟩ : ByteArray).toList == []) = true := by decide +kernel
    have HT3 := Lib.hid (HT2.out.pute (e' := 3))
    have HB3 := Lib.hid (bset (j := 1) (u := .int .i64 3) (Nat.le_refl _) HB2.out)
    clear hee HCS
    go_wp2_with fail
    go_step3
    exact ⟨rfl, rfl, rfl, rfl, _, _, HT3, Lib.hid ⟨HEE.out.symm, HB3.out⟩⟩
   ·have HT3 := Lib.hid (HT2.out.pute (e' := 3))
    have HB3 := Lib.hid (bset (j := 1) (u := .int .i64 3) (Nat.le_refl _) HB2.out)
    have hix := fun W => idx0 ⟨(c :: r).toArray⟩ c r rfl W
    have hne : ¬ ((⟨(c :: r).toArray⟩ : ByteArray).toList = []) := by rw [tl]; exact List.cons_ne_nil _ _
    have hnb : ((⟨(c :: r).toArray⟩ : ByteArray).toList == []) = false := by rw [tl]; rfl
    have hcl : ((c.toNat : Int) != (letter.toNat : Int)) = true := by
     simp only [bne_iff_ne, ne_eq]; intro h; exact hc (UInt8.toNat_inj.1 (by omega))
    clear hee HCS
    go_wp2_with fail
    go_step3
    exact ⟨rfl, rfl, rfl, rfl, _, _, HT3, Lib.hid ⟨HEE.out.symm, HB3.out⟩⟩
 ·rintro ⟨⟨l⟩, d⟩ W ⟨h1, h2, h3, st, e', HT, HE⟩
  have c0 := HT.out.c0; have c1 := HT.out.c1
  obtain ⟨u, hl, hu⟩ := frame85 l (by simpa using h1)
  have h7 : u 7 = .pointer (some ⟨w.heap.size, 0, none⟩) := by rw [hu]; simpa using h2
  obtain rfl : d = [] := h3
  clear h1 h2 hu
  subst hl
  go_wp2_with fail
  simp only [Exit.jump]
  go_ret
  rw [HE.out.1]
  exact ⟨rfl, HE.out.2⟩
theorem sl1 (c : UInt8) (r : List UInt8) (W : World) : (Instr.slice 9 (.string ⟨(c :: r).toArray⟩) (some (.int .i64 1)) none none).run Try.prog W = .ok (.string ⟨r.toArray⟩) W := by
 rw [run_slice_string_l W 9 _ Try.underlying9 .i64 1 (by decide) (by rw [mk_size, List.length_cons]; omega)]
 congr 2
 apply inj
 rw [ext_, List.take_of_length_le (by rw [mk_size]; exact Nat.le_refl _)]; rfl
set_option maxHeartbeats 4000000 in
set_option maxRecDepth 1000000 in
theorem opened_parts (s : ByteArray) (hs : s.size ≤ 8000000000000) (letter : UInt8) (g : FuncId) (lb : Array Value) (k : Nat) (w : World) (r : List UInt8) (ht : takeS s = (⟨(letter :: r).toArray⟩, 0)) (F : List UInt8 × Int) (Q : Nat → World → Prop)
  (eg : ∀ args W, (callFunc g args).run Try.prog W = .ok (.enter g args) W)
  (HP : ∀ V b, Below w.heap.size w V → w.heap.size ≤ b → TB V b r 0 → Calls Try.prog g (#[.pointer (some ⟨b, 0, none⟩)] ++ lb) V fun x V' => x = .returned (.tuple #[]) ∧ TB V' b F.1 F.2 ∧ Q b V' ∧ G2 b k V V')
  (hQ : ∀ b V j u, Q b V → Q b (V.setCell ⟨b, j, none⟩ u)) :
  Calls Try.prog 40 #[.string s, .int .u8 letter.toNat, .func (.func g) #[] lb] w fun x w' => x = .returned (.int .i64 (if F.2 = 0 then (if F.1 = [] then 0 else 3) else F.2)) ∧ Q w.heap.size w' ∧ w.grownBy w' (some k) := by
 have HS := Lib.hid (fun V => U.seal_Take.calls s ⟨(letter :: r).toArray⟩ 0 V (by rw [seal_Take_eq s (by omega), ht]))
 have HT0 := Lib.hid (tb_new w)
 have HB0 := Lib.hid ((Below.refl w.heap.size w).alloc (Nat.le_refl _) (.cells #[.string ⟨#[]⟩, .int .i64 0] 68))
 have HZ0 : Hid (w.heap.size < (w.alloc (.cells #[.string ⟨#[]⟩, .int .i64 0] 68)).heap.size) := Lib.hid (by rw [World.size_alloc]; omega)
 have HPP := Lib.hid HP; have HQ := Lib.hid hQ
 clear HP hQ ht
 go_enter Try.func40, Try.ntmps40
 go_wp2_with fail
 refine wp_scope_jumps 0 (fun _ _ => False) (fun _ _ => 0) rfl ?_ (fun _ _ h => h.elim)
 go_wp2_with fail
 refine (HS.out _).mono ?_
 rintro x w1 ⟨rfl, hb⟩
 have HT1 := Lib.hid (HT0.out.below hb)
 have HB1 := Lib.hid (HB0.out.trans (hb.mono (by have := HZ0.out; omega)))
 have c0 := HT1.out.c0; have c1 := HT1.out.c1; have f0 := HT1.out.f 0; have f1 := HT1.out.f 1
 have HT3 := Lib.hid (TB.put0 (s' := r) (HT1.out.put (s' := letter :: r) (e' := 0)))
 have HB3 := Lib.hid (bset (j := 0) (u := .string ⟨r.toArray⟩) (Nat.le_refl _) (bset (j := 1) (u := .int .i64 0) (Nat.le_refl _) (bset (j := 0) (u := .string ⟨(letter :: r).toArray⟩) (Nat.le_refl _) HB1.out)))
 have HC := Lib.hid (HPP.out _ w.heap.size HB3.out (Nat.le_refl _) HT3.out)
 have hix := fun W => idx0 ⟨(letter :: r).toArray⟩ letter r rfl W
 have hsl := fun W => sl1 letter r W
 have hne : ¬ ((⟨(letter :: r).toArray⟩ : ByteArray).toList = []) := by rw [tl]; exact List.cons_ne_nil _ _
 have hnb : ((⟨(letter :: r).toArray⟩ : ByteArray).toList == []) = false := by rw [tl]; rfl
 have hcl : ((letter.toNat : Int) != (letter.toNat : Int)) = false := by simp
 clear hb
 go_wp2_with fail
 refine HC.out.mono ?_
 rintro x w4 ⟨rfl, ht4, hq4, hg4⟩
 obtain ⟨rest, e⟩ := F
 dsimp only at ht4 ⊢
 have HT4 := Lib.hid ht4; have HQ4 := Lib.hid hq4; have HG4 := Lib.hid (hg4.grown HB3.out (Nat.le_refl _))
 have HQ5 := Lib.hid (HQ.out _ _ 1 (.int .i64 3) hq4)
 have HG5 := Lib.hid (gn (k := w.heap.size) (j := 1) (u := .int .i64 3) (Nat.le_refl _) HG4.out)
 have c0 := HT4.out.c0; have c1 := HT4.out.c1; have f0 := HT4.out.f 0; have f1 := HT4.out.f 1
 clear ht4 hq4 hg4 hix hsl hne hnb hcl
 by_cases he : e = 0
 ·subst he
  by_cases hr : rest = []
  ·subst hr
   have hxx : ((⟨([] : List UInt8).toArray⟩ : ByteArray).toList != []) = false := by rw [tl]; rfl
   go_wp2_with fail
   go_step3
   go_wp2_with fail
   simp only [Exit.jump]
   go_ret
   exact ⟨rfl, HQ4.out, HG4.out⟩
  ·have hxx : ((⟨rest.toArray⟩ : ByteArray).toList != []) = true := by rw [tl]; simpa using hr
   have hx2 : ¬ ((⟨rest.toArray⟩ : ByteArray).toList = []) := by rw [tl]; exact hr
   have hx3 : rest.isEmpty = false := by simpa using hr
   have HRR := Lib.hid hr
   go_wp2_with fail
   go_step3
   go_wp2_with fail
   simp only [Exit.jump]
   go_ret
   rw [if_pos rfl, if_neg HRR.out]
   exact ⟨rfl, HQ5.out, HG5.out⟩
 ·have heb : (e == 0) = false := by simpa using he
  have HEE := Lib.hid he
  clear he
  go_wp2_with fail
  go_step3
  go_wp2_with fail
  simp only [Exit.jump]
  go_ret
  rw [if_neg HEE.out]
  exact ⟨rfl, HQ4.out, HG4.out⟩
end Go.Proofs.Ytgnmhbkialgeaaa
end

section
namespace Go.Proofs.Ytgnmhbkialgeaaa
open Go.RowKit Go.Shelf Go.Proofs.YtgnmhbkialgeaaaW.PrintWords Go.Proofs.YtgnmhbkialgeaaaW.PrintLast Go.Proofs.YtgnmhbkialgeaaaW.PrintMore Math
def tmE (s : ByteArray) : Int := openE 109 (fun r => (msgR r 0).2) s
def tmP (s : ByteArray) : List Int × List Int × List UInt8 × List UInt8 × List UInt8 := if tmE s = 0 then (msgR (takeS s).1.data.toList.tail 0).1 else ([], [], [], [], [])
theorem takeS_size (s : ByteArray) : (takeS s).1.size ≤ s.size := by
  unfold takeS
  split
  · exact Nat.zero_le _
  · split
    · exact ext0_le _ _
    · exact Nat.zero_le _
theorem openE_stay {letter : UInt8} {F : List UInt8 → List UInt8 × Int} {s : ByteArray} {t : List UInt8} {e0 : Int} (ht : takeS s = (⟨t.toArray⟩, e0)) (h : e0 ≠ 0 ∨ (e0 = 0 ∧ (t = [] ∨ ∃ c r, t = c :: r ∧ c ≠ letter))) :
    openE letter F s ≠ 0 ∧ ((e0 ≠ 0 ∧ openE letter F s = e0) ∨ (e0 = 0 ∧ openE letter F s = 3 ∧ (t = [] ∨ ∃ c r, t = c :: r ∧ c ≠ letter))) := by
  unfold openE
  rw [ht]
  dsimp only
  rcases h with h | ⟨h, hc⟩
  · rw [if_neg h]; exact ⟨h, .inl ⟨h, rfl⟩⟩
  · rw [if_pos h]
    rcases hc with rfl | ⟨c, r, rfl, hc⟩
    · exact ⟨(by decide : (3 : Int) ≠ 0), .inr ⟨h, rfl, .inl rfl⟩⟩
    · dsimp only
      rw [if_neg hc]
      exact ⟨by decide, .inr ⟨h, rfl, .inr ⟨c, r, rfl, hc⟩⟩⟩
theorem openE_parts {letter : UInt8} {F : List UInt8 → List UInt8 × Int} {s : ByteArray} {r : List UInt8} (ht : takeS s = (⟨(letter :: r).toArray⟩, 0)) :
    openE letter F s = if (F r).2 = 0 then (if (F r).1 = [] then 0 else 3) else (F r).2 := by
  unfold openE
  rw [ht, if_pos rfl]
  dsimp only
  rw [if_pos rfl]
theorem takeS_cases (s : ByteArray) (letter : UInt8) : (∃ t e0, takeS s = (⟨t.toArray⟩, e0) ∧ (e0 ≠ 0 ∨ (e0 = 0 ∧ (t = [] ∨ ∃ c r, t = c :: r ∧ c ≠ letter)))) ∨ ∃ r, takeS s = (⟨(letter :: r).toArray⟩, 0) := by
  obtain ⟨p, e0, h⟩ : ∃ p e0, takeS s = (p, e0) := ⟨_, _, rfl⟩
  rw [h]
  by_cases he : e0 = 0
  · subst he
    cases ht : p.data.toList with
    | nil => exact .inl ⟨[], 0, by rw [← arr_eq p [] ht], .inr ⟨rfl, .inl rfl⟩⟩
    | cons c r =>
      by_cases hc : c = letter
      · subst hc; exact .inr ⟨r, by rw [← arr_eq p _ ht]⟩
      · exact .inl ⟨c :: r, 0, by rw [← arr_eq p _ ht], .inr ⟨rfl, .inr ⟨c, r, rfl, hc⟩⟩⟩
  · exact .inl ⟨p.data.toList, e0, by rw [← arr_eq p _ rfl], .inl he⟩
theorem opened_msg (s : ByteArray) (hs : s.size ≤ 8000000000000) (k : Nat) (w : World) (hm : CB w k (msgA ([], [], [], [], [])) 32) :
    Calls Try.prog 40 #[.string s, .int .u8 109, .func (.func 41) #[] #[.pointer (some ⟨k, 0, none⟩)]] w fun x w' => x = .returned (.int .i64 (tmE s)) ∧ (tmE s = 0 → CB w' k (msgA (tmP s)) 32) ∧ w.grownBy w' (some k) := by
  have hk := blk_lt hm
  rcases takeS_cases s 109 with ⟨t, e0, ht, hc⟩ | ⟨r, ht⟩
  · obtain ⟨h1, h2⟩ := openE_stay (F := fun r => (msgR r 0).2) ht hc
    refine (opened_stay s hs 109 41 #[.pointer (some ⟨k, 0, none⟩)] w t e0 _ ht h2).mono ?_
    rintro x w' ⟨rfl, hb⟩
    exact ⟨rfl, fun h => absurd h h1, grown_of_below hb _⟩
  · have hsz : r.length ≤ 8000000000000 := by
      have h1 := takeS_size s
      rw [ht] at h1
      have h2 : (⟨(109 :: r).toArray⟩ : ByteArray).size = r.length + 1 := by rw [mk_size]; rfl
      have h3 : (⟨(109 :: r).toArray⟩ : ByteArray).size ≤ s.size := h1
      omega
    have hE := openE_parts (F := fun r => (msgR r 0).2) ht
    refine (opened_parts s hs 109 41 #[.pointer (some ⟨k, 0, none⟩)] k w r ht ((msgR r 0).2) (fun b V => k ≠ b ∧ CB V k (msgA (msgR r 0).1) 32) (enters_of Try.func41 (by kernel_rfl) rfl) ?_ ?_).mono ?_
    · intro V b hB hbl hT
      refine (msg1_step b k r V hT ((hB.block k hk).trans hm) (by omega) hsz).mono ?_
      rintro x V' ⟨rfl, h1, h2, h3⟩
      exact ⟨rfl, h1, ⟨by omega, h2⟩, h3⟩
    · rintro b V j u ⟨h1, h2⟩
      exact ⟨h1, h2.far h1 _ _⟩
    · rintro x w' ⟨rfl, ⟨_, h2⟩, h3⟩
      refine ⟨?_, fun h0 => ?_, h3⟩
      · unfold tmE; rw [hE]
      · unfold tmP
        rw [if_pos h0, ht]
        exact h2
end Go.Proofs.Ytgnmhbkialgeaaa
end

section
namespace Go.Proofs.Ytgnmhbkialgeaaa
open Go.RowKit Go.Shelf Go.Proofs.YtgnmhbkialgeaaaW.PrintWords Go.Proofs.YtgnmhbkialgeaaaW.PrintLast Go.Proofs.YtgnmhbkialgeaaaW.PrintMore Math
theorem info14 : (Try.prog.info? 32).map (·.size) = some 14 := by kernel_rfl
def m14 (x1 x2 x3 x4 x5 x6 n0 n1 n2 n3 n4 : Int) (y1 y2 y3 : ByteArray) : Array Value := #[.int .i64 x1, .int .i64 x2, .int .i64 x3, .int .i64 x4, .int .i64 x5, .int .i64 x6, .int .i64 n0, .int .i64 n1, .int .i64 n2, .int .i64 n3, .int .i64 n4, .string y1, .string y2, .string y3]
theorem m14_of (p : List Int × List Int × List UInt8 × List UInt8 × List UInt8) : ∃ x1 x2 x3 x4 x5 x6 n0 n1 n2 n3 n4 y1 y2 y3, msgA p = m14 x1 x2 x3 x4 x5 x6 n0 n1 n2 n3 n4 y1 y2 y3 := ⟨_, _, _, _, _, _, _, _, _, _, _, _, _, _, rfl⟩
theorem m14_one (x1 x2 x3 x4 x5 x6 n0 n1 n2 n3 n4 : Int) (y1 y2 y3 : ByteArray) : (m14 x1 x2 x3 x4 x5 x6 n0 n1 n2 n3 n4 y1 y2 y3).all (·.oneCell') = true := by simp [m14, Value.oneCell']
theorem below_row {B g : Nat} {w W : World} {cs : Array Value} (hg : B ≤ g) (h : Below B w W) : Below B w (W.setRow g cs) := below_setRow h hg cs
set_option maxHeartbeats 4000000 in
set_option maxRecDepth 1000000 in
theorem takeMsg_step (s : ByteArray) (hs : s.size ≤ 8000000000000) (w : World) :
    Calls Try.prog 23 #[.string s] w fun x w' => x = .returned (.tuple #[.agg (msgA (tmP s)), .int .i64 (tmE s)]) ∧ Below w.heap.size w w' := by
  obtain ⟨W2, hW2⟩ : ∃ W2, W2 = (w.alloc (.cells (msgA ([], [], [], [], [])) 32)).alloc (.cells (msgA ([], [], [], [], [])) 32) := ⟨_, rfl⟩
  have z2 : W2.heap.size = w.heap.size + 2 := by rw [hW2, World.size_alloc, World.size_alloc]
  have r2 : CB W2 w.heap.size (msgA ([], [], [], [], [])) 32 := by rw [hW2]; exact (heap_alloc_old _ _ (by rw [World.size_alloc]; omega)).trans (heap_alloc_new _ _)
  have k2 : CB W2 (w.heap.size + 1) (msgA ([], [], [], [], [])) 32 := by
    have h := heap_alloc_new (w.alloc (.cells (msgA ([], [], [], [], [])) 32)) (.cells (msgA ([], [], [], [], [])) 32)
    rw [World.size_alloc] at h
    rw [hW2]; exact h
  have b2 : Below w.heap.size w W2 := by rw [hW2]; exact ((Below.refl _ w).alloc (Nat.le_refl _) _).alloc (by rw [World.size_alloc]; omega) _
  have HO := Lib.hid (opened_msg s hs (w.heap.size + 1) W2 k2)
  have R2 := Lib.hid r2; have B2 := Lib.hid b2; have Z2 := Lib.hid z2
  clear r2 k2 z2 b2
  subst hW2
  have HZP : Hid (tmE s ≠ 0 → tmP s = ([], [], [], [], [])) := Lib.hid (fun h => if_neg h)
  generalize tmE s = e at *
  generalize tmP s = p at *
  obtain ⟨x1, x2, x3, x4, x5, x6, n0, n1, n2, n3, n4, y1, y2, y3, hp⟩ := m14_of p
  rw [hp] at HO
  have HP := Lib.hid hp
  have HI := Lib.hid info14
  have HO1 := Lib.hid (m14_one x1 x2 x3 x4 x5 x6 n0 n1 n2 n3 n4 y1 y2 y3)
  have HO0 := Lib.hid (m14_one 0 0 0 0 0 0 0 0 0 0 0 ⟨#[]⟩ ⟨#[]⟩ ⟨#[]⟩)
  clear hp
  go_enter Try.func23, Try.ntmps23
  go_wp2_with fail
  refine HO.out.mono ?_
  rintro q w3 ⟨rfl, hm, hg⟩
  have hz := Z2.out
  have HR3 := Lib.hid (R2.out.grown hg (by omega))
  have HB3 := Lib.hid (B2.out.grown hg (by omega) (fun k hk => by have := Option.some.inj hk; omega))
  clear hg hz
  by_cases he : e = 0
  · have HM3 := Lib.hid (hm he)
    have HE := Lib.hid he
    subst he
    have HR4 : Hid (CB (w3.setRow w.heap.size (m14 x1 x2 x3 x4 x5 x6 n0 n1 n2 n3 n4 y1 y2 y3)) w.heap.size (m14 x1 x2 x3 x4 x5 x6 n0 n1 n2 n3 n4 y1 y2 y3) 32) := Lib.hid (setRow_heap _ _ _ _ _ _ HR3.out)
    have HB4 := Lib.hid (below_row (cs := m14 x1 x2 x3 x4 x5 x6 n0 n1 n2 n3 n4 y1 y2 y3) (Nat.le_refl _) HB3.out)
    clear hm
    go_wp2_with (first
      | (refine wpList_load_row rfl 32 (.tmp 4) rfl (w.heap.size + 1) rfl 32 (m14 x1 x2 x3 x4 x5 x6 n0 n1 n2 n3 n4 y1 y2 y3) (0, 0) _ HM3.out Try.underlying32 rfl HI.out ?_)
      | (refine wpList_store_row rfl 32 (.tmp 2) (.tmp 13) rfl w.heap.size (m14 x1 x2 x3 x4 x5 x6 n0 n1 n2 n3 n4 y1 y2 y3) rfl rfl 32 _ HR3.out HI.out rfl HO1.out ?_))
    generalize w3.setRow w.heap.size (m14 x1 x2 x3 x4 x5 x6 n0 n1 n2 n3 n4 y1 y2 y3) = w9 at *
    have q0 := blk_cell HR4.out 0; have q1 := blk_cell HR4.out 1; have q2 := blk_cell HR4.out 2; have q3 := blk_cell HR4.out 3; have q4 := blk_cell HR4.out 4; have q5 := blk_cell HR4.out 5; have q6 := blk_cell HR4.out 6; have q7 := blk_cell HR4.out 7; have q8 := blk_cell HR4.out 8; have q9 := blk_cell HR4.out 9; have q10 := blk_cell HR4.out 10; have q11 := blk_cell HR4.out 11; have q12 := blk_cell HR4.out 12; have q13 := blk_cell HR4.out 13
    simp only [m14, List.getElem?_toArray, List.getElem?_cons_zero, List.getElem?_cons_succ] at q0 q1 q2 q3 q4 q5 q6 q7 q8 q9 q10 q11 q12 q13
    refine bodyPost_ret (v := .tuple #[.agg #[.int .i64 x1, .int .i64 x2, .int .i64 x3, .int .i64 x4, .int .i64 x5, .int .i64 x6, .int .i64 n0, .int .i64 n1, .int .i64 n2, .int .i64 n3, .int .i64 n4, .string y1, .string y2, .string y3], .int .i64 0]) (by simp [results, Try.results23, go_sem, q0, q1, q2, q3, q4, q5, q6, q7, q8, q9, q10, q11, q12, q13]) rfl ⟨?_, HB4.out⟩
    rw [HP.out]; rfl
  · have heb : (e != 0) = true := by simpa using he
    have HPZ := Lib.hid (HZP.out he)
    have HR4 : Hid (CB (w3.setRow w.heap.size (m14 0 0 0 0 0 0 0 0 0 0 0 ⟨#[]⟩ ⟨#[]⟩ ⟨#[]⟩)) w.heap.size (m14 0 0 0 0 0 0 0 0 0 0 0 ⟨#[]⟩ ⟨#[]⟩ ⟨#[]⟩) 32) := Lib.hid (setRow_heap _ _ _ _ _ _ HR3.out)
    have HB4 := Lib.hid (below_row (cs := m14 0 0 0 0 0 0 0 0 0 0 0 ⟨#[]⟩ ⟨#[]⟩ ⟨#[]⟩) (Nat.le_refl _) HB3.out)
    clear hm he
    go_wp2_with (refine wpList_store_row rfl 32 (.tmp 2) (.tmp 11) rfl w.heap.size (m14 0 0 0 0 0 0 0 0 0 0 0 ⟨#[]⟩ ⟨#[]⟩ ⟨#[]⟩) rfl rfl 32 _ HR3.out HI.out rfl HO0.out ?_)
    generalize w3.setRow w.heap.size (m14 0 0 0 0 0 0 0 0 0 0 0 ⟨#[]⟩ ⟨#[]⟩ ⟨#[]⟩) = w9 at *
    have q0 := blk_cell HR4.out 0; have q1 := blk_cell HR4.out 1; have q2 := blk_cell HR4.out 2; have q3 := blk_cell HR4.out 3; have q4 := blk_cell HR4.out 4; have q5 := blk_cell HR4.out 5; have q6 := blk_cell HR4.out 6; have q7 := blk_cell HR4.out 7; have q8 := blk_cell HR4.out 8; have q9 := blk_cell HR4.out 9; have q10 := blk_cell HR4.out 10; have q11 := blk_cell HR4.out 11; have q12 := blk_cell HR4.out 12; have q13 := blk_cell HR4.out 13
    simp only [m14, List.getElem?_toArray, List.getElem?_cons_zero, List.getElem?_cons_succ] at q0 q1 q2 q3 q4 q5 q6 q7 q8 q9 q10 q11 q12 q13
    refine bodyPost_ret (v := .tuple #[.agg #[.int .i64 0, .int .i64 0, .int .i64 0, .int .i64 0, .int .i64 0, .int .i64 0, .int .i64 0, .int .i64 0, .int .i64 0, .int .i64 0, .int .i64 0, .string ⟨#[]⟩, .string ⟨#[]⟩, .string ⟨#[]⟩], .int .i64 e]) (by simp [results, Try.results23, go_sem, q0, q1, q2, q3, q4, q5, q6, q7, q8, q9, q10, q11, q12, q13]) rfl ⟨?_, HB4.out⟩
    rw [HPZ.out]; rfl
end Go.Proofs.Ytgnmhbkialgeaaa
end

section
namespace Go.Proofs.Ytgnmhbkialgeaaa
open Go.RowKit Go.Shelf Go.Proofs.YtgnmhbkialgeaaaW.PrintWords Go.Proofs.YtgnmhbkialgeaaaW.PrintLast Go.Proofs.YtgnmhbkialgeaaaW.PrintMore Math
def trE (s : ByteArray) : Int := openE 114 (fun r => (rspR r 0).2) s
def trP (s : ByteArray) : List Int × List UInt8 × List (List UInt8) := if trE s = 0 then (rspR (takeS s).1.data.toList.tail 0).1 else ([], [], [])
theorem opened_rsp (s : ByteArray) (hs : s.size ≤ 8000000000000) (k : Nat) (w : World) (hm : CB w k (rspA ([], [], []) (.slice none 0 0)) 37) :
  Calls Try.prog 40 #[.string s, .int .u8 114, .func (.func 44) #[] #[.pointer (some ⟨k, 0, none⟩)]] w fun x w' => x = .returned (.int .i64 (trE s)) ∧ (trE s = 0 → ∃ v, CB w' k (rspA (trP s) v) 37 ∧ ∃ B, k < B ∧ Kd.R Kd.string 9 w' B (fun _ => True) v (mks (trP s).2.2)) ∧ w.grownBy w' (some k) := by
 have hk := blk_lt hm
 rcases takeS_cases s 114 with ⟨t, e0, ht, hc⟩ | ⟨r, ht⟩
 ·obtain ⟨h1, h2⟩ := openE_stay (F := fun r => (rspR r 0).2) ht hc
  refine (opened_stay s hs 114 44 #[.pointer (some ⟨k, 0, none⟩)] w t e0 _ ht h2).mono ?_
  rintro x w' ⟨rfl, hb⟩
  exact ⟨rfl, fun h => absurd h h1, grown_of_below hb _⟩
 ·have hsz : r.length ≤ 8000000000000 := by
   have h1 := takeS_size s
   rw [ht] at h1
   have h2 : (⟨(114 :: r).toArray⟩ : ByteArray).size = r.length + 1 := by rw [mk_size]; rfl
   have h3 : (⟨(114 :: r).toArray⟩ : ByteArray).size ≤ s.size := h1
   omega
  have hE := openE_parts (F := fun r => (rspR r 0).2) ht
  refine (opened_parts s hs 114 44 #[.pointer (some ⟨k, 0, none⟩)] k w r ht ((rspR r 0).2) (fun b V => k ≠ b ∧ ∃ v, CB V k (rspA (rspR r 0).1 v) 37 ∧ Names V b k v (mks (rspR r 0).1.2.2)) (enters_of Try.func44 (by kernel_rfl) rfl) ?_ ?_).mono ?_
  ·intro V b hB hbl hT
   refine (rsp1_step b k r V hT ((hB.block k hk).trans hm) (by omega) hsz).mono ?_
   rintro x V' ⟨rfl, h1, h2, h3⟩
   exact ⟨rfl, h1, ⟨by omega, h2⟩, h3⟩
  ·rintro b V j u ⟨h1, v, h2, h3⟩
   exact ⟨h1, v, h2.far h1 _ _, h3.set b j (.inl rfl) u⟩
  ·rintro x w' ⟨rfl, ⟨_, v, h2, B, _, h4, h5⟩, h3⟩
   refine ⟨?_, fun h0 => ?_, h3⟩
   ·unfold trE; rw [hE]
   ·unfold trP
    rw [if_pos h0, ht]
    exact ⟨v, h2, B, h4, h5⟩
theorem info11 : (Try.prog.info? 37).map (·.size) = some 11 := by kernel_rfl
def r11 (x1 x2 x3 x4 x5 x6 x7 x8 x9 : Int) (y : ByteArray) (A : Option Addr) (n c : Nat) : Array Value := #[.int .i64 x1, .int .i64 x2, .int .i64 x3, .int .i64 x4, .int .i64 x5, .int .i64 x6, .int .i64 x7, .int .i64 x8, .int .i64 x9, .string y, .slice A n c]
theorem r11_of (p : List Int × List UInt8 × List (List UInt8)) : ∃ x1 x2 x3 x4 x5 x6 x7 x8 x9 y, ∀ A n c, rspA p (.slice A n c) = r11 x1 x2 x3 x4 x5 x6 x7 x8 x9 y A n c := ⟨_, _, _, _, _, _, _, _, _, _, fun _ _ _ => rfl⟩
theorem r11_one (x1 x2 x3 x4 x5 x6 x7 x8 x9 : Int) (y : ByteArray) (A : Option Addr) (n c : Nat) : (r11 x1 x2 x3 x4 x5 x6 x7 x8 x9 y A n c).all (·.oneCell') = true := by simp [r11, Value.oneCell']
theorem R_row {W : World} {B g : Nat} {v : Value} {l : List ByteArray} {cs : Array Value} (h : Kd.R Kd.string 9 W B (fun _ => True) v l) (hg : g < B) : Kd.R Kd.string 9 (W.setRow g cs) B (fun _ => True) v l :=
 Kd.R_mono (Kd.R_step (Kd.R_bound h) (fun j hj _ => setRow_other W g j cs (by have := hj.2.1; omega))) (fun _ _ => trivial)
set_option maxHeartbeats 4000000 in
set_option maxRecDepth 1000000 in
theorem takeRsp_step (s : ByteArray) (hs : s.size ≤ 8000000000000) (w : World) :
  Calls Try.prog 25 #[.string s] w fun x w' => ∃ v, x = .returned (.tuple #[.agg (rspA (trP s) v), .int .i64 (trE s)]) ∧ Kd.R Kd.string 9 w' w.heap.size (fun _ => True) v (mks (trP s).2.2) ∧ Below w.heap.size w w' := by
 obtain ⟨W2, hW2⟩ : ∃ W2, W2 = (w.alloc (.cells (rspA ([], [], []) (.slice none 0 0)) 37)).alloc (.cells (rspA ([], [], []) (.slice none 0 0)) 37) := ⟨_, rfl⟩
 have z2 : W2.heap.size = w.heap.size + 2 := by rw [hW2, World.size_alloc, World.size_alloc]
 have r2 : CB W2 w.heap.size (rspA ([], [], []) (.slice none 0 0)) 37 := by rw [hW2]; exact (heap_alloc_old _ _ (by rw [World.size_alloc]; omega)).trans (heap_alloc_new _ _)
 have k2 : CB W2 (w.heap.size + 1) (rspA ([], [], []) (.slice none 0 0)) 37 := by
  have h := heap_alloc_new (w.alloc (.cells (rspA ([], [], []) (.slice none 0 0)) 37)) (.cells (rspA ([], [], []) (.slice none 0 0)) 37)
  rw [World.size_alloc] at h
  rw [hW2]; exact h
 have b2 : Below w.heap.size w W2 := by rw [hW2]; exact ((Below.refl _ w).alloc (Nat.le_refl _) _).alloc (by rw [World.size_alloc]; omega) _
 have HO := Lib.hid (opened_rsp s hs (w.heap.size + 1) W2 k2)
 have R2 := Lib.hid r2; have B2 := Lib.hid b2; have Z2 := Lib.hid z2
 clear r2 k2 z2 b2
 subst hW2
 have HZP : Hid (trE s ≠ 0 → trP s = ([], [], [])) := Lib.hid (fun h => if_neg h)
 generalize trE s = e at *
 generalize trP s = p at *
 obtain ⟨x1, x2, x3, x4, x5, x6, x7, x8, x9, y, hp⟩ := r11_of p
 have HP := Lib.hid hp
 have HI := Lib.hid info11
 have HO0 := Lib.hid (r11_one 0 0 0 0 0 0 0 0 0 ⟨#[]⟩ none 0 0)
 clear hp
 go_enter Try.func25, Try.ntmps25
 go_wp2_with fail
 refine HO.out.mono ?_
 rintro q w3 ⟨rfl, hm, hg⟩
 have hz := Z2.out
 have HR3 := Lib.hid (R2.out.grown hg (by omega))
 have HB3 := Lib.hid (B2.out.grown hg (by omega) (fun k hk => by have := Option.some.inj hk; omega))
 clear hg hz
 by_cases he : e = 0
 ·obtain ⟨v, hc, B, hB, hR⟩ := hm he
  subst he
  obtain ⟨A, c, rfl⟩ := Kd.R_slice hR
  rw [HP.out] at hc
  have HM3 := Lib.hid hc
  have HO1 := Lib.hid (r11_one x1 x2 x3 x4 x5 x6 x7 x8 x9 y A (mks p.2.2).length c)
  have HR4 : Hid (CB (w3.setRow w.heap.size (r11 x1 x2 x3 x4 x5 x6 x7 x8 x9 y A (mks p.2.2).length c)) w.heap.size (r11 x1 x2 x3 x4 x5 x6 x7 x8 x9 y A (mks p.2.2).length c) 37) := Lib.hid (setRow_heap _ _ _ _ _ _ HR3.out)
  have HB4 := Lib.hid (below_row (cs := r11 x1 x2 x3 x4 x5 x6 x7 x8 x9 y A (mks p.2.2).length c) (Nat.le_refl _) HB3.out)
  have HN4 := Lib.hid (Kd.R_lower (R_row (cs := r11 x1 x2 x3 x4 x5 x6 x7 x8 x9 y A (mks p.2.2).length c) hR (show w.heap.size < B by omega)) (show w.heap.size ≤ B by omega))
  have HLN : Hid (∀ n, rspA p (.slice A n c) = r11 x1 x2 x3 x4 x5 x6 x7 x8 x9 y A n c) := Lib.hid (fun n => HP.out A n c)
  generalize (mks p.2.2).length = ln at *
  clear hm hR hc hB
  go_wp2_with (first
   | (refine wpList_load_row rfl 37 (.tmp 4) rfl (w.heap.size + 1) rfl 37 (r11 x1 x2 x3 x4 x5 x6 x7 x8 x9 y A ln c) (0, 0) _ HM3.out Try.underlying37 rfl HI.out ?_)
   | (refine wpList_store_row rfl 37 (.tmp 2) (.tmp 13) rfl w.heap.size (r11 x1 x2 x3 x4 x5 x6 x7 x8 x9 y A ln c) rfl rfl 37 _ HR3.out HI.out rfl HO1.out ?_))
  generalize w3.setRow w.heap.size (r11 x1 x2 x3 x4 x5 x6 x7 x8 x9 y A ln c) = w9 at *
  have q0 := blk_cell HR4.out 0; have q1 := blk_cell HR4.out 1; have q2 := blk_cell HR4.out 2; have q3 := blk_cell HR4.out 3; have q4 := blk_cell HR4.out 4; have q5 := blk_cell HR4.out 5; have q6 := blk_cell HR4.out 6; have q7 := blk_cell HR4.out 7; have q8 := blk_cell HR4.out 8; have q9 := blk_cell HR4.out 9; have q10 := blk_cell HR4.out 10
  simp only [r11, List.getElem?_toArray, List.getElem?_cons_zero, List.getElem?_cons_succ] at q0 q1 q2 q3 q4 q5 q6 q7 q8 q9 q10
  refine bodyPost_ret (v := .tuple #[.agg #[.int .i64 x1, .int .i64 x2, .int .i64 x3, .int .i64 x4, .int .i64 x5, .int .i64 x6, .int .i64 x7, .int .i64 x8, .int .i64 x9, .string y, .slice A ln c], .int .i64 0]) (by simp [results, Try.results25, go_sem, q0, q1, q2, q3, q4, q5, q6, q7, q8, q9, q10]) rfl ⟨.slice A ln c, by rw [HLN.out]; rfl, HN4.out, HB4.out⟩
 ·have heb : (e != 0) = true := by simpa using he
  have HPZ := Lib.hid (HZP.out he)
  have HR4 : Hid (CB (w3.setRow w.heap.size (r11 0 0 0 0 0 0 0 0 0 ⟨#[]⟩ none 0 0)) w.heap.size (r11 0 0 0 0 0 0 0 0 0 ⟨#[]⟩ none 0 0) 37) := Lib.hid (setRow_heap _ _ _ _ _ _ HR3.out)
  have HB4 := Lib.hid (below_row (cs := r11 0 0 0 0 0 0 0 0 0 ⟨#[]⟩ none 0 0) (Nat.le_refl _) HB3.out)
  clear hm he
  go_wp2_with (refine wpList_store_row rfl 37 (.tmp 2) (.tmp 11) rfl w.heap.size (r11 0 0 0 0 0 0 0 0 0 ⟨#[]⟩ none 0 0) rfl rfl 37 _ HR3.out HI.out rfl HO0.out ?_)
  generalize w3.setRow w.heap.size (r11 0 0 0 0 0 0 0 0 0 ⟨#[]⟩ none 0 0) = w9 at *
  have q0 := blk_cell HR4.out 0; have q1 := blk_cell HR4.out 1; have q2 := blk_cell HR4.out 2; have q3 := blk_cell HR4.out 3; have q4 := blk_cell HR4.out 4; have q5 := blk_cell HR4.out 5; have q6 := blk_cell HR4.out 6; have q7 := blk_cell HR4.out 7; have q8 := blk_cell HR4.out 8; have q9 := blk_cell HR4.out 9; have q10 := blk_cell HR4.out 10
  simp only [r11, List.getElem?_toArray, List.getElem?_cons_zero, List.getElem?_cons_succ] at q0 q1 q2 q3 q4 q5 q6 q7 q8 q9 q10
  refine bodyPost_ret (v := .tuple #[.agg #[.int .i64 0, .int .i64 0, .int .i64 0, .int .i64 0, .int .i64 0, .int .i64 0, .int .i64 0, .int .i64 0, .int .i64 0, .string ⟨#[]⟩, .slice none 0 0], .int .i64 e]) (by simp [results, Try.results25, go_sem, q0, q1, q2, q3, q4, q5, q6, q7, q8, q9, q10]) rfl ⟨.slice none 0 0, by rw [HPZ.out]; rfl, by rw [HPZ.out]; exact Kd.R_nil _ _ _ _ _, HB4.out⟩
end Go.Proofs.Ytgnmhbkialgeaaa
end

section
namespace Go.Proofs.Ytgnmhbkialgeaaa
open Go.RowKit Go.Proofs.YtgnmhbkialgeaaaW.PrintWords Go.Proofs.YtgnmhbkialgeaaaW.PrintLast Go.Proofs.YtgnmhbkialgeaaaW.PrintMore Math
def inI (l : List Int) : Bool := l.all fun n => decide (-9223372036854775808 ≤ n) && decide (n ≤ 9223372036854775807)
def wire_nums.f (l0 : List Int) : Option ByteArray := if l0.length ≤ 1000000 ∧ inI l0 = true then some (numsS l0) else none
theorem wire_nums.calls (A0 : Option Addr) (c0 : Nat) (l0 : List Int) (r : ByteArray) (w : World) (hr0 : Kd.C (Kd.int .i64) w A0 l0.length l0) (hc0 : l0.length ≤ c0) (h : wire_nums.f l0 = some r) :
    Calls Try.prog 27 #[.slice A0 l0.length c0] w fun e w' => e = .returned (.string r) ∧ Below w.heap.size w w' := by
  unfold wire_nums.f at h
  split at h
  · rename_i hh
    obtain rfl := Option.some.inj h
    refine nums_calls A0 c0 l0 w hr0 hh.1 (fun n hn => ?_)
    have := List.all_eq_true.1 hh.2 n hn
    simp only [Bool.and_eq_true, decide_eq_true_eq] at this
    exact this
  · cases h
def seal_Put.f (a0 : ByteArray) : Option ByteArray := if a0.size ≤ 9223372036854775803 then some (putS a0) else none
theorem seal_Put.calls (a0 : ByteArray) (r : ByteArray) (w : World) (h : seal_Put.f a0 = some r) :
    Calls Try.prog 31 #[.string a0] w fun e w' => e = .returned (.string r) ∧ Below w.heap.size w w' := by
  unfold seal_Put.f at h
  split at h
  · rename_i hh
    obtain rfl := Option.some.inj h
    exact U.seal_Put.calls a0 _ w (seal_Put_eq a0 hh)
  · cases h
def tmT (s : ByteArray) : Int × Int × Int × Int × Int × Int × Int × Int × Int × Int × Int × ByteArray × ByteArray × ByteArray × Int :=
  let p := tmP s
  (p.1.getD 0 0, p.1.getD 1 0, p.1.getD 2 0, p.1.getD 3 0, p.1.getD 4 0, p.1.getD 5 0, p.2.1.getD 0 0, p.2.1.getD 1 0, p.2.1.getD 2 0, p.2.1.getD 3 0, p.2.1.getD 4 0, ⟨p.2.2.1.toArray⟩, ⟨p.2.2.2.1.toArray⟩, ⟨p.2.2.2.2.toArray⟩, tmE s)
def wire_TakeMsg.f (a0 : ByteArray) : Option (Int × Int × Int × Int × Int × Int × Int × Int × Int × Int × Int × ByteArray × ByteArray × ByteArray × Int) := if a0.size ≤ 8000000000000 then some (tmT a0) else none
theorem wire_TakeMsg.calls (a0 : ByteArray) (r1 r2 r3 r4 r5 r6 r7 r8 r9 r10 r11 : Int) (r12 r13 r14 : ByteArray) (r15 : Int) (w : World) (h : wire_TakeMsg.f a0 = some (r1, r2, r3, r4, r5, r6, r7, r8, r9, r10, r11, r12, r13, r14, r15)) :
    Calls Try.prog 23 #[.string a0] w fun e w' => e = .returned (.tuple #[.agg #[.int .i64 r1, .int .i64 r2, .int .i64 r3, .int .i64 r4, .int .i64 r5, .int .i64 r6, .int .i64 r7, .int .i64 r8, .int .i64 r9, .int .i64 r10, .int .i64 r11, .string r12, .string r13, .string r14], .int .i64 r15]) ∧ Below w.heap.size w w' := by
  unfold wire_TakeMsg.f at h
  split at h
  · rename_i hh
    have h2 := Option.some.inj h
    unfold tmT at h2
    simp only [Prod.mk.injEq] at h2
    obtain ⟨rfl, rfl, rfl, rfl, rfl, rfl, rfl, rfl, rfl, rfl, rfl, rfl, rfl, rfl, rfl⟩ := h2
    exact takeMsg_step a0 hh w
  · cases h
def trT (s : ByteArray) : Int × Int × Int × Int × Int × Int × Int × Int × Int × ByteArray × List ByteArray × Int :=
  let p := trP s
  (p.1.getD 0 0, p.1.getD 1 0, p.1.getD 2 0, p.1.getD 3 0, p.1.getD 4 0, p.1.getD 5 0, p.1.getD 6 0, p.1.getD 7 0, p.1.getD 8 0, ⟨p.2.1.toArray⟩, mks p.2.2, trE s)
def wire_TakeRsp.f (a0 : ByteArray) : Option (Int × Int × Int × Int × Int × Int × Int × Int × Int × ByteArray × List ByteArray × Int) := if a0.size ≤ 8000000000000 then some (trT a0) else none
theorem wire_TakeRsp.calls (a0 : ByteArray) (r1 r2 r3 r4 r5 r6 r7 r8 r9 : Int) (r10 : ByteArray) (r11 : List ByteArray) (r12 : Int) (w : World) (h : wire_TakeRsp.f a0 = some (r1, r2, r3, r4, r5, r6, r7, r8, r9, r10, r11, r12)) :
    Calls Try.prog 25 #[.string a0] w fun e w' => ∃ v10_ : Value, e = .returned (.tuple #[.agg #[.int .i64 r1, .int .i64 r2, .int .i64 r3, .int .i64 r4, .int .i64 r5, .int .i64 r6, .int .i64 r7, .int .i64 r8, .int .i64 r9, .string r10, v10_], .int .i64 r12]) ∧ Kd.R Kd.string 9 w' w.heap.size (fun _ => True) v10_ r11 ∧ Below w.heap.size w w' := by
  unfold wire_TakeRsp.f at h
  split at h
  · rename_i hh
    have h2 := Option.some.inj h
    unfold trT at h2
    simp only [Prod.mk.injEq] at h2
    obtain ⟨rfl, rfl, rfl, rfl, rfl, rfl, rfl, rfl, rfl, rfl, rfl, rfl⟩ := h2
    exact takeRsp_step a0 hh w
  · cases h
end Go.Proofs.Ytgnmhbkialgeaaa
end

section
namespace Go.Proofs.Ytgnmhbkialgeaaa
open Math
def InL (l : List Int) : Prop := ∀ n ∈ l, -9223372036854775808 ≤ n ∧ n ≤ 9223372036854775807
theorem inI_of {l : List Int} (h : InL l) : inI l = true := by
  unfold inI
  rw [List.all_eq_true]
  intro n hn
  have := h n hn
  simp [this.1, this.2]
theorem num_back {n : Int} (h : -9223372036854775808 ≤ n ∧ n ≤ 9223372036854775807) (m : List UInt8) : numR (numB (foldN n) ++ m) 0 = (n, m, 0) := by
  rw [numR, if_pos rfl, take_num0 (foldN_lt h)]
  simp only [unfold_fold]
theorem nums_back : ∀ (n : Nat) (l : List Int) (m : List UInt8), l.length = n → InL l → numsR n (numsB l ++ m) 0 = (l, m, 0)
  | 0, l, m, hl, _ => by
    obtain rfl : l = [] := List.length_eq_zero_iff.1 hl
    rfl
  | n + 1, l, m, hl, hi => by
    rcases List.eq_nil_or_concat l with rfl | ⟨l', x, rfl⟩
    · cases hl
    · have hl' : l'.length = n := by simpa using hl
      have hx := hi x (by simp)
      have ih := nums_back n l' (numB (foldN x) ++ m) hl' (fun y hy => hi y (by simp [hy]))
      rw [List.concat_eq_append, numsB_snoc, List.append_assoc, numsR, ih, num_back hx]
theorem text_back (t m : List UInt8) (h : t.length ≤ 4096) : textR (textB t ++ m) 0 = (t, m, 0) := by
  rw [textR, if_pos rfl, text_take t m 4096 (by omega) (by omega)]
def callB (l : List Int) (x y z : List UInt8) : List UInt8 := numsB l ++ (textB x ++ (textB y ++ textB z))
theorem call_back (l : List Int) (x y z m : List UInt8) (hl : l.length = 5) (hi : InL l) (hx : x.length ≤ 4096) (hy : y.length ≤ 4096) (hz : z.length ≤ 4096) :
    callR (callB l x y z ++ m) 0 = ((l, x, y, z), m, 0) := by
  unfold callR callB
  simp only [List.append_assoc, nums_back 5 l _ hl hi, text_back x _ hx, text_back y _ hy, text_back z _ hz]
def msgB (l c : List Int) (x y z : List UInt8) : List UInt8 := numsB l ++ callB c x y z
theorem msg_back (l c : List Int) (x y z m : List UInt8) (hl : l.length = 6) (hc : c.length = 5) (hi : InL l) (hj : InL c) (hx : x.length ≤ 4096) (hy : y.length ≤ 4096) (hz : z.length ≤ 4096) :
    msgR (msgB l c x y z ++ m) 0 = ((l, c, x, y, z), m, 0) := by
  unfold msgR msgB
  simp only [List.append_assoc, nums_back 6 l _ hl hi, call_back c x y z m hc hj hx hy hz]
def rspB (l : List Int) (x : List UInt8) (t : List (List UInt8)) : List UInt8 := numsB l ++ (textB x ++ listB t)
def msgS (l c : List Int) (x y z : List UInt8) : ByteArray := putS ⟨(109 :: msgB l c x y z).toArray⟩
def rspS (l : List Int) (x : List UInt8) (t : List (List UInt8)) : ByteArray := putS ⟨(114 :: rspB l x t).toArray⟩
theorem tm_back (l c : List Int) (x y z : List UInt8) (hl : l.length = 6) (hc : c.length = 5) (hi : InL l) (hj : InL c) (hx : x.length ≤ 4096) (hy : y.length ≤ 4096) (hz : z.length ≤ 4096) :
    tmE (msgS l c x y z) = 0 ∧ tmP (msgS l c x y z) = (l, c, x, y, z) := by
  have hm := msg_back l c x y z [] hl hc hi hj hx hy hz
  rw [List.append_nil] at hm
  have ht := take_put ⟨(109 :: msgB l c x y z).toArray⟩
  have h0 : tmE (msgS l c x y z) = 0 := by
    rw [tmE, msgS, openE_parts (r := msgB l c x y z) ht, hm]
    rfl
  refine ⟨h0, ?_⟩
  rw [tmP, if_pos h0, msgS, ht]
  show (msgR (msgB l c x y z) 0).1 = _
  rw [hm]
end Go.Proofs.Ytgnmhbkialgeaaa
end

section
namespace Go.Proofs.Ytgnmhbkialgeaaa.Q
open Go.RowKit Go.Proofs.YtgnmhbkialgeaaaW.PrintWords Go.Proofs.YtgnmhbkialgeaaaW.PrintLast Go.Proofs.YtgnmhbkialgeaaaW.PrintMore
attribute [local go_sem] max2_int min2_int max_two min_two max_three min_three max_four min_four   -- for this text's walks alone
attribute [local go_sem high] Go.Proofs.Ytgnmhbkialgeaaa.px_xor_u8 Go.Proofs.Ytgnmhbkialgeaaa.px_xor_u16 Go.Proofs.Ytgnmhbkialgeaaa.px_xor_u32 Go.Proofs.Ytgnmhbkialgeaaa.px_xor_u64
def errW : Option Int → Value
  | none => .nilIface
  | some c => .iface 0 (.int .i64 c)
theorem errW_none : errW none = .nilIface := rfl
theorem errW_some (c : Int) : errW (some c) = .iface 0 (.int .i64 c) := rfl
theorem info5 : (Try.prog.info? 5).map (fun i => (i.zero, i.size, i.bytes)) = some (some (.int .u8 0), 1, 1) := by kernel_rfl
theorem info9 : (Try.prog.info? 9).map (fun i => (i.zero, i.size, i.bytes)) = some (some (.string ⟨#[]⟩), 1, 16) := by kernel_rfl
end Go.Proofs.Ytgnmhbkialgeaaa.Q
end
