import Derived.Test.YtgnmhbkialgeaaaZWireLays23
import Derived.Test.YtgnmhbkialgeaaaProg
import Derived.Below
import Derived.Deep.Draws
import Derived.Deep.AppendLies
import Derived.Maps.AppendAt
import Derived.OwnWalk
import Derived.Laws.BytesArg
import Derived.Laws.MakeOwn
import Derived.Laws.OwnMore
import Derived.Deep.OwnRows
import Derived.Tactics
import Derived.Lib.ConvBytes
import Derived.Laws.Slices
import Derived.WalkKit
import Derived.KernelRfl
import Derived.RowKit3
import Derived.Deep.LoopGhost
import Derived.Deep.QuietTactic
import Derived.BigQuiet
import Derived.WideLaws
import Derived.Deep.DeepCutAuto
import Derived.Deep.CutBlock
import Derived.Deep.RegionHeld3
import Derived.Laws.Rows
import Derived.Lib.AppendStr
import Derived.ArgAppend
import Derived.Laws.IdiomCopy
import Derived.OrdersHeld
import Derived.Laws.BitsLemmas
import Derived.RowKit
import Derived.Test.YtgnmhbkialgeaaaZWireLays0
import Derived.Test.YtgnmhbkialgeaaaZWireLays1
import Derived.Test.YtgnmhbkialgeaaaZWireLays3
import Derived.Test.YtgnmhbkialgeaaaZWireLays4
import Derived.Test.YtgnmhbkialgeaaaZWireLays5
import Derived.Test.YtgnmhbkialgeaaaZWireLays6
import Derived.Test.YtgnmhbkialgeaaaZWireLays7
import Derived.Test.YtgnmhbkialgeaaaZWireLays8
import Derived.Test.YtgnmhbkialgeaaaZWireLays9
import Derived.Test.YtgnmhbkialgeaaaZWireLays10
import Derived.Test.YtgnmhbkialgeaaaZWireLays11
import Derived.Test.YtgnmhbkialgeaaaZWireLays12
import Derived.Test.YtgnmhbkialgeaaaZWireLays13
import Derived.Test.YtgnmhbkialgeaaaZWireLays14
import Derived.Test.YtgnmhbkialgeaaaZWireLays15
import Derived.Test.YtgnmhbkialgeaaaZWireLays16
import Derived.Test.YtgnmhbkialgeaaaZWireLays17
import Derived.Test.YtgnmhbkialgeaaaZWireLays18
import Derived.Test.YtgnmhbkialgeaaaZWireLays19
import Derived.Test.YtgnmhbkialgeaaaZWireLays20
import Derived.Test.YtgnmhbkialgeaaaZWireLays21
import Derived.Test.YtgnmhbkialgeaaaZWireLays22
section
/- Layer 15, walked: TakeMsg. -/
set_option linter.unusedVariables false
set_option linter.unusedSimpArgs false
namespace Go.Proofs.Ytgnmhbkialgeaaa
open Go.RowKit Go.Shelf Go.Proofs.YtgnmhbkialgeaaaW.PrintWords Go.Proofs.YtgnmhbkialgeaaaW.PrintLast Go.Proofs.YtgnmhbkialgeaaaW.PrintMore Math

/-- Why a message is not taken; and its parts. -/
def tmE (s : ByteArray) : Int := openE 109 (fun r => (msgR r 0).2) s
def tmP (s : ByteArray) : List Int × List Int × List UInt8 × List UInt8 × List UInt8 := if tmE s = 0 then (msgR (takeS s).1.data.toList.tail 0).1 else ([], [], [], [], [])
theorem takeS_size (s : ByteArray) : (takeS s).1.size ≤ s.size := by
  unfold takeS
  split
  · exact Nat.zero_le _
  · split
    · exact ext0_le _ _
    · exact Nat.zero_le _
theorem openE_stay {letter : UInt8} {F : List UInt8 → List UInt8 × Int} {s : ByteArray} {t : List UInt8} {e0 : Int} (ht : takeS s = (⟨t.toArray⟩, e0)) (h : e0 ≠ 0 ∨ (e0 = 0 ∧ (t = [] ∨ ∃ c r, t = c :: r ∧ c ≠ letter))) :
    openE letter F s ≠ 0 ∧ ((e0 ≠ 0 ∧ openE letter F s = e0) ∨ (e0 = 0 ∧ openE letter F s = 3 ∧ (t = [] ∨ ∃ c r, t = c :: r ∧ c ≠ letter))) := by
  unfold openE
  rw [ht]
  dsimp only
  rcases h with h | ⟨h, hc⟩
  · rw [if_neg h]; exact ⟨h, .inl ⟨h, rfl⟩⟩
  · rw [if_pos h]
    rcases hc with rfl | ⟨c, r, rfl, hc⟩
    · exact ⟨(by decide : (3 : Int) ≠ 0), .inr ⟨h, rfl, .inl rfl⟩⟩
    · dsimp only
      rw [if_neg hc]
      exact ⟨by decide, .inr ⟨h, rfl, .inr ⟨c, r, rfl, hc⟩⟩⟩
theorem openE_parts {letter : UInt8} {F : List UInt8 → List UInt8 × Int} {s : ByteArray} {r : List UInt8} (ht : takeS s = (⟨(letter :: r).toArray⟩, 0)) :
    openE letter F s = if (F r).2 = 0 then (if (F r).1 = [] then 0 else 3) else (F r).2 := by
  unfold openE
  rw [ht, if_pos rfl]
  dsimp only
  rw [if_pos rfl]
theorem takeS_cases (s : ByteArray) (letter : UInt8) : (∃ t e0, takeS s = (⟨t.toArray⟩, e0) ∧ (e0 ≠ 0 ∨ (e0 = 0 ∧ (t = [] ∨ ∃ c r, t = c :: r ∧ c ≠ letter)))) ∨ ∃ r, takeS s = (⟨(letter :: r).toArray⟩, 0) := by
  obtain ⟨p, e0, h⟩ : ∃ p e0, takeS s = (p, e0) := ⟨_, _, rfl⟩
  rw [h]
  by_cases he : e0 = 0
  · subst he
    cases ht : p.data.toList with
    | nil => exact .inl ⟨[], 0, by rw [← arr_eq p [] ht], .inr ⟨rfl, .inl rfl⟩⟩
    | cons c r =>
      by_cases hc : c = letter
      · subst hc; exact .inr ⟨r, by rw [← arr_eq p _ ht]⟩
      · exact .inl ⟨c :: r, 0, by rw [← arr_eq p _ ht], .inr ⟨rfl, .inr ⟨c, r, rfl, hc⟩⟩⟩
  · exact .inl ⟨p.data.toList, e0, by rw [← arr_eq p _ rfl], .inl he⟩
theorem opened_msg (s : ByteArray) (hs : s.size ≤ 8000000000000) (k : Nat) (w : World) (hm : CB w k (msgA ([], [], [], [], [])) 32) :
    Calls Try.prog 40 #[.string s, .int .u8 109, .func (.func 41) #[] #[.pointer (some ⟨k, 0, none⟩)]] w fun x w' => x = .returned (.int .i64 (tmE s)) ∧ (tmE s = 0 → CB w' k (msgA (tmP s)) 32) ∧ w.grownBy w' (some k) := by
  have hk := blk_lt hm
  rcases takeS_cases s 109 with ⟨t, e0, ht, hc⟩ | ⟨r, ht⟩
  · obtain ⟨h1, h2⟩ := openE_stay (F := fun r => (msgR r 0).2) ht hc
    refine (opened_stay s hs 109 41 #[.pointer (some ⟨k, 0, none⟩)] w t e0 _ ht h2).mono ?_
    rintro x w' ⟨rfl, hb⟩
    exact ⟨rfl, fun h => absurd h h1, grown_of_below hb _⟩
  · have hsz : r.length ≤ 8000000000000 := by
      have h1 := takeS_size s
      rw [ht] at h1
      have h2 : (⟨(109 :: r).toArray⟩ : ByteArray).size = r.length + 1 := by rw [mk_size]; rfl
      have h3 : (⟨(109 :: r).toArray⟩ : ByteArray).size ≤ s.size := h1
      omega
    have hE := openE_parts (F := fun r => (msgR r 0).2) ht
    refine (opened_parts s hs 109 41 #[.pointer (some ⟨k, 0, none⟩)] k w r ht ((msgR r 0).2) (fun b V => k ≠ b ∧ CB V k (msgA (msgR r 0).1) 32) (enters_of Try.func41 (by kernel_rfl) rfl) ?_ ?_).mono ?_
    · intro V b hB hbl hT
      refine (msg1_step b k r V hT ((hB.block k hk).trans hm) (by omega) hsz).mono ?_
      rintro x V' ⟨rfl, h1, h2, h3⟩
      exact ⟨rfl, h1, ⟨by omega, h2⟩, h3⟩
    · rintro b V j u ⟨h1, h2⟩
      exact ⟨h1, h2.far h1 _ _⟩
    · rintro x w' ⟨rfl, ⟨_, h2⟩, h3⟩
      refine ⟨?_, fun h0 => ?_, h3⟩
      · unfold tmE; rw [hE]
      · unfold tmP
        rw [if_pos h0, ht]
        exact h2
end Go.Proofs.Ytgnmhbkialgeaaa
end

section
/- Layer 15, walked: TakeMsg. -/
set_option linter.unusedVariables false
set_option linter.unusedSimpArgs false
namespace Go.Proofs.Ytgnmhbkialgeaaa
open Go.RowKit Go.Shelf Go.Proofs.YtgnmhbkialgeaaaW.PrintWords Go.Proofs.YtgnmhbkialgeaaaW.PrintLast Go.Proofs.YtgnmhbkialgeaaaW.PrintMore Math

theorem info14 : (Try.prog.info? 32).map (·.size) = some 14 := by kernel_rfl
/-- Fourteen cells. -/
def m14 (x1 x2 x3 x4 x5 x6 n0 n1 n2 n3 n4 : Int) (y1 y2 y3 : ByteArray) : Array Value := #[.int .i64 x1, .int .i64 x2, .int .i64 x3, .int .i64 x4, .int .i64 x5, .int .i64 x6, .int .i64 n0, .int .i64 n1, .int .i64 n2, .int .i64 n3, .int .i64 n4, .string y1, .string y2, .string y3]
theorem m14_of (p : List Int × List Int × List UInt8 × List UInt8 × List UInt8) : ∃ x1 x2 x3 x4 x5 x6 n0 n1 n2 n3 n4 y1 y2 y3, msgA p = m14 x1 x2 x3 x4 x5 x6 n0 n1 n2 n3 n4 y1 y2 y3 := ⟨_, _, _, _, _, _, _, _, _, _, _, _, _, _, rfl⟩
theorem m14_one (x1 x2 x3 x4 x5 x6 n0 n1 n2 n3 n4 : Int) (y1 y2 y3 : ByteArray) : (m14 x1 x2 x3 x4 x5 x6 n0 n1 n2 n3 n4 y1 y2 y3).all (·.oneCell') = true := by simp [m14, Value.oneCell']
theorem below_row {B g : Nat} {w W : World} {cs : Array Value} (hg : B ≤ g) (h : Below B w W) : Below B w (W.setRow g cs) := below_setRow h hg cs
set_option maxHeartbeats 4000000 in
set_option maxRecDepth 1000000 in
theorem takeMsg_step (s : ByteArray) (hs : s.size ≤ 8000000000000) (w : World) :
    Calls Try.prog 23 #[.string s] w fun x w' => x = .returned (.tuple #[.agg (msgA (tmP s)), .int .i64 (tmE s)]) ∧ Below w.heap.size w w' := by
  obtain ⟨W2, hW2⟩ : ∃ W2, W2 = (w.alloc (.cells (msgA ([], [], [], [], [])) 32)).alloc (.cells (msgA ([], [], [], [], [])) 32) := ⟨_, rfl⟩
  have z2 : W2.heap.size = w.heap.size + 2 := by rw [hW2, World.size_alloc, World.size_alloc]
  have r2 : CB W2 w.heap.size (msgA ([], [], [], [], [])) 32 := by rw [hW2]; exact (heap_alloc_old _ _ (by rw [World.size_alloc]; omega)).trans (heap_alloc_new _ _)
  have k2 : CB W2 (w.heap.size + 1) (msgA ([], [], [], [], [])) 32 := by
    have h := heap_alloc_new (w.alloc (.cells (msgA ([], [], [], [], [])) 32)) (.cells (msgA ([], [], [], [], [])) 32)
    rw [World.size_alloc] at h
    rw [hW2]; exact h
  have b2 : Below w.heap.size w W2 := by rw [hW2]; exact ((Below.refl _ w).alloc (Nat.le_refl _) _).alloc (by rw [World.size_alloc]; omega) _
  have HO := Lib.hid (opened_msg s hs (w.heap.size + 1) W2 k2)
  have R2 := Lib.hid r2; have B2 := Lib.hid b2; have Z2 := Lib.hid z2
  clear r2 k2 z2 b2
  subst hW2
  have HZP : Hid (tmE s ≠ 0 → tmP s = ([], [], [], [], [])) := Lib.hid (fun h => if_neg h)
  generalize tmE s = e at *
  generalize tmP s = p at *
  obtain ⟨x1, x2, x3, x4, x5, x6, n0, n1, n2, n3, n4, y1, y2, y3, hp⟩ := m14_of p
  rw [hp] at HO
  have HP := Lib.hid hp
  have HI := Lib.hid info14
  have HO1 := Lib.hid (m14_one x1 x2 x3 x4 x5 x6 n0 n1 n2 n3 n4 y1 y2 y3)
  have HO0 := Lib.hid (m14_one 0 0 0 0 0 0 0 0 0 0 0 ⟨#[]⟩ ⟨#[]⟩ ⟨#[]⟩)
  clear hp
  go_enter Try.func23, Try.ntmps23
  go_wp2_with fail
  refine HO.out.mono ?_
  rintro q w3 ⟨rfl, hm, hg⟩
  have hz := Z2.out
  have HR3 := Lib.hid (R2.out.grown hg (by omega))
  have HB3 := Lib.hid (B2.out.grown hg (by omega) (fun k hk => by have := Option.some.inj hk; omega))
  clear hg hz
  by_cases he : e = 0
  · have HM3 := Lib.hid (hm he)
    have HE := Lib.hid he
    subst he
    have HR4 : Hid (CB (w3.setRow w.heap.size (m14 x1 x2 x3 x4 x5 x6 n0 n1 n2 n3 n4 y1 y2 y3)) w.heap.size (m14 x1 x2 x3 x4 x5 x6 n0 n1 n2 n3 n4 y1 y2 y3) 32) := Lib.hid (setRow_heap _ _ _ _ _ _ HR3.out)
    have HB4 := Lib.hid (below_row (cs := m14 x1 x2 x3 x4 x5 x6 n0 n1 n2 n3 n4 y1 y2 y3) (Nat.le_refl _) HB3.out)
    clear hm
    go_wp2_with (first
      | (refine wpList_load_row rfl 32 (.tmp 4) rfl (w.heap.size + 1) rfl 32 (m14 x1 x2 x3 x4 x5 x6 n0 n1 n2 n3 n4 y1 y2 y3) (0, 0) _ HM3.out Try.underlying32 rfl HI.out ?_)
      | (refine wpList_store_row rfl 32 (.tmp 2) (.tmp 13) rfl w.heap.size (m14 x1 x2 x3 x4 x5 x6 n0 n1 n2 n3 n4 y1 y2 y3) rfl rfl 32 _ HR3.out HI.out rfl HO1.out ?_))
    generalize w3.setRow w.heap.size (m14 x1 x2 x3 x4 x5 x6 n0 n1 n2 n3 n4 y1 y2 y3) = w9 at *
    have q0 := blk_cell HR4.out 0; have q1 := blk_cell HR4.out 1; have q2 := blk_cell HR4.out 2; have q3 := blk_cell HR4.out 3; have q4 := blk_cell HR4.out 4; have q5 := blk_cell HR4.out 5; have q6 := blk_cell HR4.out 6; have q7 := blk_cell HR4.out 7; have q8 := blk_cell HR4.out 8; have q9 := blk_cell HR4.out 9; have q10 := blk_cell HR4.out 10; have q11 := blk_cell HR4.out 11; have q12 := blk_cell HR4.out 12; have q13 := blk_cell HR4.out 13
    simp only [m14, List.getElem?_toArray, List.getElem?_cons_zero, List.getElem?_cons_succ] at q0 q1 q2 q3 q4 q5 q6 q7 q8 q9 q10 q11 q12 q13
    refine bodyPost_ret (v := .tuple #[.agg #[.int .i64 x1, .int .i64 x2, .int .i64 x3, .int .i64 x4, .int .i64 x5, .int .i64 x6, .int .i64 n0, .int .i64 n1, .int .i64 n2, .int .i64 n3, .int .i64 n4, .string y1, .string y2, .string y3], .int .i64 0]) (by simp [results, Try.results23, go_sem, q0, q1, q2, q3, q4, q5, q6, q7, q8, q9, q10, q11, q12, q13]) rfl ⟨?_, HB4.out⟩
    rw [HP.out]; rfl
  · have heb : (e != 0) = true := by simpa using he
    have HPZ := Lib.hid (HZP.out he)
    have HR4 : Hid (CB (w3.setRow w.heap.size (m14 0 0 0 0 0 0 0 0 0 0 0 ⟨#[]⟩ ⟨#[]⟩ ⟨#[]⟩)) w.heap.size (m14 0 0 0 0 0 0 0 0 0 0 0 ⟨#[]⟩ ⟨#[]⟩ ⟨#[]⟩) 32) := Lib.hid (setRow_heap _ _ _ _ _ _ HR3.out)
    have HB4 := Lib.hid (below_row (cs := m14 0 0 0 0 0 0 0 0 0 0 0 ⟨#[]⟩ ⟨#[]⟩ ⟨#[]⟩) (Nat.le_refl _) HB3.out)
    clear hm he
    go_wp2_with (refine wpList_store_row rfl 32 (.tmp 2) (.tmp 11) rfl w.heap.size (m14 0 0 0 0 0 0 0 0 0 0 0 ⟨#[]⟩ ⟨#[]⟩ ⟨#[]⟩) rfl rfl 32 _ HR3.out HI.out rfl HO0.out ?_)
    generalize w3.setRow w.heap.size (m14 0 0 0 0 0 0 0 0 0 0 0 ⟨#[]⟩ ⟨#[]⟩ ⟨#[]⟩) = w9 at *
    have q0 := blk_cell HR4.out 0; have q1 := blk_cell HR4.out 1; have q2 := blk_cell HR4.out 2; have q3 := blk_cell HR4.out 3; have q4 := blk_cell HR4.out 4; have q5 := blk_cell HR4.out 5; have q6 := blk_cell HR4.out 6; have q7 := blk_cell HR4.out 7; have q8 := blk_cell HR4.out 8; have q9 := blk_cell HR4.out 9; have q10 := blk_cell HR4.out 10; have q11 := blk_cell HR4.out 11; have q12 := blk_cell HR4.out 12; have q13 := blk_cell HR4.out 13
    simp only [m14, List.getElem?_toArray, List.getElem?_cons_zero, List.getElem?_cons_succ] at q0 q1 q2 q3 q4 q5 q6 q7 q8 q9 q10 q11 q12 q13
    refine bodyPost_ret (v := .tuple #[.agg #[.int .i64 0, .int .i64 0, .int .i64 0, .int .i64 0, .int .i64 0, .int .i64 0, .int .i64 0, .int .i64 0, .int .i64 0, .int .i64 0, .int .i64 0, .string ⟨#[]⟩, .string ⟨#[]⟩, .string ⟨#[]⟩], .int .i64 e]) (by simp [results, Try.results23, go_sem, q0, q1, q2, q3, q4, q5, q6, q7, q8, q9, q10, q11, q12, q13]) rfl ⟨?_, HB4.out⟩
    rw [HPZ.out]; rfl
end Go.Proofs.Ytgnmhbkialgeaaa
end

section
/- Layer 15, walked: TakeRsp. -/
set_option linter.unusedVariables false
set_option linter.unusedSimpArgs false
namespace Go.Proofs.Ytgnmhbkialgeaaa
open Go.RowKit Go.Shelf Go.Proofs.YtgnmhbkialgeaaaW.PrintWords Go.Proofs.YtgnmhbkialgeaaaW.PrintLast Go.Proofs.YtgnmhbkialgeaaaW.PrintMore Math

/-- Why an answer is not taken; and its parts. -/
def trE (s : ByteArray) : Int := openE 114 (fun r => (rspR r 0).2) s
def trP (s : ByteArray) : List Int × List UInt8 × List (List UInt8) := if trE s = 0 then (rspR (takeS s).1.data.toList.tail 0).1 else ([], [], [])
theorem opened_rsp (s : ByteArray) (hs : s.size ≤ 8000000000000) (k : Nat) (w : World) (hm : CB w k (rspA ([], [], []) (.slice none 0 0)) 37) :
    Calls Try.prog 40 #[.string s, .int .u8 114, .func (.func 44) #[] #[.pointer (some ⟨k, 0, none⟩)]] w fun x w' => x = .returned (.int .i64 (trE s)) ∧ (trE s = 0 → ∃ v, CB w' k (rspA (trP s) v) 37 ∧ ∃ B, k < B ∧ Kd.R Kd.string 9 w' B (fun _ => True) v (mks (trP s).2.2)) ∧ w.grownBy w' (some k) := by
  have hk := blk_lt hm
  rcases takeS_cases s 114 with ⟨t, e0, ht, hc⟩ | ⟨r, ht⟩
  · obtain ⟨h1, h2⟩ := openE_stay (F := fun r => (rspR r 0).2) ht hc
    refine (opened_stay s hs 114 44 #[.pointer (some ⟨k, 0, none⟩)] w t e0 _ ht h2).mono ?_
    rintro x w' ⟨rfl, hb⟩
    exact ⟨rfl, fun h => absurd h h1, grown_of_below hb _⟩
  · have hsz : r.length ≤ 8000000000000 := by
      have h1 := takeS_size s
      rw [ht] at h1
      have h2 : (⟨(114 :: r).toArray⟩ : ByteArray).size = r.length + 1 := by rw [mk_size]; rfl
      have h3 : (⟨(114 :: r).toArray⟩ : ByteArray).size ≤ s.size := h1
      omega
    have hE := openE_parts (F := fun r => (rspR r 0).2) ht
    refine (opened_parts s hs 114 44 #[.pointer (some ⟨k, 0, none⟩)] k w r ht ((rspR r 0).2) (fun b V => k ≠ b ∧ ∃ v, CB V k (rspA (rspR r 0).1 v) 37 ∧ Names V b k v (mks (rspR r 0).1.2.2)) (enters_of Try.func44 (by kernel_rfl) rfl) ?_ ?_).mono ?_
    · intro V b hB hbl hT
      refine (rsp1_step b k r V hT ((hB.block k hk).trans hm) (by omega) hsz).mono ?_
      rintro x V' ⟨rfl, h1, h2, h3⟩
      exact ⟨rfl, h1, ⟨by omega, h2⟩, h3⟩
    · rintro b V j u ⟨h1, v, h2, h3⟩
      exact ⟨h1, v, h2.far h1 _ _, h3.set b j (.inl rfl) u⟩
    · rintro x w' ⟨rfl, ⟨_, v, h2, B, _, h4, h5⟩, h3⟩
      refine ⟨?_, fun h0 => ?_, h3⟩
      · unfold trE; rw [hE]
      · unfold trP
        rw [if_pos h0, ht]
        exact ⟨v, h2, B, h4, h5⟩
theorem info11 : (Try.prog.info? 37).map (·.size) = some 11 := by kernel_rfl
/-- Eleven cells. -/
def r11 (x1 x2 x3 x4 x5 x6 x7 x8 x9 : Int) (y : ByteArray) (A : Option Addr) (n c : Nat) : Array Value := #[.int .i64 x1, .int .i64 x2, .int .i64 x3, .int .i64 x4, .int .i64 x5, .int .i64 x6, .int .i64 x7, .int .i64 x8, .int .i64 x9, .string y, .slice A n c]
theorem r11_of (p : List Int × List UInt8 × List (List UInt8)) : ∃ x1 x2 x3 x4 x5 x6 x7 x8 x9 y, ∀ A n c, rspA p (.slice A n c) = r11 x1 x2 x3 x4 x5 x6 x7 x8 x9 y A n c := ⟨_, _, _, _, _, _, _, _, _, _, fun _ _ _ => rfl⟩
theorem r11_one (x1 x2 x3 x4 x5 x6 x7 x8 x9 : Int) (y : ByteArray) (A : Option Addr) (n c : Nat) : (r11 x1 x2 x3 x4 x5 x6 x7 x8 x9 y A n c).all (·.oneCell') = true := by simp [r11, Value.oneCell']
theorem R_row {W : World} {B g : Nat} {v : Value} {l : List ByteArray} {cs : Array Value} (h : Kd.R Kd.string 9 W B (fun _ => True) v l) (hg : g < B) : Kd.R Kd.string 9 (W.setRow g cs) B (fun _ => True) v l :=
  Kd.R_mono (Kd.R_step (Kd.R_bound h) (fun j hj _ => setRow_other W g j cs (by have := hj.2.1; omega))) (fun _ _ => trivial)
set_option maxHeartbeats 4000000 in
set_option maxRecDepth 1000000 in
theorem takeRsp_step (s : ByteArray) (hs : s.size ≤ 8000000000000) (w : World) :
    Calls Try.prog 25 #[.string s] w fun x w' => ∃ v, x = .returned (.tuple #[.agg (rspA (trP s) v), .int .i64 (trE s)]) ∧ Kd.R Kd.string 9 w' w.heap.size (fun _ => True) v (mks (trP s).2.2) ∧ Below w.heap.size w w' := by
  obtain ⟨W2, hW2⟩ : ∃ W2, W2 = (w.alloc (.cells (rspA ([], [], []) (.slice none 0 0)) 37)).alloc (.cells (rspA ([], [], []) (.slice none 0 0)) 37) := ⟨_, rfl⟩
  have z2 : W2.heap.size = w.heap.size + 2 := by rw [hW2, World.size_alloc, World.size_alloc]
  have r2 : CB W2 w.heap.size (rspA ([], [], []) (.slice none 0 0)) 37 := by rw [hW2]; exact (heap_alloc_old _ _ (by rw [World.size_alloc]; omega)).trans (heap_alloc_new _ _)
  have k2 : CB W2 (w.heap.size + 1) (rspA ([], [], []) (.slice none 0 0)) 37 := by
    have h := heap_alloc_new (w.alloc (.cells (rspA ([], [], []) (.slice none 0 0)) 37)) (.cells (rspA ([], [], []) (.slice none 0 0)) 37)
    rw [World.size_alloc] at h
    rw [hW2]; exact h
  have b2 : Below w.heap.size w W2 := by rw [hW2]; exact ((Below.refl _ w).alloc (Nat.le_refl _) _).alloc (by rw [World.size_alloc]; omega) _
  have HO := Lib.hid (opened_rsp s hs (w.heap.size + 1) W2 k2)
  have R2 := Lib.hid r2; have B2 := Lib.hid b2; have Z2 := Lib.hid z2
  clear r2 k2 z2 b2
  subst hW2
  have HZP : Hid (trE s ≠ 0 → trP s = ([], [], [])) := Lib.hid (fun h => if_neg h)
  generalize trE s = e at *
  generalize trP s = p at *
  obtain ⟨x1, x2, x3, x4, x5, x6, x7, x8, x9, y, hp⟩ := r11_of p
  have HP := Lib.hid hp
  have HI := Lib.hid info11
  have HO0 := Lib.hid (r11_one 0 0 0 0 0 0 0 0 0 ⟨#[]⟩ none 0 0)
  clear hp
  go_enter Try.func25, Try.ntmps25
  go_wp2_with fail
  refine HO.out.mono ?_
  rintro q w3 ⟨rfl, hm, hg⟩
  have hz := Z2.out
  have HR3 := Lib.hid (R2.out.grown hg (by omega))
  have HB3 := Lib.hid (B2.out.grown hg (by omega) (fun k hk => by have := Option.some.inj hk; omega))
  clear hg hz
  by_cases he : e = 0
  · obtain ⟨v, hc, B, hB, hR⟩ := hm he
    subst he
    obtain ⟨A, c, rfl⟩ := Kd.R_slice hR
    rw [HP.out] at hc
    have HM3 := Lib.hid hc
    have HO1 := Lib.hid (r11_one x1 x2 x3 x4 x5 x6 x7 x8 x9 y A (mks p.2.2).length c)
    have HR4 : Hid (CB (w3.setRow w.heap.size (r11 x1 x2 x3 x4 x5 x6 x7 x8 x9 y A (mks p.2.2).length c)) w.heap.size (r11 x1 x2 x3 x4 x5 x6 x7 x8 x9 y A (mks p.2.2).length c) 37) := Lib.hid (setRow_heap _ _ _ _ _ _ HR3.out)
    have HB4 := Lib.hid (below_row (cs := r11 x1 x2 x3 x4 x5 x6 x7 x8 x9 y A (mks p.2.2).length c) (Nat.le_refl _) HB3.out)
    have HN4 := Lib.hid (Kd.R_lower (R_row (cs := r11 x1 x2 x3 x4 x5 x6 x7 x8 x9 y A (mks p.2.2).length c) hR (show w.heap.size < B by omega)) (show w.heap.size ≤ B by omega))
    have HLN : Hid (∀ n, rspA p (.slice A n c) = r11 x1 x2 x3 x4 x5 x6 x7 x8 x9 y A n c) := Lib.hid (fun n => HP.out A n c)
    generalize (mks p.2.2).length = ln at *
    clear hm hR hc hB
    go_wp2_with (first
      | (refine wpList_load_row rfl 37 (.tmp 4) rfl (w.heap.size + 1) rfl 37 (r11 x1 x2 x3 x4 x5 x6 x7 x8 x9 y A ln c) (0, 0) _ HM3.out Try.underlying37 rfl HI.out ?_)
      | (refine wpList_store_row rfl 37 (.tmp 2) (.tmp 13) rfl w.heap.size (r11 x1 x2 x3 x4 x5 x6 x7 x8 x9 y A ln c) rfl rfl 37 _ HR3.out HI.out rfl HO1.out ?_))
    generalize w3.setRow w.heap.size (r11 x1 x2 x3 x4 x5 x6 x7 x8 x9 y A ln c) = w9 at *
    have q0 := blk_cell HR4.out 0; have q1 := blk_cell HR4.out 1; have q2 := blk_cell HR4.out 2; have q3 := blk_cell HR4.out 3; have q4 := blk_cell HR4.out 4; have q5 := blk_cell HR4.out 5; have q6 := blk_cell HR4.out 6; have q7 := blk_cell HR4.out 7; have q8 := blk_cell HR4.out 8; have q9 := blk_cell HR4.out 9; have q10 := blk_cell HR4.out 10
    simp only [r11, List.getElem?_toArray, List.getElem?_cons_zero, List.getElem?_cons_succ] at q0 q1 q2 q3 q4 q5 q6 q7 q8 q9 q10
    refine bodyPost_ret (v := .tuple #[.agg #[.int .i64 x1, .int .i64 x2, .int .i64 x3, .int .i64 x4, .int .i64 x5, .int .i64 x6, .int .i64 x7, .int .i64 x8, .int .i64 x9, .string y, .slice A ln c], .int .i64 0]) (by simp [results, Try.results25, go_sem, q0, q1, q2, q3, q4, q5, q6, q7, q8, q9, q10]) rfl ⟨.slice A ln c, by rw [HLN.out]; rfl, HN4.out, HB4.out⟩
  · have heb : (e != 0) = true := by simpa using he
    have HPZ := Lib.hid (HZP.out he)
    have HR4 : Hid (CB (w3.setRow w.heap.size (r11 0 0 0 0 0 0 0 0 0 ⟨#[]⟩ none 0 0)) w.heap.size (r11 0 0 0 0 0 0 0 0 0 ⟨#[]⟩ none 0 0) 37) := Lib.hid (setRow_heap _ _ _ _ _ _ HR3.out)
    have HB4 := Lib.hid (below_row (cs := r11 0 0 0 0 0 0 0 0 0 ⟨#[]⟩ none 0 0) (Nat.le_refl _) HB3.out)
    clear hm he
    go_wp2_with (refine wpList_store_row rfl 37 (.tmp 2) (.tmp 11) rfl w.heap.size (r11 0 0 0 0 0 0 0 0 0 ⟨#[]⟩ none 0 0) rfl rfl 37 _ HR3.out HI.out rfl HO0.out ?_)
    generalize w3.setRow w.heap.size (r11 0 0 0 0 0 0 0 0 0 ⟨#[]⟩ none 0 0) = w9 at *
    have q0 := blk_cell HR4.out 0; have q1 := blk_cell HR4.out 1; have q2 := blk_cell HR4.out 2; have q3 := blk_cell HR4.out 3; have q4 := blk_cell HR4.out 4; have q5 := blk_cell HR4.out 5; have q6 := blk_cell HR4.out 6; have q7 := blk_cell HR4.out 7; have q8 := blk_cell HR4.out 8; have q9 := blk_cell HR4.out 9; have q10 := blk_cell HR4.out 10
    simp only [r11, List.getElem?_toArray, List.getElem?_cons_zero, List.getElem?_cons_succ] at q0 q1 q2 q3 q4 q5 q6 q7 q8 q9 q10
    refine bodyPost_ret (v := .tuple #[.agg #[.int .i64 0, .int .i64 0, .int .i64 0, .int .i64 0, .int .i64 0, .int .i64 0, .int .i64 0, .int .i64 0, .int .i64 0, .string ⟨#[]⟩, .slice none 0 0], .int .i64 e]) (by simp [results, Try.results25, go_sem, q0, q1, q2, q3, q4, q5, q6, q7, q8, q9, q10]) rfl ⟨.slice none 0 0, by rw [HPZ.out]; rfl, by rw [HPZ.out]; exact Kd.R_nil _ _ _ _ _, HB4.out⟩
end Go.Proofs.Ytgnmhbkialgeaaa
end

section
/- Layer 15: what was walked by hand, in the form that the printed texts want. -/
set_option linter.unusedVariables false
set_option linter.unusedSimpArgs false
namespace Go.Proofs.Ytgnmhbkialgeaaa
open Go.RowKit Go.Proofs.YtgnmhbkialgeaaaW.PrintWords Go.Proofs.YtgnmhbkialgeaaaW.PrintLast Go.Proofs.YtgnmhbkialgeaaaW.PrintMore Math

def inI (l : List Int) : Bool := l.all fun n => decide (-9223372036854775808 ≤ n) && decide (n ≤ 9223372036854775807)
def wire_nums.f (l0 : List Int) : Option ByteArray := if l0.length ≤ 1000000 ∧ inI l0 = true then some (numsS l0) else none
theorem wire_nums.calls (A0 : Option Addr) (c0 : Nat) (l0 : List Int) (r : ByteArray) (w : World) (hr0 : Kd.C (Kd.int .i64) w A0 l0.length l0) (hc0 : l0.length ≤ c0) (h : wire_nums.f l0 = some r) :
    Calls Try.prog 27 #[.slice A0 l0.length c0] w fun e w' => e = .returned (.string r) ∧ Below w.heap.size w w' := by
  unfold wire_nums.f at h
  split at h
  · rename_i hh
    obtain rfl := Option.some.inj h
    refine nums_calls A0 c0 l0 w hr0 hh.1 (fun n hn => ?_)
    have := List.all_eq_true.1 hh.2 n hn
    simp only [Bool.and_eq_true, decide_eq_true_eq] at this
    exact this
  · cases h
def seal_Put.f (a0 : ByteArray) : Option ByteArray := if a0.size ≤ 9223372036854775803 then some (putS a0) else none
theorem seal_Put.calls (a0 : ByteArray) (r : ByteArray) (w : World) (h : seal_Put.f a0 = some r) :
    Calls Try.prog 31 #[.string a0] w fun e w' => e = .returned (.string r) ∧ Below w.heap.size w w' := by
  unfold seal_Put.f at h
  split at h
  · rename_i hh
    obtain rfl := Option.some.inj h
    exact U.seal_Put.calls a0 _ w (seal_Put_eq a0 hh)
  · cases h
def tcT (s : ByteArray) : Int × Int × Int × Int × Int × ByteArray × ByteArray × ByteArray × ByteArray × Int :=
  let p := tcR s.data.toList
  (p.1.1.getD 0 0, p.1.1.getD 1 0, p.1.1.getD 2 0, p.1.1.getD 3 0, p.1.1.getD 4 0, ⟨p.1.2.1.toArray⟩, ⟨p.1.2.2.1.toArray⟩, ⟨p.1.2.2.2.toArray⟩, ⟨p.2.1.toArray⟩, p.2.2)
def wire_TakeCall.f (a0 : ByteArray) : Option (Int × Int × Int × Int × Int × ByteArray × ByteArray × ByteArray × ByteArray × Int) := if a0.size ≤ 8000000000000 then some (tcT a0) else none
theorem wire_TakeCall.calls (a0 : ByteArray) (r1 r2 r3 r4 r5 : Int) (r6 r7 r8 r9 : ByteArray) (r10 : Int) (w : World) (h : wire_TakeCall.f a0 = some (r1, r2, r3, r4, r5, r6, r7, r8, r9, r10)) :
    Calls Try.prog 13 #[.string a0] w fun e w' => e = .returned (.tuple #[.agg #[.int .i64 r1, .int .i64 r2, .int .i64 r3, .int .i64 r4, .int .i64 r5, .string r6, .string r7, .string r8], .string r9, .int .i64 r10]) ∧ Below w.heap.size w w' := by
  unfold wire_TakeCall.f at h
  split at h
  · rename_i hh
    have h2 := Option.some.inj h
    unfold tcT at h2
    simp only [Prod.mk.injEq] at h2
    obtain ⟨rfl, rfl, rfl, rfl, rfl, rfl, rfl, rfl, rfl, rfl⟩ := h2
    exact takeCall_step a0.data.toList w (by rw [← sz]; exact hh)
  · cases h
def tmT (s : ByteArray) : Int × Int × Int × Int × Int × Int × Int × Int × Int × Int × Int × ByteArray × ByteArray × ByteArray × Int :=
  let p := tmP s
  (p.1.getD 0 0, p.1.getD 1 0, p.1.getD 2 0, p.1.getD 3 0, p.1.getD 4 0, p.1.getD 5 0, p.2.1.getD 0 0, p.2.1.getD 1 0, p.2.1.getD 2 0, p.2.1.getD 3 0, p.2.1.getD 4 0, ⟨p.2.2.1.toArray⟩, ⟨p.2.2.2.1.toArray⟩, ⟨p.2.2.2.2.toArray⟩, tmE s)
def wire_TakeMsg.f (a0 : ByteArray) : Option (Int × Int × Int × Int × Int × Int × Int × Int × Int × Int × Int × ByteArray × ByteArray × ByteArray × Int) := if a0.size ≤ 8000000000000 then some (tmT a0) else none
theorem wire_TakeMsg.calls (a0 : ByteArray) (r1 r2 r3 r4 r5 r6 r7 r8 r9 r10 r11 : Int) (r12 r13 r14 : ByteArray) (r15 : Int) (w : World) (h : wire_TakeMsg.f a0 = some (r1, r2, r3, r4, r5, r6, r7, r8, r9, r10, r11, r12, r13, r14, r15)) :
    Calls Try.prog 23 #[.string a0] w fun e w' => e = .returned (.tuple #[.agg #[.int .i64 r1, .int .i64 r2, .int .i64 r3, .int .i64 r4, .int .i64 r5, .int .i64 r6, .int .i64 r7, .int .i64 r8, .int .i64 r9, .int .i64 r10, .int .i64 r11, .string r12, .string r13, .string r14], .int .i64 r15]) ∧ Below w.heap.size w w' := by
  unfold wire_TakeMsg.f at h
  split at h
  · rename_i hh
    have h2 := Option.some.inj h
    unfold tmT at h2
    simp only [Prod.mk.injEq] at h2
    obtain ⟨rfl, rfl, rfl, rfl, rfl, rfl, rfl, rfl, rfl, rfl, rfl, rfl, rfl, rfl, rfl⟩ := h2
    exact takeMsg_step a0 hh w
  · cases h
def trT (s : ByteArray) : Int × Int × Int × Int × Int × Int × Int × Int × Int × ByteArray × List ByteArray × Int :=
  let p := trP s
  (p.1.getD 0 0, p.1.getD 1 0, p.1.getD 2 0, p.1.getD 3 0, p.1.getD 4 0, p.1.getD 5 0, p.1.getD 6 0, p.1.getD 7 0, p.1.getD 8 0, ⟨p.2.1.toArray⟩, mks p.2.2, trE s)
def wire_TakeRsp.f (a0 : ByteArray) : Option (Int × Int × Int × Int × Int × Int × Int × Int × Int × ByteArray × List ByteArray × Int) := if a0.size ≤ 8000000000000 then some (trT a0) else none
theorem wire_TakeRsp.calls (a0 : ByteArray) (r1 r2 r3 r4 r5 r6 r7 r8 r9 : Int) (r10 : ByteArray) (r11 : List ByteArray) (r12 : Int) (w : World) (h : wire_TakeRsp.f a0 = some (r1, r2, r3, r4, r5, r6, r7, r8, r9, r10, r11, r12)) :
    Calls Try.prog 25 #[.string a0] w fun e w' => ∃ v10_ : Value, e = .returned (.tuple #[.agg #[.int .i64 r1, .int .i64 r2, .int .i64 r3, .int .i64 r4, .int .i64 r5, .int .i64 r6, .int .i64 r7, .int .i64 r8, .int .i64 r9, .string r10, v10_], .int .i64 r12]) ∧ Kd.R Kd.string 9 w' w.heap.size (fun _ => True) v10_ r11 ∧ Below w.heap.size w w' := by
  unfold wire_TakeRsp.f at h
  split at h
  · rename_i hh
    have h2 := Option.some.inj h
    unfold trT at h2
    simp only [Prod.mk.injEq] at h2
    obtain ⟨rfl, rfl, rfl, rfl, rfl, rfl, rfl, rfl, rfl, rfl, rfl, rfl⟩ := h2
    exact takeRsp_step a0 hh w
  · cases h
end Go.Proofs.Ytgnmhbkialgeaaa
end

section
/- The machine's side of laws of this seat: Go functions as Lean functions, and the proof that a call of each comes to what its function says (written by a program of this session, px.py, that runs the kit's print). -/
namespace Go.Proofs.Ytgnmhbkialgeaaa.Q
open Go.RowKit Go.Proofs.YtgnmhbkialgeaaaW.PrintWords Go.Proofs.YtgnmhbkialgeaaaW.PrintLast Go.Proofs.YtgnmhbkialgeaaaW.PrintMore
attribute [local go_sem] max2_int min2_int max_two min_two max_three min_three max_four min_four   -- for this text's walks alone
attribute [local go_sem high] Go.Proofs.Ytgnmhbkialgeaaa.px_xor_u8 Go.Proofs.Ytgnmhbkialgeaaa.px_xor_u16 Go.Proofs.Ytgnmhbkialgeaaa.px_xor_u32 Go.Proofs.Ytgnmhbkialgeaaa.px_xor_u64
set_option linter.unusedVariables false
set_option linter.unusedSimpArgs false



def errW : Option Int → Value
  | none => .nilIface
  | some c => .iface 0 (.int .i64 c)
theorem errW_none : errW none = .nilIface := rfl
theorem errW_some (c : Int) : errW (some c) = .iface 0 (.int .i64 c) := rfl

theorem info5 : (Try.prog.info? 5).map (fun i => (i.zero, i.size, i.bytes)) = some (some (.int .u8 0), 1, 1) := by kernel_rfl
theorem info9 : (Try.prog.info? 9).map (fun i => (i.zero, i.size, i.bytes)) = some (some (.string ⟨#[]⟩), 1, 16) := by kernel_rfl
-- the values' own types

end Go.Proofs.Ytgnmhbkialgeaaa.Q
end

section
/- The machine's side of laws of this seat: Go functions as Lean functions, and the proof that a call of each comes to what its function says (written by a program of this session, px.py, that runs the kit's print). -/
namespace Go.Proofs.Ytgnmhbkialgeaaa.Q
open Go.RowKit Go.Proofs.YtgnmhbkialgeaaaW.PrintWords Go.Proofs.YtgnmhbkialgeaaaW.PrintLast Go.Proofs.YtgnmhbkialgeaaaW.PrintMore
attribute [local go_sem] max2_int min2_int max_two min_two max_three min_three max_four min_four   -- for this text's walks alone
attribute [local go_sem high] Go.Proofs.Ytgnmhbkialgeaaa.px_xor_u8 Go.Proofs.Ytgnmhbkialgeaaa.px_xor_u16 Go.Proofs.Ytgnmhbkialgeaaa.px_xor_u32 Go.Proofs.Ytgnmhbkialgeaaa.px_xor_u64
set_option linter.unusedVariables false
set_option linter.unusedSimpArgs false

theorem eqA23 (d : Nat) (w : World) (x0 y0 : Int) (x1 y1 : Int) (x2 y2 : Int) (x3 y3 : Int) (x4 y4 : Int) (x5 y5 : ByteArray) (x6 y6 : ByteArray) (x7 y7 : ByteArray) :
    (Op.equalIn (d + 2) 23 (.agg #[.int .i64 x0, .int .i64 x1, .int .i64 x2, .int .i64 x3, .int .i64 x4, .string x5, .string x6, .string x7]) (.agg #[.int .i64 y0, .int .i64 y1, .int .i64 y2, .int .i64 y3, .int .i64 y4, .string y5, .string y6, .string y7])).run Try.prog w = .ok (x0 == y0 && (x1 == y1 && (x2 == y2 && (x3 == y3 && (x4 == y4 && (x5.toList == y5.toList && (x6.toList == y6.toList && (x7.toList == y7.toList)))))))) w := by
  refine eqA_of Try.underlying23 (by kernel_rfl) ?_
  refine eqf_cons (by rfl) (by go_simp; rfl) (by go_simp; rfl) (by go_simp) ?_
  refine eqf_cons (by rfl) (by go_simp; rfl) (by go_simp; rfl) (by go_simp) ?_
  refine eqf_cons (by rfl) (by go_simp; rfl) (by go_simp; rfl) (by go_simp) ?_
  refine eqf_cons (by rfl) (by go_simp; rfl) (by go_simp; rfl) (by go_simp) ?_
  refine eqf_cons (by rfl) (by go_simp; rfl) (by go_simp; rfl) (by go_simp) ?_
  refine eqf_cons (by rfl) (by go_simp; rfl) (by go_simp; rfl) (by go_simp) ?_
  refine eqf_cons (by rfl) (by go_simp; rfl) (by go_simp; rfl) (by go_simp) ?_
  exact eqf_last (by rfl) (by go_simp; rfl) (by go_simp; rfl) (by go_simp)
end Go.Proofs.Ytgnmhbkialgeaaa.Q
end

section
/- The machine's side of laws of this seat: Go functions as Lean functions, and the proof that a call of each comes to what its function says (written by a program of this session, px.py, that runs the kit's print). -/
namespace Go.Proofs.Ytgnmhbkialgeaaa.Q
open Go.RowKit Go.Proofs.YtgnmhbkialgeaaaW.PrintWords Go.Proofs.YtgnmhbkialgeaaaW.PrintLast Go.Proofs.YtgnmhbkialgeaaaW.PrintMore
attribute [local go_sem] max2_int min2_int max_two min_two max_three min_three max_four min_four   -- for this text's walks alone
attribute [local go_sem high] Go.Proofs.Ytgnmhbkialgeaaa.px_xor_u8 Go.Proofs.Ytgnmhbkialgeaaa.px_xor_u16 Go.Proofs.Ytgnmhbkialgeaaa.px_xor_u32 Go.Proofs.Ytgnmhbkialgeaaa.px_xor_u64
set_option linter.unusedVariables false
set_option linter.unusedSimpArgs false

theorem eqA32 (d : Nat) (w : World) (x0 y0 : Int) (x1 y1 : Int) (x2 y2 : Int) (x3 y3 : Int) (x4 y4 : Int) (x5 y5 : Int) (x6 y6 : Int) (x7 y7 : Int) (x8 y8 : Int) (x9 y9 : Int) (x10 y10 : Int) (x11 y11 : ByteArray) (x12 y12 : ByteArray) (x13 y13 : ByteArray) :
    (Op.equalIn (d + 3) 32 (.agg #[.int .i64 x0, .int .i64 x1, .int .i64 x2, .int .i64 x3, .int .i64 x4, .int .i64 x5, .int .i64 x6, .int .i64 x7, .int .i64 x8, .int .i64 x9, .int .i64 x10, .string x11, .string x12, .string x13]) (.agg #[.int .i64 y0, .int .i64 y1, .int .i64 y2, .int .i64 y3, .int .i64 y4, .int .i64 y5, .int .i64 y6, .int .i64 y7, .int .i64 y8, .int .i64 y9, .int .i64 y10, .string y11, .string y12, .string y13])).run Try.prog w = .ok (x0 == y0 && (x1 == y1 && (x2 == y2 && (x3 == y3 && (x4 == y4 && (x5 == y5 && ((x6 == y6 && (x7 == y7 && (x8 == y8 && (x9 == y9 && (x10 == y10 && (x11.toList == y11.toList && (x12.toList == y12.toList && (x13.toList == y13.toList))))))))))))))) w := by
  refine eqA_of Try.underlying32 (by kernel_rfl) ?_
  refine eqf_cons (by rfl) (by go_simp; rfl) (by go_simp; rfl) (by go_simp) ?_
  refine eqf_cons (by rfl) (by go_simp; rfl) (by go_simp; rfl) (by go_simp) ?_
  refine eqf_cons (by rfl) (by go_simp; rfl) (by go_simp; rfl) (by go_simp) ?_
  refine eqf_cons (by rfl) (by go_simp; rfl) (by go_simp; rfl) (by go_simp) ?_
  refine eqf_cons (by rfl) (by go_simp; rfl) (by go_simp; rfl) (by go_simp) ?_
  refine eqf_cons (by rfl) (by go_simp; rfl) (by go_simp; rfl) (by go_simp) ?_
  exact eqf_last (by rfl) (by go_simp) (by go_simp) (eqA23 (d + 0) w _ _ _ _ _ _ _ _ _ _ _ _ _ _ _ _)
end Go.Proofs.Ytgnmhbkialgeaaa.Q
end

section
/- The machine's side of laws of this seat: Go functions as Lean functions, and the proof that a call of each comes to what its function says (written by a program of this session, px.py, that runs the kit's print). -/
namespace Go.Proofs.Ytgnmhbkialgeaaa.Q
open Go.RowKit Go.Proofs.YtgnmhbkialgeaaaW.PrintWords Go.Proofs.YtgnmhbkialgeaaaW.PrintLast Go.Proofs.YtgnmhbkialgeaaaW.PrintMore
attribute [local go_sem] max2_int min2_int max_two min_two max_three min_three max_four min_four   -- for this text's walks alone
attribute [local go_sem high] Go.Proofs.Ytgnmhbkialgeaaa.px_xor_u8 Go.Proofs.Ytgnmhbkialgeaaa.px_xor_u16 Go.Proofs.Ytgnmhbkialgeaaa.px_xor_u32 Go.Proofs.Ytgnmhbkialgeaaa.px_xor_u64
set_option linter.unusedVariables false
set_option linter.unusedSimpArgs false

-- GIVEN: function 27 (wire_nums): its Lean function and its contract stand in a text of this session's

-- GIVEN: function 28 (octet_Text): its Lean function and its contract stand in a text of this session's

set_option hygiene false in
local macro "pxAQ30_" : term => `(#[.int .i64 t117, .int .i64 t118, .int .i64 t119, .int .i64 t120, .int .i64 t121, .int .i64 t122, .int .i64 t123, .int .i64 t124, .int .i64 t125, .int .i64 t126, .int .i64 t127, .string (⟨#[]⟩ : ByteArray), .string (⟨#[]⟩ : ByteArray), .string (⟨#[]⟩ : ByteArray)])
set_option hygiene false in
local macro "pxAQ31_" : term => `(#[.int .i64 t117, .int .i64 t118, .int .i64 t119, .int .i64 t120, .int .i64 t121, .int .i64 t122, .int .i64 t123, .int .i64 t124, .int .i64 t125, .int .i64 t126, .int .i64 0, .string (⟨#[]⟩ : ByteArray), .string (⟨#[]⟩ : ByteArray), .string (⟨#[]⟩ : ByteArray)])
set_option hygiene false in
local macro "pxAQ32_" : term => `(#[.int .i64 t117, .int .i64 t118, .int .i64 t119, .int .i64 t120, .int .i64 t121, .int .i64 t122, .int .i64 t123, .int .i64 t124, .int .i64 t125, .int .i64 0, .int .i64 0, .string (⟨#[]⟩ : ByteArray), .string (⟨#[]⟩ : ByteArray), .string (⟨#[]⟩ : ByteArray)])
set_option hygiene false in
local macro "pxAQ33_" : term => `(#[.int .i64 t117, .int .i64 t118, .int .i64 t119, .int .i64 t120, .int .i64 t121, .int .i64 t122, .int .i64 t123, .int .i64 t124, .int .i64 0, .int .i64 0, .int .i64 0, .string (⟨#[]⟩ : ByteArray), .string (⟨#[]⟩ : ByteArray), .string (⟨#[]⟩ : ByteArray)])
set_option hygiene false in
local macro "pxAQ34_" : term => `(#[.int .i64 t117, .int .i64 t118, .int .i64 t119, .int .i64 t120, .int .i64 t121, .int .i64 t122, .int .i64 t123, .int .i64 0, .int .i64 0, .int .i64 0, .int .i64 0, .string (⟨#[]⟩ : ByteArray), .string (⟨#[]⟩ : ByteArray), .string (⟨#[]⟩ : ByteArray)])
set_option hygiene false in
local macro "pxAQ35_" : term => `(#[.int .i64 t117, .int .i64 t118, .int .i64 t119, .int .i64 t120, .int .i64 t121, .int .i64 t122, .int .i64 t123, .int .i64 t124, .int .i64 t125, .int .i64 t126, .int .i64 t127, .string t128, .string (⟨#[]⟩ : ByteArray), .string (⟨#[]⟩ : ByteArray)])
set_option hygiene false in
local macro "pxAQ36_" : term => `(#[.int .i64 t117, .int .i64 t118, .int .i64 t119, .int .i64 t120, .int .i64 t121, .int .i64 t122, .int .i64 0, .int .i64 0, .int .i64 0, .int .i64 0, .int .i64 0, .string (⟨#[]⟩ : ByteArray), .string (⟨#[]⟩ : ByteArray), .string (⟨#[]⟩ : ByteArray)])
set_option hygiene false in
local macro "pxAQ37_" : term => `(#[.int .i64 t117, .int .i64 t118, .int .i64 t119, .int .i64 t120, .int .i64 t121, .int .i64 0, .int .i64 0, .int .i64 0, .int .i64 0, .int .i64 0, .int .i64 0, .string (⟨#[]⟩ : ByteArray), .string (⟨#[]⟩ : ByteArray), .string (⟨#[]⟩ : ByteArray)])
set_option hygiene false in
local macro "pxAQ38_" : term => `(#[.int .i64 t117, .int .i64 t118, .int .i64 t119, .int .i64 t120, .int .i64 0, .int .i64 0, .int .i64 0, .int .i64 0, .int .i64 0, .int .i64 0, .int .i64 0, .string (⟨#[]⟩ : ByteArray), .string (⟨#[]⟩ : ByteArray), .string (⟨#[]⟩ : ByteArray)])
set_option hygiene false in
local macro "pxAQ39_" : term => `(#[.int .i64 t117, .int .i64 t118, .int .i64 t119, .int .i64 0, .int .i64 0, .int .i64 0, .int .i64 0, .int .i64 0, .int .i64 0, .int .i64 0, .int .i64 0, .string (⟨#[]⟩ : ByteArray), .string (⟨#[]⟩ : ByteArray), .string (⟨#[]⟩ : ByteArray)])
set_option hygiene false in
local macro "pxAQ310_" : term => `(#[.agg #[.int .i64 2, .int .i64 3, .int .i64 0, .int .i64 0, .int .i64 0, .int .i64 0, .int .i64 0, .int .i64 0, .int .i64 0, .int .i64 0, .int .i64 0, .string (⟨#[]⟩ : ByteArray), .string (⟨#[]⟩ : ByteArray), .string (⟨#[]⟩ : ByteArray)]])
set_option hygiene false in
local macro "pxAQ311_" : term => `(#[.int .i64 t117, .int .i64 t118, .int .i64 0, .int .i64 0, .int .i64 0, .int .i64 0, .int .i64 0, .int .i64 0, .int .i64 0, .int .i64 0, .int .i64 0, .string (⟨#[]⟩ : ByteArray), .string (⟨#[]⟩ : ByteArray), .string (⟨#[]⟩ : ByteArray)])
set_option hygiene false in
local macro "pxAQ312_" : term => `(#[.int .i64 t117, .int .i64 t118, .int .i64 t119, .int .i64 t120, .int .i64 t121, .int .i64 t122, .int .i64 t123, .int .i64 t124, .int .i64 t125, .int .i64 t126, .int .i64 t127, .string t128, .string t129, .string (⟨#[]⟩ : ByteArray)])
set_option hygiene false in
local macro "pxAQ313_" : term => `(#[.int .i64 t117, .int .i64 0, .int .i64 0, .int .i64 0, .int .i64 0, .int .i64 0, .int .i64 0, .int .i64 0, .int .i64 0, .int .i64 0, .int .i64 0, .string (⟨#[]⟩ : ByteArray), .string (⟨#[]⟩ : ByteArray), .string (⟨#[]⟩ : ByteArray)])
set_option hygiene false in
local macro "pxAQ314_" : term => `(#[.int .i64 2, .int .i64 3, .int .i64 0, .int .i64 0, .int .i64 0, .int .i64 0, .int .i64 0, .int .i64 0, .int .i64 0, .int .i64 0, .int .i64 0, .string (⟨#[]⟩ : ByteArray), .string (⟨#[]⟩ : ByteArray), .string (⟨#[]⟩ : ByteArray)])
set_option hygiene false in
local macro "pxAQ315_" : term => `(#[.int .i64 0, .int .i64 0, .int .i64 0, .int .i64 0, .int .i64 0, .int .i64 0, .int .i64 0, .int .i64 0, .int .i64 0, .int .i64 0, .int .i64 0, .string (⟨#[]⟩ : ByteArray), .string (⟨#[]⟩ : ByteArray), .string (⟨#[]⟩ : ByteArray)])
set_option hygiene false in
local macro "pxAQ316_" : term => `(#[.int .i64 a0_0, .int .i64 a0_1, .int .i64 a0_2, .int .i64 a0_3, .int .i64 a0_4, .int .i64 a0_5, .int .i64 a0_6, .int .i64 a0_7, .int .i64 a0_8, .int .i64 a0_9, .int .i64 a0_10, .string a0_11, .string a0_12, .string a0_13])
set_option hygiene false in
local macro "pxAQ317_" : term => `(#[.int .i64 t117, .int .i64 t118, .int .i64 t119, .int .i64 t120, .int .i64 t121, .int .i64 t122, .int .i64 t123, .int .i64 t124, .int .i64 t125, .int .i64 t126, .int .i64 t127, .string t128, .string t129, .string t130])
set_option hygiene false in
local macro "pxAQ318_" : term => `(#[.agg #[.int .i64 0, .int .i64 0, .int .i64 0, .int .i64 0, .int .i64 0, .string (⟨#[]⟩ : ByteArray), .string (⟨#[]⟩ : ByteArray), .string (⟨#[]⟩ : ByteArray)]])
set_option hygiene false in
local macro "pxAQ319_" : term => `(#[.int .i64 0, .int .i64 0, .int .i64 0, .int .i64 0, .int .i64 0, .string (⟨#[]⟩ : ByteArray), .string (⟨#[]⟩ : ByteArray), .string (⟨#[]⟩ : ByteArray)])
set_option hygiene false in
local macro "pxAQ320_" : term => `(#[.int .i64 a0_0, .int .i64 a0_1, .int .i64 a0_2, .int .i64 a0_3, .int .i64 a0_4, .string a0_5, .string a0_6, .string a0_7])
local macro "pxhQ3_" h:ident w:ident g:ident i:num v:term:max b:ident : tactic => `(tactic| have $h : ($w).cell? ⟨$g, $i, none⟩ = some $v := (blk_cell ($b).out $i).trans rfl)
local macro "pxkQ3_" b:ident i:num : term => `((blk_cell ($b).out $i).trans rfl)
local macro "pxfQ3_" h:ident b:ident i:num : tactic => `(tactic| have $h := blk_frozen ($b).out $i)
set_option hygiene false in
local macro "pxLQ30_" : tactic => `(tactic| (have n1_ := Aside0.mk (blk_below (g := gb101) (o := .cells pxAQ320_ 23 (0, 0)) (by (with_reducible repeat (first | refine blk_drewN ?_ _ | refine blk_drew ?_ | refine blk_alloc ?_ _)); exact BK101.out) hb)))
set_option hygiene false in
local macro "pxLQ31_" : tactic => `(tactic| (have n2_ := Aside0.mk (below_step (by repeat (first | (with_reducible first | exact HB.out | apply below_alloc | apply pw_below_drewN | apply below_drew1 | refine below_set ?_ GE101.out) | exact HB.out)) hb)))
set_option hygiene false in
local macro "pxLQ32_" : tactic => `(tactic| (refine hK.out _ _ ⟨pxkQ3_ BK101 0, pxkQ3_ BK101 1, pxkQ3_ BK101 2, pxkQ3_ BK101 3, pxkQ3_ BK101 4, pxkQ3_ BK101 5, pxkQ3_ BK101 6, pxkQ3_ BK101 7⟩ (fun hHeld => ?_)))
set_option hygiene false in
local macro "pxLQ33_" : tactic => `(tactic| (simp only [Act.put, List.setIfInBounds_toArray, List.set_cons_zero, List.set_cons_succ, i64_w, i32_w]))
set_option hygiene false in
local macro "pxLQ34_" : tactic => `(tactic| (have n0_ := Aside0.mk (Kd.R_below (by (with_reducible repeat (first | apply Kd.R_alloc | apply Kd.R_drewN | apply Kd.R_drew)); exact HO104.out) hb)))
set_option hygiene false in
local macro "pxLQ35_" : tactic => `(tactic| ((clear HO104; clear BK101; clear HB; have HO104 := n0_; have BK101 := n1_; have HB := n2_; clear n0_ n1_ n2_; (try clear hb); (try clear hb2); (try clear hk); (try clear hi))))
set_option hygiene false in
local macro "pxLQ36_" : tactic => `(tactic| (have n1_ := Aside0.mk (blk_below (g := gb109) (o := .cells pxAQ316_ 32 (0, 0)) (by (with_reducible repeat (first | refine blk_drewN ?_ _ | refine blk_drew ?_ | refine blk_alloc ?_ _)); exact BK109.out) hb)))
set_option hygiene false in
local macro "pxLQ37_" : tactic => `(tactic| (have n2_ := Aside0.mk (below_step (by repeat (first | (with_reducible first | exact HB.out | apply below_alloc | apply pw_below_drewN | apply below_drew1 | refine below_set ?_ GE109.out) | exact HB.out)) hb)))
set_option hygiene false in
local macro "pxLQ38_" : tactic => `(tactic| (refine hK.out _ _ ⟨pxkQ3_ BK109 0, pxkQ3_ BK109 1, pxkQ3_ BK109 2, pxkQ3_ BK109 3, pxkQ3_ BK109 4, pxkQ3_ BK109 5, pxkQ3_ BK109 6, pxkQ3_ BK109 7, pxkQ3_ BK109 8, pxkQ3_ BK109 9, pxkQ3_ BK109 10, pxkQ3_ BK109 11, pxkQ3_ BK109 12, pxkQ3_ BK109 13⟩ (fun hHeld => ?_)))
set_option hygiene false in
local macro "pxLQ39_" : tactic => `(tactic| (have n0_ := Aside0.mk (Kd.R_below (by (with_reducible repeat (first | apply Kd.R_alloc | apply Kd.R_drewN | apply Kd.R_drew)); exact HO112.out) hb)))
set_option hygiene false in
local macro "pxLQ310_" : tactic => `(tactic| ((clear HO112; clear BK109; clear HB; have HO112 := n0_; have BK109 := n1_; have HB := n2_; clear n0_ n1_ n2_; (try clear hb); (try clear hb2); (try clear hk); (try clear hi))))
set_option hygiene false in
local macro "pxLQ311_" : tactic => `(tactic| (exact ⟨by first | rfl | (simp [errW_none, errW_some] <;> rfl) | (simp [*, errW_none, errW_some] <;> rfl), by repeat (first | (with_reducible first | exact HB.out | apply below_alloc | apply pw_below_drewN | apply below_drew1 | refine below_set ?_ GE132.out) | exact HB.out)⟩))
/-! ### wire_Call: function 12 -/
def wire_Call.f (a0_0 : Int) (a0_1 : Int) (a0_2 : Int) (a0_3 : Int) (a0_4 : Int) (a0_5 : ByteArray) (a0_6 : ByteArray) (a0_7 : ByteArray) : Option (ByteArray) := (wire_nums.f (([a0_0, a0_1, a0_2, a0_3, a0_4] : List Int))).bind fun t105 => ((octet_Text.f a0_5).bind fun t106 => (if t105.size + t106.size ≤ 9223372036854775807 then ((octet_Text.f a0_6).bind fun t107 => (if (t105 ++ t106).size + t107.size ≤ 9223372036854775807 then ((octet_Text.f a0_7).bind fun t108 => (if ((t105 ++ t106) ++ t107).size + t108.size ≤ 9223372036854775807 then (some (((t105 ++ t106) ++ t107) ++ t108)) else (none))) else (none))) else (none)))
def wire_Call.T1 : Bool × List (List Nat × List Nat) := (true, [([], []), ([0], [0]), ([], []), ([2], [2]), ([], []), ([4], [4]), ([], []), ([6], [6]), ([], []), ([8], [8]), ([1, 3, 5, 7, 9], [1, 3, 5, 7, 9]), ([10], [10]), ([], []), ([12], [12]), ([13, 11], [13]), ([11, 14], [11, 14]), ([], []), ([16], [16]), ([17, 14], [17]), ([15, 18], [15, 18]), ([], []), ([20], [20]), ([21, 18], [21]), ([19, 22], [19, 22]), ([23, 22, 0, 1, 2, 3, 4, 5, 6, 7, 8, 9, 10, 11, 12, 13, 14, 15, 16, 17, 18, 19, 20, 21, 22, 23], [23])])
def wire_Call.B1 : List Nat := [0, 1, 0, 4, 0, 16, 0, 64, 0, 256, 1023, 2047, 0, 4096, 16383, 32767, 0, 65536, 229375, 524287, 0, 1048576, 3637247, 8388607, 16777215]
theorem wire_Call.tab1 : rtab .any (opsOf Try.f12 1) = wire_Call.T1 := by kernel_rfl
theorem wire_Call.bits1 : waitsOk wire_Call.T1.2 wire_Call.B1 = true := by kernel_rfl
set_option maxHeartbeats 8000000 in
set_option maxRecDepth 100000 in
theorem wire_Call.calls (a0_0 : Int) (a0_1 : Int) (a0_2 : Int) (a0_3 : Int) (a0_4 : Int) (a0_5 : ByteArray) (a0_6 : ByteArray) (a0_7 : ByteArray) (r : ByteArray) (w : World) (h : wire_Call.f a0_0 a0_1 a0_2 a0_3 a0_4 a0_5 a0_6 a0_7 = some r) :
    Calls Try.prog 12 #[.agg pxAQ320_] w fun e w' => e = .returned (.string r) ∧ Below w.heap.size w w' := by
  have hu23 := Try.underlying23
  have HB := Aside0.mk (Below.refl w.heap.size w)
  have H : ((wire_nums.f (([a0_0, a0_1, a0_2, a0_3, a0_4] : List Int))).bind fun t105 => ((octet_Text.f a0_5).bind fun t106 => (if t105.size + t106.size ≤ 9223372036854775807 then ((octet_Text.f a0_6).bind fun t107 => (if (t105 ++ t106).size + t107.size ≤ 9223372036854775807 then ((octet_Text.f a0_7).bind fun t108 => (if ((t105 ++ t106) ++ t107).size + t108.size ≤ 9223372036854775807 then (some (((t105 ++ t106) ++ t107) ++ t108)) else (none))) else (none))) else (none)))) = some r := h
  clear h
  obtain ⟨y102, hy102⟩ : ∃ y_ : List Int, y_ = (([a0_0, a0_1, a0_2, a0_3, a0_4] : List Int)) := ⟨_, rfl⟩
  replace H : ((wire_nums.f y102).bind fun t105 => ((octet_Text.f a0_5).bind fun t106 => (if t105.size + t106.size ≤ 9223372036854775807 then ((octet_Text.f a0_6).bind fun t107 => (if (t105 ++ t106).size + t107.size ≤ 9223372036854775807 then ((octet_Text.f a0_7).bind fun t108 => (if ((t105 ++ t106) ++ t107).size + t108.size ≤ 9223372036854775807 then (some (((t105 ++ t106) ++ t107) ++ t108)) else (none))) else (none))) else (none)))) = some r := by first | (rw [hy102]; with_reducible exact H) | (have H2_ := (Option.bind_some _ _).symm.trans H; rw [hy102]; with_reducible exact H2_) | (have H2_ := (Option.bind_some _ _).symm.trans H; with_reducible exact H2_) | with_reducible exact H | (rw [hy102]; exact H) | exact H
  have Ny102 := Aside0.mk hy102
  clear hy102
  replace H := Option.bind_eq_some_iff.mp H
  obtain ⟨t105, A20, H⟩ := H
  replace H : ((octet_Text.f a0_5).bind fun t106 => (if t105.size + t106.size ≤ 9223372036854775807 then ((octet_Text.f a0_6).bind fun t107 => (if (t105 ++ t106).size + t107.size ≤ 9223372036854775807 then ((octet_Text.f a0_7).bind fun t108 => (if ((t105 ++ t106) ++ t107).size + t108.size ≤ 9223372036854775807 then (some (((t105 ++ t106) ++ t107) ++ t108)) else (none))) else (none))) else (none))) = some r := H
  have A2 := Aside0.mk A20
  clear A20
  replace H := Option.bind_eq_some_iff.mp H
  obtain ⟨t106, A30, H⟩ := H
  replace H : (if t105.size + t106.size ≤ 9223372036854775807 then ((octet_Text.f a0_6).bind fun t107 => (if (t105 ++ t106).size + t107.size ≤ 9223372036854775807 then ((octet_Text.f a0_7).bind fun t108 => (if ((t105 ++ t106) ++ t107).size + t108.size ≤ 9223372036854775807 then (some (((t105 ++ t106) ++ t107) ++ t108)) else (none))) else (none))) else (none)) = some r := H
  have A3 := Aside0.mk A30
  clear A30
  by_cases c4 : t105.size + t106.size ≤ 9223372036854775807
  · rw [if_pos c4] at H
    have c4b0 := eq_true c4
    have c4b1 : decide (t105.size + t106.size ≤ 9223372036854775807) = true := decide_eq_true c4
    try have c4b2 : (9223372036854775807 < t105.size + t106.size) = False := eq_false (Nat.not_lt.2 c4)
    replace H := Option.bind_eq_some_iff.mp H
    obtain ⟨t107, A50, H⟩ := H
    replace H : (if (t105 ++ t106).size + t107.size ≤ 9223372036854775807 then ((octet_Text.f a0_7).bind fun t108 => (if ((t105 ++ t106) ++ t107).size + t108.size ≤ 9223372036854775807 then (some (((t105 ++ t106) ++ t107) ++ t108)) else (none))) else (none)) = some r := H
    have A5 := Aside0.mk A50
    clear A50
    by_cases c6 : (t105 ++ t106).size + t107.size ≤ 9223372036854775807
    · rw [if_pos c6] at H
      have c6b0 := eq_true c6
      have c6b1 : decide ((t105 ++ t106).size + t107.size ≤ 9223372036854775807) = true := decide_eq_true c6
      try have c6b2 : (9223372036854775807 < (t105 ++ t106).size + t107.size) = False := eq_false (Nat.not_lt.2 c6)
      try have c6b2_ : (9223372036854775807 < t105.size + t106.size + t107.size) = False := (by have h_ := c6b2; simp only [ByteArray.size_append] at h_; exact h_)
      replace H := Option.bind_eq_some_iff.mp H
      obtain ⟨t108, A70, H⟩ := H
      replace H : (if ((t105 ++ t106) ++ t107).size + t108.size ≤ 9223372036854775807 then (some (((t105 ++ t106) ++ t107) ++ t108)) else (none)) = some r := H
      have A7 := Aside0.mk A70
      clear A70
      by_cases c8 : ((t105 ++ t106) ++ t107).size + t108.size ≤ 9223372036854775807
      · rw [if_pos c8] at H
        have c8b0 := eq_true c8
        have c8b1 : decide (((t105 ++ t106) ++ t107).size + t108.size ≤ 9223372036854775807) = true := decide_eq_true c8
        try have c8b2 : (9223372036854775807 < ((t105 ++ t106) ++ t107).size + t108.size) = False := eq_false (Nat.not_lt.2 c8)
        try have c8b2_ : (9223372036854775807 < t105.size + t106.size + t107.size + t108.size) = False := (by have h_ := c8b2; simp only [ByteArray.size_append] at h_; exact h_)
        obtain rfl := Option.some.inj H
        go_enter Try.func12, Try.ntmps12
        try go_wp2_with (first | ((with_reducible refine gate_dst (N := 1) rfl ?_); refine box_event ?hg (N := 1) ?hd (cs := pxAQ320_) (t := 23) ?hr ?_; (case hd => rfl); (case hg => rfl); (case hr => first | (go_simp; done) | (go_simp; rfl)); intro gb101 hg w9 hbox hb; have n0_ := Aside0.mk (below_step (by repeat (first | (with_reducible first | exact HB.out | apply below_alloc | apply pw_below_drewN | apply below_drew1) | exact HB.out)) hb); have n1_ := Aside0.mk (hbox); have n2_ := Aside0.mk ((by rw [hg]; exact (below_size (by repeat (first | (with_reducible first | exact HB.out | apply below_alloc | apply pw_below_drewN | apply below_drew1) | exact HB.out))) : w.heap.size ≤ gb101)); have n3_ := Aside0.mk ((by rw [hg]; exact (below_size (by repeat (first | (with_reducible first | exact HB.out | apply below_alloc | apply pw_below_drewN | apply below_drew1) | exact HB.out))) : w.heap.size ≤ gb101)); clear HB; have HB := n0_; have BK101 := n1_; have GW101 := n2_; have GE101 := n3_; clear n0_ n1_ n2_ n3_; clear hb hbox hg))
        have n0_ := Aside0.mk (blk_drew BK101.out)
        have n1_ := Aside0.mk (below_drew1 HB.out)
        (clear BK101; clear HB; have BK101 := n0_; have HB := n1_; clear n0_ n1_)
        refine start_ (n := 25) (S := fun w' => w'.cell? ⟨gb101, 0, none⟩ = some (.int .i64 a0_0) ∧ w'.cell? ⟨gb101, 1, none⟩ = some (.int .i64 a0_1) ∧ w'.cell? ⟨gb101, 2, none⟩ = some (.int .i64 a0_2) ∧ w'.cell? ⟨gb101, 3, none⟩ = some (.int .i64 a0_3) ∧ w'.cell? ⟨gb101, 4, none⟩ = some (.int .i64 a0_4) ∧ w'.cell? ⟨gb101, 5, none⟩ = some (.string a0_5) ∧ w'.cell? ⟨gb101, 6, none⟩ = some (.string a0_6) ∧ w'.cell? ⟨gb101, 7, none⟩ = some (.string a0_7)) (ds := []) #[false, false, false, false, false, false, false, false, false, false, false, false, false, false, false, false, false, false, false, false, false, false, false, false, false] (by kernel_rfl) rfl rfl ⟨pxkQ3_ BK101 0, pxkQ3_ BK101 1, pxkQ3_ BK101 2, pxkQ3_ BK101 3, pxkQ3_ BK101 4, pxkQ3_ BK101 5, pxkQ3_ BK101 6, pxkQ3_ BK101 7⟩ (fun hHeld => ?_); refine with_tabW wire_Call.tab1 wire_Call.bits1 (fun HT_ HW_ => ?_)
        generalize w9.drew = w10 at BK101 HB hHeld ⊢
        refine pure_ (i := 0) (N := some 3) (v := ?_) (a' := ?_) #[true, false, false, false, false, false, false, false, false, false, false, false, false, false, false, false, false, false, false, false, false, false, false, false, false] rfl rfl (any_of HT_.out (by kernel_rfl)) (fun _ _ _ h => h) (Or.inl ⟨by rfl, ?_⟩) ?_ ?_
        rotate_left
        · intro w'
          go_simp
          with_reducible rfl
        rotate_left
        · simp only [Act.put, List.setIfInBounds_toArray, List.set_cons_zero, List.set_cons_succ, i64_w, i32_w]
          rfl
        refine pure_ (i := 2) (N := some 5) (v := ?_) (a' := ?_) #[true, false, true, false, false, false, false, false, false, false, false, false, false, false, false, false, false, false, false, false, false, false, false, false, false] rfl rfl (any_of HT_.out (by kernel_rfl)) (fun _ _ _ h => h) (Or.inl ⟨by rfl, ?_⟩) ?_ ?_
        rotate_left
        · intro w'
          go_simp
          with_reducible rfl
        rotate_left
        · simp only [Act.put, List.setIfInBounds_toArray, List.set_cons_zero, List.set_cons_succ, i64_w, i32_w]
          rfl
        refine pure_ (i := 4) (N := some 7) (v := ?_) (a' := ?_) #[true, false, true, false, true, false, false, false, false, false, false, false, false, false, false, false, false, false, false, false, false, false, false, false, false] rfl rfl (any_of HT_.out (by kernel_rfl)) (fun _ _ _ h => h) (Or.inl ⟨by rfl, ?_⟩) ?_ ?_
        rotate_left
        · intro w'
          go_simp
          with_reducible rfl
        rotate_left
        · simp only [Act.put, List.setIfInBounds_toArray, List.set_cons_zero, List.set_cons_succ, i64_w, i32_w]
          rfl
        refine pure_ (i := 6) (N := some 9) (v := ?_) (a' := ?_) #[true, false, true, false, true, false, true, false, false, false, false, false, false, false, false, false, false, false, false, false, false, false, false, false, false] rfl rfl (any_of HT_.out (by kernel_rfl)) (fun _ _ _ h => h) (Or.inl ⟨by rfl, ?_⟩) ?_ ?_
        rotate_left
        · intro w'
          go_simp
          with_reducible rfl
        rotate_left
        · simp only [Act.put, List.setIfInBounds_toArray, List.set_cons_zero, List.set_cons_succ, i64_w, i32_w]
          rfl
        refine pure_ (i := 8) (N := some 11) (v := ?_) (a' := ?_) #[true, false, true, false, true, false, true, false, true, false, false, false, false, false, false, false, false, false, false, false, false, false, false, false, false] rfl rfl (any_of HT_.out (by kernel_rfl)) (fun _ _ _ h => h) (Or.inl ⟨by rfl, ?_⟩) ?_ ?_
        rotate_left
        · intro w'
          go_simp
          with_reducible rfl
        rotate_left
        · simp only [Act.put, List.setIfInBounds_toArray, List.set_cons_zero, List.set_cons_succ, i64_w, i32_w]
          rfl
        refine pure_ (i := 12) (N := some 15) (v := ?_) (a' := ?_) #[true, false, true, false, true, false, true, false, true, false, false, false, true, false, false, false, false, false, false, false, false, false, false, false, false] rfl rfl (any_of HT_.out (by kernel_rfl)) (fun _ _ _ h => h) (Or.inl ⟨by rfl, ?_⟩) ?_ ?_
        rotate_left
        · intro w'
          go_simp
          with_reducible rfl
        rotate_left
        · simp only [Act.put, List.setIfInBounds_toArray, List.set_cons_zero, List.set_cons_succ, i64_w, i32_w]
          rfl
        refine pure_ (i := 16) (N := some 19) (v := ?_) (a' := ?_) #[true, false, true, false, true, false, true, false, true, false, false, false, true, false, false, false, true, false, false, false, false, false, false, false, false] rfl rfl (any_of HT_.out (by kernel_rfl)) (fun _ _ _ h => h) (Or.inl ⟨by rfl, ?_⟩) ?_ ?_
        rotate_left
        · intro w'
          go_simp
          with_reducible rfl
        rotate_left
        · simp only [Act.put, List.setIfInBounds_toArray, List.set_cons_zero, List.set_cons_succ, i64_w, i32_w]
          rfl
        refine pure_ (i := 20) (N := some 23) (v := ?_) (a' := ?_) #[true, false, true, false, true, false, true, false, true, false, false, false, true, false, false, false, true, false, false, false, true, false, false, false, false] rfl rfl (any_of HT_.out (by kernel_rfl)) (fun _ _ _ h => h) (Or.inl ⟨by rfl, ?_⟩) ?_ ?_
        rotate_left
        · intro w'
          go_simp
          with_reducible rfl
        rotate_left
        · simp only [Act.put, List.setIfInBounds_toArray, List.set_cons_zero, List.set_cons_succ, i64_w, i32_w]
          rfl
        refine take_ (i := 1) (N := some 4) (v := ?_) (a' := ?_) #[true, true, true, false, true, false, true, false, true, false, false, false, true, false, false, false, true, false, false, false, true, false, false, false, false] rfl rfl (take_ofW HT_.out HW_.out (by kernel_rfl)) (fun _ _ _ h => h) (Or.inl ⟨by rfl, ?_⟩) hHeld ?_ ?_
        rotate_left
        · rintro w' ⟨s0, s1, s2, s3, s4, s5, s6, s7⟩
          go_simp
          with_reducible rfl
        rotate_left
        · simp only [Act.put, List.setIfInBounds_toArray, List.set_cons_zero, List.set_cons_succ, i64_w, i32_w]
          rfl
        refine take_ (i := 3) (N := some 6) (v := ?_) (a' := ?_) #[true, true, true, true, true, false, true, false, true, false, false, false, true, false, false, false, true, false, false, false, true, false, false, false, false] rfl rfl (take_ofW HT_.out HW_.out (by kernel_rfl)) (fun _ _ _ h => h) (Or.inl ⟨by rfl, ?_⟩) hHeld ?_ ?_
        rotate_left
        · rintro w' ⟨s0, s1, s2, s3, s4, s5, s6, s7⟩
          go_simp
          with_reducible rfl
        rotate_left
        · simp only [Act.put, List.setIfInBounds_toArray, List.set_cons_zero, List.set_cons_succ, i64_w, i32_w]
          rfl
        refine take_ (i := 5) (N := some 8) (v := ?_) (a' := ?_) #[true, true, true, true, true, true, true, false, true, false, false, false, true, false, false, false, true, false, false, false, true, false, false, false, false] rfl rfl (take_ofW HT_.out HW_.out (by kernel_rfl)) (fun _ _ _ h => h) (Or.inl ⟨by rfl, ?_⟩) hHeld ?_ ?_
        rotate_left
        · rintro w' ⟨s0, s1, s2, s3, s4, s5, s6, s7⟩
          go_simp
          with_reducible rfl
        rotate_left
        · simp only [Act.put, List.setIfInBounds_toArray, List.set_cons_zero, List.set_cons_succ, i64_w, i32_w]
          rfl
        refine take_ (i := 7) (N := some 10) (v := ?_) (a' := ?_) #[true, true, true, true, true, true, true, true, true, false, false, false, true, false, false, false, true, false, false, false, true, false, false, false, false] rfl rfl (take_ofW HT_.out HW_.out (by kernel_rfl)) (fun _ _ _ h => h) (Or.inl ⟨by rfl, ?_⟩) hHeld ?_ ?_
        rotate_left
        · rintro w' ⟨s0, s1, s2, s3, s4, s5, s6, s7⟩
          go_simp
          with_reducible rfl
        rotate_left
        · simp only [Act.put, List.setIfInBounds_toArray, List.set_cons_zero, List.set_cons_succ, i64_w, i32_w]
          rfl
        refine take_ (i := 9) (N := some 12) (v := ?_) (a' := ?_) #[true, true, true, true, true, true, true, true, true, true, false, false, true, false, false, false, true, false, false, false, true, false, false, false, false] rfl rfl (take_ofW HT_.out HW_.out (by kernel_rfl)) (fun _ _ _ h => h) (Or.inl ⟨by rfl, ?_⟩) hHeld ?_ ?_
        rotate_left
        · rintro w' ⟨s0, s1, s2, s3, s4, s5, s6, s7⟩
          go_simp
          with_reducible rfl
        rotate_left
        · simp only [Act.put, List.setIfInBounds_toArray, List.set_cons_zero, List.set_cons_succ, i64_w, i32_w]
          rfl
        refine take_ (i := 13) (N := some 16) (v := ?_) (a' := ?_) #[true, true, true, true, true, true, true, true, true, true, false, false, true, true, false, false, true, false, false, false, true, false, false, false, false] rfl rfl (take_ofW HT_.out HW_.out (by kernel_rfl)) (fun _ _ _ h => h) (Or.inl ⟨by rfl, ?_⟩) hHeld ?_ ?_
        rotate_left
        · rintro w' ⟨s0, s1, s2, s3, s4, s5, s6, s7⟩
          go_simp
          with_reducible rfl
        rotate_left
        · simp only [Act.put, List.setIfInBounds_toArray, List.set_cons_zero, List.set_cons_succ, i64_w, i32_w]
          rfl
        refine take_ (i := 17) (N := some 20) (v := ?_) (a' := ?_) #[true, true, true, true, true, true, true, true, true, true, false, false, true, true, false, false, true, true, false, false, true, false, false, false, false] rfl rfl (take_ofW HT_.out HW_.out (by kernel_rfl)) (fun _ _ _ h => h) (Or.inl ⟨by rfl, ?_⟩) hHeld ?_ ?_
        rotate_left
        · rintro w' ⟨s0, s1, s2, s3, s4, s5, s6, s7⟩
          go_simp
          with_reducible rfl
        rotate_left
        · simp only [Act.put, List.setIfInBounds_toArray, List.set_cons_zero, List.set_cons_succ, i64_w, i32_w]
          rfl
        refine take_ (i := 21) (N := some 24) (v := ?_) (a' := ?_) #[true, true, true, true, true, true, true, true, true, true, false, false, true, true, false, false, true, true, false, false, true, true, false, false, false] rfl rfl (take_ofW HT_.out HW_.out (by kernel_rfl)) (fun _ _ _ h => h) (Or.inl ⟨by rfl, ?_⟩) hHeld ?_ ?_
        rotate_left
        · rintro w' ⟨s0, s1, s2, s3, s4, s5, s6, s7⟩
          go_simp
          with_reducible rfl
        rotate_left
        · simp only [Act.put, List.setIfInBounds_toArray, List.set_cons_zero, List.set_cons_succ, i64_w, i32_w]
          rfl
        refine one_ (i := 10) (N := some 13) #[true, true, true, true, true, true, true, true, true, true, true, false, true, true, false, false, true, true, false, false, true, true, false, false, false] rfl rfl (one_of HT_.out (by kernel_rfl)) (by decide) (fun K hK => ?_)
        refine Kd.R_lit_step (Kd.int .i64) _ 3 ?hg (N := 13) ?hd (xs := ([a0_0, a0_1, a0_2, a0_3, a0_4] : List Int)) (inner := [.int .i64 a0_0, .int .i64 a0_1, .int .i64 a0_2, .int .i64 a0_3, .int .i64 a0_4]) (ok := fun _ => True) (okp := fun _ => True) ?hr ?hp (fun _ hk => hk) trivial (Below.refl _ _) (Nat.le_refl _) (by simp) ?_; (case hd => rfl); (case hg => rfl); (case hr => first | (go_simp; done) | (go_simp; rfl)); (case hp => exact (Reps.one (show Kd.M (Kd.int .i64) _ _ _ a0_0 [.int .i64 a0_0] from rfl) (Reps.one (show Kd.M (Kd.int .i64) _ _ _ a0_1 [.int .i64 a0_1] from rfl) (Reps.one (show Kd.M (Kd.int .i64) _ _ _ a0_2 [.int .i64 a0_2] from rfl) (Reps.one (show Kd.M (Kd.int .i64) _ _ _ a0_3 [.int .i64 a0_3] from rfl) (Reps.one (show Kd.M (Kd.int .i64) _ _ _ a0_4 [.int .i64 a0_4] from rfl) (Reps.none _ _)))))))
        intro v103 w11 ho12 hb hg_ hnew_
        clear hg_ hnew_
        (first | rw [← Ny102.out] at ho12 | (simp only [Int.reduceToNat] at ho12; rw [← Ny102.out] at ho12))
        have n0_ := Aside0.mk (Kd.R_lower ho12 (below_size (by repeat (first | (with_reducible first | exact HB.out | apply below_alloc | apply pw_below_drewN | apply below_drew1 | refine below_set ?_ GE101.out) | exact HB.out))))
        pxLQ30_
        pxLQ31_
        (clear BK101; clear HB; have HO104 := n0_; have BK101 := n1_; have HB := n2_; clear n0_ n1_ n2_; clear hb ho12)
        obtain ⟨Ao13, co13, eo13⟩ := Kd.R_slice HO104.out
        (first | subst eo13 | (injection eo13 with f1_ f2_ f3_; have f4_ := f1_.symm; have f5_ := f3_.symm; clear f1_ f2_ f3_; subst f4_; subst f5_))
        pxLQ32_
        clear hK K
        refine norm_ (a' := ?_) ?_ ?_
        rotate_left
        · show Act.put _ (some 13) _ = _
          pxLQ33_
          rfl
        refine one_ (i := 11) (N := some 14) #[true, true, true, true, true, true, true, true, true, true, true, true, true, true, false, false, true, true, false, false, true, true, false, false, false] rfl rfl (one_of HT_.out (by kernel_rfl)) (by decide) (fun K hK => ?_)
        refine goes_ Try.func27 (by kernel_rfl) rfl #[.slice Ao13 y102.length co13] (by rfl) rfl rfl (by (try simp only [List.map_toArray, List.map_cons, List.map_nil]); first | done | rfl | (simp only [List.length_drop, List.length_take]; rfl)) ?_
        with_reducible refine (wire_nums.calls _ _ y102 t105 _ ?side1 ?side2 A2.out).mono ?_
        (case side1 => repeat (first | exact (Kd.R_reads' HO104.out).2.2 | (with_reducible refine Kd.C_alloc ?_ _) | (with_reducible refine Kd.C_drewN ?_ _) | (with_reducible refine Kd.C_drew ?_)))
        (case side2 => exact (Kd.R_reads' HO104.out).2.1)
        rintro e w14 ⟨rfl, hb⟩
        refine ⟨_, rfl, ?_⟩
        pxLQ34_
        pxLQ30_
        pxLQ31_
        pxLQ35_
        pxLQ32_
        clear hK K
        refine norm_ (a' := ?_) ?_ ?_
        rotate_left
        · show Act.put _ (some 14) _ = _
          pxLQ33_
          rfl
        refine one_ (i := 14) (N := some 17) #[true, true, true, true, true, true, true, true, true, true, true, true, true, true, true, false, true, true, false, false, true, true, false, false, false] rfl rfl (one_of HT_.out (by kernel_rfl)) (by decide) (fun K hK => ?_)
        refine goes_ Try.func28 (by kernel_rfl) rfl #[.string a0_5] (by rfl) rfl rfl (by (try simp only [List.map_toArray, List.map_cons, List.map_nil]); first | done | rfl | (simp only [List.length_drop, List.length_take]; rfl)) ?_
        with_reducible refine (octet_Text.calls a0_5 t106 _ A3.out).mono ?_
        rintro e w15 ⟨rfl, hb⟩
        refine ⟨_, rfl, ?_⟩
        pxLQ34_
        pxLQ30_
        pxLQ31_
        pxLQ35_
        pxLQ32_
        clear hK K
        refine norm_ (a' := ?_) ?_ ?_
        rotate_left
        · show Act.put _ (some 17) _ = _
          pxLQ33_
          rfl
        refine pure_ (i := 15) (N := some 18) (v := ?_) (a' := ?_) #[true, true, true, true, true, true, true, true, true, true, true, true, true, true, true, true, true, true, false, false, true, true, false, false, false] rfl rfl (any_of HT_.out (by kernel_rfl)) (fun _ _ _ h => h) (Or.inl ⟨by rfl, ?_⟩) ?_ ?_
        rotate_left
        · intro w'
          go_simp
          with_reducible rfl
        rotate_left
        · simp only [Act.put, List.setIfInBounds_toArray, List.set_cons_zero, List.set_cons_succ, i64_w, i32_w]
          rfl
        refine one_ (i := 18) (N := some 21) #[true, true, true, true, true, true, true, true, true, true, true, true, true, true, true, true, true, true, true, false, true, true, false, false, false] rfl rfl (one_of HT_.out (by kernel_rfl)) (by decide) (fun K hK => ?_)
        refine goes_ Try.func28 (by kernel_rfl) rfl #[.string a0_6] (by rfl) rfl rfl (by (try simp only [List.map_toArray, List.map_cons, List.map_nil]); first | done | rfl | (simp only [List.length_drop, List.length_take]; rfl)) ?_
        with_reducible refine (octet_Text.calls a0_6 t107 _ A5.out).mono ?_
        rintro e w16 ⟨rfl, hb⟩
        refine ⟨_, rfl, ?_⟩
        pxLQ34_
        pxLQ30_
        pxLQ31_
        pxLQ35_
        pxLQ32_
        clear hK K
        refine norm_ (a' := ?_) ?_ ?_
        rotate_left
        · show Act.put _ (some 21) _ = _
          pxLQ33_
          rfl
        refine pure_ (i := 19) (N := some 22) (v := ?_) (a' := ?_) #[true, true, true, true, true, true, true, true, true, true, true, true, true, true, true, true, true, true, true, true, true, true, false, false, false] rfl rfl (any_of HT_.out (by kernel_rfl)) (fun _ _ _ h => h) (Or.inl ⟨by rfl, ?_⟩) ?_ ?_
        rotate_left
        · intro w'
          go_simp
          with_reducible rfl
        rotate_left
        · simp only [Act.put, List.setIfInBounds_toArray, List.set_cons_zero, List.set_cons_succ, i64_w, i32_w]
          rfl
        refine one_ (i := 22) (N := some 25) #[true, true, true, true, true, true, true, true, true, true, true, true, true, true, true, true, true, true, true, true, true, true, true, false, false] rfl rfl (one_of HT_.out (by kernel_rfl)) (by decide) (fun K hK => ?_)
        refine goes_ Try.func28 (by kernel_rfl) rfl #[.string a0_7] (by rfl) rfl rfl (by (try simp only [List.map_toArray, List.map_cons, List.map_nil]); first | done | rfl | (simp only [List.length_drop, List.length_take]; rfl)) ?_
        with_reducible refine (octet_Text.calls a0_7 t108 _ A7.out).mono ?_
        rintro e w17 ⟨rfl, hb⟩
        refine ⟨_, rfl, ?_⟩
        pxLQ34_
        pxLQ30_
        pxLQ31_
        pxLQ35_
        pxLQ32_
        clear hK K
        refine norm_ (a' := ?_) ?_ ?_
        rotate_left
        · show Act.put _ (some 25) _ = _
          pxLQ33_
          rfl
        refine pure_ (i := 23) (N := some 26) (v := ?_) (a' := ?_) #[true, true, true, true, true, true, true, true, true, true, true, true, true, true, true, true, true, true, true, true, true, true, true, true, false] rfl rfl (any_of HT_.out (by kernel_rfl)) (fun _ _ _ h => h) (Or.inl ⟨by rfl, ?_⟩) ?_ ?_
        rotate_left
        · intro w'
          go_simp
          with_reducible rfl
        rotate_left
        · simp only [Act.put, List.setIfInBounds_toArray, List.set_cons_zero, List.set_cons_succ, i64_w, i32_w]
          rfl
        refine pure_ (i := 24) (N := some 2) (v := ?_) (a' := ?_) #[true, true, true, true, true, true, true, true, true, true, true, true, true, true, true, true, true, true, true, true, true, true, true, true, true] rfl rfl (any_of HT_.out (by kernel_rfl)) (fun _ _ _ h => h) (Or.inl ⟨by rfl, ?_⟩) ?_ ?_
        rotate_left
        · intro w'
          go_simp
          with_reducible rfl
        rotate_left
        · simp only [Act.put, List.setIfInBounds_toArray, List.set_cons_zero, List.set_cons_succ, i64_w, i32_w]
          rfl
        refine done_ (done_of HT_.out (by kernel_rfl)) ?_
        try go_wp2
        go_ret
        exact ⟨by first | rfl | (simp [errW_none, errW_some] <;> rfl) | (simp [*, errW_none, errW_some] <;> rfl), by repeat (first | (with_reducible first | exact HB.out | apply below_alloc | apply pw_below_drewN | apply below_drew1 | refine below_set ?_ GE101.out) | exact HB.out)⟩
      · rw [if_neg c8] at H
        exact absurd H (by simp)
    · rw [if_neg c6] at H
      exact absurd H (by simp)
  · rw [if_neg c4] at H
    exact absurd H (by simp)

-- GIVEN: function 31 (seal_Put): its Lean function and its contract stand in a text of this session's

/-! ### wire_Msg: function 15 -/
def wire_Msg.f (a0_0 : Int) (a0_1 : Int) (a0_2 : Int) (a0_3 : Int) (a0_4 : Int) (a0_5 : Int) (a0_6 : Int) (a0_7 : Int) (a0_8 : Int) (a0_9 : Int) (a0_10 : Int) (a0_11 : ByteArray) (a0_12 : ByteArray) (a0_13 : ByteArray) : Option (ByteArray) := (wire_nums.f (([a0_0, a0_1, a0_2, a0_3, a0_4, a0_5] : List Int))).bind fun t113 => (if 1 + t113.size ≤ 9223372036854775807 then ((wire_Call.f a0_6 a0_7 a0_8 a0_9 a0_10 a0_11 a0_12 a0_13).bind fun t114 => (if ((⟨#[109]⟩ : ByteArray) ++ t113).size + t114.size ≤ 9223372036854775807 then ((seal_Put.f (((⟨#[109]⟩ : ByteArray) ++ t113) ++ t114)).bind fun t115 => (some t115)) else (none))) else (none))
def wire_Msg.T1 : Bool × List (List Nat × List Nat) := (true, [([], []), ([0], [0]), ([], []), ([2], [2]), ([], []), ([4], [4]), ([], []), ([6], [6]), ([], []), ([8], [8]), ([], []), ([10], [10]), ([1, 3, 5, 7, 9, 11], [1, 3, 5, 7, 9, 11]), ([12], [12]), ([13], [13]), ([], []), ([15], [15]), ([16, 13], [16]), ([14, 17], [14, 17]), ([18, 17], [18]), ([19, 19, 0, 1, 2, 3, 4, 5, 6, 7, 8, 9, 10, 11, 12, 13, 14, 15, 16, 17, 18, 19], [19])])
def wire_Msg.B1 : List Nat := [0, 1, 0, 4, 0, 16, 0, 64, 0, 256, 0, 1024, 4095, 8191, 16383, 0, 32768, 114687, 262143, 524287, 1048575]
theorem wire_Msg.tab1 : rtab .any (opsOf Try.f15 1) = wire_Msg.T1 := by kernel_rfl
theorem wire_Msg.bits1 : waitsOk wire_Msg.T1.2 wire_Msg.B1 = true := by kernel_rfl
set_option maxHeartbeats 8000000 in
set_option maxRecDepth 100000 in
theorem wire_Msg.calls (a0_0 : Int) (a0_1 : Int) (a0_2 : Int) (a0_3 : Int) (a0_4 : Int) (a0_5 : Int) (a0_6 : Int) (a0_7 : Int) (a0_8 : Int) (a0_9 : Int) (a0_10 : Int) (a0_11 : ByteArray) (a0_12 : ByteArray) (a0_13 : ByteArray) (r : ByteArray) (w : World) (h : wire_Msg.f a0_0 a0_1 a0_2 a0_3 a0_4 a0_5 a0_6 a0_7 a0_8 a0_9 a0_10 a0_11 a0_12 a0_13 = some r) :
    Calls Try.prog 15 #[.agg pxAQ316_] w fun e w' => e = .returned (.string r) ∧ Below w.heap.size w w' := by
  have hu32 := Try.underlying32
  have hu23 := Try.underlying23
  have HB := Aside0.mk (Below.refl w.heap.size w)
  have H : ((wire_nums.f (([a0_0, a0_1, a0_2, a0_3, a0_4, a0_5] : List Int))).bind fun t113 => (if 1 + t113.size ≤ 9223372036854775807 then ((wire_Call.f a0_6 a0_7 a0_8 a0_9 a0_10 a0_11 a0_12 a0_13).bind fun t114 => (if ((⟨#[109]⟩ : ByteArray) ++ t113).size + t114.size ≤ 9223372036854775807 then ((seal_Put.f (((⟨#[109]⟩ : ByteArray) ++ t113) ++ t114)).bind fun t115 => (some t115)) else (none))) else (none))) = some r := h
  clear h
  obtain ⟨y110, hy110⟩ : ∃ y_ : List Int, y_ = (([a0_0, a0_1, a0_2, a0_3, a0_4, a0_5] : List Int)) := ⟨_, rfl⟩
  replace H : ((wire_nums.f y110).bind fun t113 => (if 1 + t113.size ≤ 9223372036854775807 then ((wire_Call.f a0_6 a0_7 a0_8 a0_9 a0_10 a0_11 a0_12 a0_13).bind fun t114 => (if ((⟨#[109]⟩ : ByteArray) ++ t113).size + t114.size ≤ 9223372036854775807 then ((seal_Put.f (((⟨#[109]⟩ : ByteArray) ++ t113) ++ t114)).bind fun t115 => (some t115)) else (none))) else (none))) = some r := by first | (rw [hy110]; with_reducible exact H) | (have H2_ := (Option.bind_some _ _).symm.trans H; rw [hy110]; with_reducible exact H2_) | (have H2_ := (Option.bind_some _ _).symm.trans H; with_reducible exact H2_) | with_reducible exact H | (rw [hy110]; exact H) | exact H
  have Ny110 := Aside0.mk hy110
  clear hy110
  replace H := Option.bind_eq_some_iff.mp H
  obtain ⟨t113, A20, H⟩ := H
  replace H : (if 1 + t113.size ≤ 9223372036854775807 then ((wire_Call.f a0_6 a0_7 a0_8 a0_9 a0_10 a0_11 a0_12 a0_13).bind fun t114 => (if ((⟨#[109]⟩ : ByteArray) ++ t113).size + t114.size ≤ 9223372036854775807 then ((seal_Put.f (((⟨#[109]⟩ : ByteArray) ++ t113) ++ t114)).bind fun t115 => (some t115)) else (none))) else (none)) = some r := H
  have A2 := Aside0.mk A20
  clear A20
  by_cases c3 : 1 + t113.size ≤ 9223372036854775807
  · rw [if_pos c3] at H
    have c3b0 := eq_true c3
    have c3b1 : decide (1 + t113.size ≤ 9223372036854775807) = true := decide_eq_true c3
    try have c3b2 : (9223372036854775807 < 1 + t113.size) = False := eq_false (Nat.not_lt.2 c3)
    replace H := Option.bind_eq_some_iff.mp H
    obtain ⟨t114, A40, H⟩ := H
    replace H : (if ((⟨#[109]⟩ : ByteArray) ++ t113).size + t114.size ≤ 9223372036854775807 then ((seal_Put.f (((⟨#[109]⟩ : ByteArray) ++ t113) ++ t114)).bind fun t115 => (some t115)) else (none)) = some r := H
    have A4 := Aside0.mk A40
    clear A40
    by_cases c5 : ((⟨#[109]⟩ : ByteArray) ++ t113).size + t114.size ≤ 9223372036854775807
    · rw [if_pos c5] at H
      have c5b0 := eq_true c5
      have c5b1 : decide (((⟨#[109]⟩ : ByteArray) ++ t113).size + t114.size ≤ 9223372036854775807) = true := decide_eq_true c5
      try have c5b2 : (9223372036854775807 < ((⟨#[109]⟩ : ByteArray) ++ t113).size + t114.size) = False := eq_false (Nat.not_lt.2 c5)
      try have c5b2_ : (9223372036854775807 < 1 + t113.size + t114.size) = False := (by have h_ := c5b2; simp only [ByteArray.size_append] at h_; exact h_)
      replace H := Option.bind_eq_some_iff.mp H
      obtain ⟨t115, A60, H⟩ := H
      replace H : (some t115) = some r := H
      have A6 := Aside0.mk A60
      clear A60
      obtain rfl := Option.some.inj H
      go_enter Try.func15, Try.ntmps15
      try go_wp2_with (first | ((with_reducible refine gate_dst (N := 1) rfl ?_); refine box_event ?hg (N := 1) ?hd (cs := pxAQ316_) (t := 32) ?hr ?_; (case hd => rfl); (case hg => rfl); (case hr => first | (go_simp; done) | (go_simp; rfl)); intro gb109 hg w7 hbox hb; have n0_ := Aside0.mk (below_step (by repeat (first | (with_reducible first | exact HB.out | apply below_alloc | apply pw_below_drewN | apply below_drew1) | exact HB.out)) hb); have n1_ := Aside0.mk (hbox); have n2_ := Aside0.mk ((by rw [hg]; exact (below_size (by repeat (first | (with_reducible first | exact HB.out | apply below_alloc | apply pw_below_drewN | apply below_drew1) | exact HB.out))) : w.heap.size ≤ gb109)); have n3_ := Aside0.mk ((by rw [hg]; exact (below_size (by repeat (first | (with_reducible first | exact HB.out | apply below_alloc | apply pw_below_drewN | apply below_drew1) | exact HB.out))) : w.heap.size ≤ gb109)); clear HB; have HB := n0_; have BK109 := n1_; have GW109 := n2_; have GE109 := n3_; clear n0_ n1_ n2_ n3_; clear hb hbox hg))
      have n0_ := Aside0.mk (blk_drew BK109.out)
      have n1_ := Aside0.mk (below_drew1 HB.out)
      (clear BK109; clear HB; have BK109 := n0_; have HB := n1_; clear n0_ n1_)
      refine start_ (n := 21) (S := fun w' => w'.cell? ⟨gb109, 0, none⟩ = some (.int .i64 a0_0) ∧ w'.cell? ⟨gb109, 1, none⟩ = some (.int .i64 a0_1) ∧ w'.cell? ⟨gb109, 2, none⟩ = some (.int .i64 a0_2) ∧ w'.cell? ⟨gb109, 3, none⟩ = some (.int .i64 a0_3) ∧ w'.cell? ⟨gb109, 4, none⟩ = some (.int .i64 a0_4) ∧ w'.cell? ⟨gb109, 5, none⟩ = some (.int .i64 a0_5) ∧ w'.cell? ⟨gb109, 6, none⟩ = some (.int .i64 a0_6) ∧ w'.cell? ⟨gb109, 7, none⟩ = some (.int .i64 a0_7) ∧ w'.cell? ⟨gb109, 8, none⟩ = some (.int .i64 a0_8) ∧ w'.cell? ⟨gb109, 9, none⟩ = some (.int .i64 a0_9) ∧ w'.cell? ⟨gb109, 10, none⟩ = some (.int .i64 a0_10) ∧ w'.cell? ⟨gb109, 11, none⟩ = some (.string a0_11) ∧ w'.cell? ⟨gb109, 12, none⟩ = some (.string a0_12) ∧ w'.cell? ⟨gb109, 13, none⟩ = some (.string a0_13)) (ds := []) #[false, false, false, false, false, false, false, false, false, false, false, false, false, false, false, false, false, false, false, false, false] (by kernel_rfl) rfl rfl ⟨pxkQ3_ BK109 0, pxkQ3_ BK109 1, pxkQ3_ BK109 2, pxkQ3_ BK109 3, pxkQ3_ BK109 4, pxkQ3_ BK109 5, pxkQ3_ BK109 6, pxkQ3_ BK109 7, pxkQ3_ BK109 8, pxkQ3_ BK109 9, pxkQ3_ BK109 10, pxkQ3_ BK109 11, pxkQ3_ BK109 12, pxkQ3_ BK109 13⟩ (fun hHeld => ?_); refine with_tabW wire_Msg.tab1 wire_Msg.bits1 (fun HT_ HW_ => ?_)
      generalize w7.drew = w8 at BK109 HB hHeld ⊢
      refine pure_ (i := 0) (N := some 3) (v := ?_) (a' := ?_) #[true, false, false, false, false, false, false, false, false, false, false, false, false, false, false, false, false, false, false, false, false] rfl rfl (any_of HT_.out (by kernel_rfl)) (fun _ _ _ h => h) (Or.inl ⟨by rfl, ?_⟩) ?_ ?_
      rotate_left
      · intro w'
        go_simp
        with_reducible rfl
      rotate_left
      · simp only [Act.put, List.setIfInBounds_toArray, List.set_cons_zero, List.set_cons_succ, i64_w, i32_w]
        rfl
      refine pure_ (i := 2) (N := some 5) (v := ?_) (a' := ?_) #[true, false, true, false, false, false, false, false, false, false, false, false, false, false, false, false, false, false, false, false, false] rfl rfl (any_of HT_.out (by kernel_rfl)) (fun _ _ _ h => h) (Or.inl ⟨by rfl, ?_⟩) ?_ ?_
      rotate_left
      · intro w'
        go_simp
        with_reducible rfl
      rotate_left
      · simp only [Act.put, List.setIfInBounds_toArray, List.set_cons_zero, List.set_cons_succ, i64_w, i32_w]
        rfl
      refine pure_ (i := 4) (N := some 7) (v := ?_) (a' := ?_) #[true, false, true, false, true, false, false, false, false, false, false, false, false, false, false, false, false, false, false, false, false] rfl rfl (any_of HT_.out (by kernel_rfl)) (fun _ _ _ h => h) (Or.inl ⟨by rfl, ?_⟩) ?_ ?_
      rotate_left
      · intro w'
        go_simp
        with_reducible rfl
      rotate_left
      · simp only [Act.put, List.setIfInBounds_toArray, List.set_cons_zero, List.set_cons_succ, i64_w, i32_w]
        rfl
      refine pure_ (i := 6) (N := some 9) (v := ?_) (a' := ?_) #[true, false, true, false, true, false, true, false, false, false, false, false, false, false, false, false, false, false, false, false, false] rfl rfl (any_of HT_.out (by kernel_rfl)) (fun _ _ _ h => h) (Or.inl ⟨by rfl, ?_⟩) ?_ ?_
      rotate_left
      · intro w'
        go_simp
        with_reducible rfl
      rotate_left
      · simp only [Act.put, List.setIfInBounds_toArray, List.set_cons_zero, List.set_cons_succ, i64_w, i32_w]
        rfl
      refine pure_ (i := 8) (N := some 11) (v := ?_) (a' := ?_) #[true, false, true, false, true, false, true, false, true, false, false, false, false, false, false, false, false, false, false, false, false] rfl rfl (any_of HT_.out (by kernel_rfl)) (fun _ _ _ h => h) (Or.inl ⟨by rfl, ?_⟩) ?_ ?_
      rotate_left
      · intro w'
        go_simp
        with_reducible rfl
      rotate_left
      · simp only [Act.put, List.setIfInBounds_toArray, List.set_cons_zero, List.set_cons_succ, i64_w, i32_w]
        rfl
      refine pure_ (i := 10) (N := some 13) (v := ?_) (a' := ?_) #[true, false, true, false, true, false, true, false, true, false, true, false, false, false, false, false, false, false, false, false, false] rfl rfl (any_of HT_.out (by kernel_rfl)) (fun _ _ _ h => h) (Or.inl ⟨by rfl, ?_⟩) ?_ ?_
      rotate_left
      · intro w'
        go_simp
        with_reducible rfl
      rotate_left
      · simp only [Act.put, List.setIfInBounds_toArray, List.set_cons_zero, List.set_cons_succ, i64_w, i32_w]
        rfl
      refine pure_ (i := 15) (N := some 18) (v := ?_) (a' := ?_) #[true, false, true, false, true, false, true, false, true, false, true, false, false, false, false, true, false, false, false, false, false] rfl rfl (any_of HT_.out (by kernel_rfl)) (fun _ _ _ h => h) (Or.inl ⟨by rfl, ?_⟩) ?_ ?_
      rotate_left
      · intro w'
        go_simp
        with_reducible rfl
      rotate_left
      · simp only [Act.put, List.setIfInBounds_toArray, List.set_cons_zero, List.set_cons_succ, i64_w, i32_w]
        rfl
      refine take_ (i := 1) (N := some 4) (v := ?_) (a' := ?_) #[true, true, true, false, true, false, true, false, true, false, true, false, false, false, false, true, false, false, false, false, false] rfl rfl (take_ofW HT_.out HW_.out (by kernel_rfl)) (fun _ _ _ h => h) (Or.inl ⟨by rfl, ?_⟩) hHeld ?_ ?_
      rotate_left
      · rintro w' ⟨s0, s1, s2, s3, s4, s5, s6, s7, s8, s9, s10, s11, s12, s13⟩
        go_simp
        with_reducible rfl
      rotate_left
      · simp only [Act.put, List.setIfInBounds_toArray, List.set_cons_zero, List.set_cons_succ, i64_w, i32_w]
        rfl
      refine take_ (i := 3) (N := some 6) (v := ?_) (a' := ?_) #[true, true, true, true, true, false, true, false, true, false, true, false, false, false, false, true, false, false, false, false, false] rfl rfl (take_ofW HT_.out HW_.out (by kernel_rfl)) (fun _ _ _ h => h) (Or.inl ⟨by rfl, ?_⟩) hHeld ?_ ?_
      rotate_left
      · rintro w' ⟨s0, s1, s2, s3, s4, s5, s6, s7, s8, s9, s10, s11, s12, s13⟩
        go_simp
        with_reducible rfl
      rotate_left
      · simp only [Act.put, List.setIfInBounds_toArray, List.set_cons_zero, List.set_cons_succ, i64_w, i32_w]
        rfl
      refine take_ (i := 5) (N := some 8) (v := ?_) (a' := ?_) #[true, true, true, true, true, true, true, false, true, false, true, false, false, false, false, true, false, false, false, false, false] rfl rfl (take_ofW HT_.out HW_.out (by kernel_rfl)) (fun _ _ _ h => h) (Or.inl ⟨by rfl, ?_⟩) hHeld ?_ ?_
      rotate_left
      · rintro w' ⟨s0, s1, s2, s3, s4, s5, s6, s7, s8, s9, s10, s11, s12, s13⟩
        go_simp
        with_reducible rfl
      rotate_left
      · simp only [Act.put, List.setIfInBounds_toArray, List.set_cons_zero, List.set_cons_succ, i64_w, i32_w]
        rfl
      refine take_ (i := 7) (N := some 10) (v := ?_) (a' := ?_) #[true, true, true, true, true, true, true, true, true, false, true, false, false, false, false, true, false, false, false, false, false] rfl rfl (take_ofW HT_.out HW_.out (by kernel_rfl)) (fun _ _ _ h => h) (Or.inl ⟨by rfl, ?_⟩) hHeld ?_ ?_
      rotate_left
      · rintro w' ⟨s0, s1, s2, s3, s4, s5, s6, s7, s8, s9, s10, s11, s12, s13⟩
        go_simp
        with_reducible rfl
      rotate_left
      · simp only [Act.put, List.setIfInBounds_toArray, List.set_cons_zero, List.set_cons_succ, i64_w, i32_w]
        rfl
      refine take_ (i := 9) (N := some 12) (v := ?_) (a' := ?_) #[true, true, true, true, true, true, true, true, true, true, true, false, false, false, false, true, false, false, false, false, false] rfl rfl (take_ofW HT_.out HW_.out (by kernel_rfl)) (fun _ _ _ h => h) (Or.inl ⟨by rfl, ?_⟩) hHeld ?_ ?_
      rotate_left
      · rintro w' ⟨s0, s1, s2, s3, s4, s5, s6, s7, s8, s9, s10, s11, s12, s13⟩
        go_simp
        with_reducible rfl
      rotate_left
      · simp only [Act.put, List.setIfInBounds_toArray, List.set_cons_zero, List.set_cons_succ, i64_w, i32_w]
        rfl
      refine take_ (i := 11) (N := some 14) (v := ?_) (a' := ?_) #[true, true, true, true, true, true, true, true, true, true, true, true, false, false, false, true, false, false, false, false, false] rfl rfl (take_ofW HT_.out HW_.out (by kernel_rfl)) (fun _ _ _ h => h) (Or.inl ⟨by rfl, ?_⟩) hHeld ?_ ?_
      rotate_left
      · rintro w' ⟨s0, s1, s2, s3, s4, s5, s6, s7, s8, s9, s10, s11, s12, s13⟩
        go_simp
        with_reducible rfl
      rotate_left
      · simp only [Act.put, List.setIfInBounds_toArray, List.set_cons_zero, List.set_cons_succ, i64_w, i32_w]
        rfl
      refine take_ (i := 16) (N := some 19) (v := ?_) (a' := ?_) #[true, true, true, true, true, true, true, true, true, true, true, true, false, false, false, true, true, false, false, false, false] rfl rfl (take_ofW HT_.out HW_.out (by kernel_rfl)) (fun _ _ _ h => h) (Or.inl ⟨by rfl, ?_⟩) hHeld ?_ ?_
      rotate_left
      · rintro w' ⟨s0, s1, s2, s3, s4, s5, s6, s7, s8, s9, s10, s11, s12, s13⟩
        go_simp
        with_reducible rfl
      rotate_left
      · simp only [Act.put, List.setIfInBounds_toArray, List.set_cons_zero, List.set_cons_succ, i64_w, i32_w]
        rfl
      refine one_ (i := 12) (N := some 15) #[true, true, true, true, true, true, true, true, true, true, true, true, true, false, false, true, true, false, false, false, false] rfl rfl (one_of HT_.out (by kernel_rfl)) (by decide) (fun K hK => ?_)
      refine Kd.R_lit_step (Kd.int .i64) _ 3 ?hg (N := 15) ?hd (xs := ([a0_0, a0_1, a0_2, a0_3, a0_4, a0_5] : List Int)) (inner := [.int .i64 a0_0, .int .i64 a0_1, .int .i64 a0_2, .int .i64 a0_3, .int .i64 a0_4, .int .i64 a0_5]) (ok := fun _ => True) (okp := fun _ => True) ?hr ?hp (fun _ hk => hk) trivial (Below.refl _ _) (Nat.le_refl _) (by simp) ?_; (case hd => rfl); (case hg => rfl); (case hr => first | (go_simp; done) | (go_simp; rfl)); (case hp => exact (Reps.one (show Kd.M (Kd.int .i64) _ _ _ a0_0 [.int .i64 a0_0] from rfl) (Reps.one (show Kd.M (Kd.int .i64) _ _ _ a0_1 [.int .i64 a0_1] from rfl) (Reps.one (show Kd.M (Kd.int .i64) _ _ _ a0_2 [.int .i64 a0_2] from rfl) (Reps.one (show Kd.M (Kd.int .i64) _ _ _ a0_3 [.int .i64 a0_3] from rfl) (Reps.one (show Kd.M (Kd.int .i64) _ _ _ a0_4 [.int .i64 a0_4] from rfl) (Reps.one (show Kd.M (Kd.int .i64) _ _ _ a0_5 [.int .i64 a0_5] from rfl) (Reps.none _ _))))))))
      intro v111 w9 ho10 hb hg_ hnew_
      clear hg_ hnew_
      (first | rw [← Ny110.out] at ho10 | (simp only [Int.reduceToNat] at ho10; rw [← Ny110.out] at ho10))
      have n0_ := Aside0.mk (Kd.R_lower ho10 (below_size (by repeat (first | (with_reducible first | exact HB.out | apply below_alloc | apply pw_below_drewN | apply below_drew1 | refine below_set ?_ GE109.out) | exact HB.out))))
      pxLQ36_
      pxLQ37_
      (clear BK109; clear HB; have HO112 := n0_; have BK109 := n1_; have HB := n2_; clear n0_ n1_ n2_; clear hb ho10)
      obtain ⟨Ao11, co11, eo11⟩ := Kd.R_slice HO112.out
      (first | subst eo11 | (injection eo11 with f1_ f2_ f3_; have f4_ := f1_.symm; have f5_ := f3_.symm; clear f1_ f2_ f3_; subst f4_; subst f5_))
      pxLQ38_
      clear hK K
      refine norm_ (a' := ?_) ?_ ?_
      rotate_left
      · show Act.put _ (some 15) _ = _
        pxLQ33_
        rfl
      refine one_ (i := 13) (N := some 16) #[true, true, true, true, true, true, true, true, true, true, true, true, true, true, false, true, true, false, false, false, false] rfl rfl (one_of HT_.out (by kernel_rfl)) (by decide) (fun K hK => ?_)
      refine goes_ Try.func27 (by kernel_rfl) rfl #[.slice Ao11 y110.length co11] (by rfl) rfl rfl (by (try simp only [List.map_toArray, List.map_cons, List.map_nil]); first | done | rfl | (simp only [List.length_drop, List.length_take]; rfl)) ?_
      with_reducible refine (wire_nums.calls _ _ y110 t113 _ ?side1 ?side2 A2.out).mono ?_
      (case side1 => repeat (first | exact (Kd.R_reads' HO112.out).2.2 | (with_reducible refine Kd.C_alloc ?_ _) | (with_reducible refine Kd.C_drewN ?_ _) | (with_reducible refine Kd.C_drew ?_)))
      (case side2 => exact (Kd.R_reads' HO112.out).2.1)
      rintro e w12 ⟨rfl, hb⟩
      refine ⟨_, rfl, ?_⟩
      pxLQ39_
      pxLQ36_
      pxLQ37_
      pxLQ310_
      pxLQ38_
      clear hK K
      refine norm_ (a' := ?_) ?_ ?_
      rotate_left
      · show Act.put _ (some 16) _ = _
        pxLQ33_
        rfl
      refine pure_ (i := 14) (N := some 17) (v := ?_) (a' := ?_) #[true, true, true, true, true, true, true, true, true, true, true, true, true, true, true, true, true, false, false, false, false] rfl rfl (any_of HT_.out (by kernel_rfl)) (fun _ _ _ h => h) (Or.inl ⟨by rfl, ?_⟩) ?_ ?_
      rotate_left
      · intro w'
        go_simp
        with_reducible rfl
      rotate_left
      · simp only [Act.put, List.setIfInBounds_toArray, List.set_cons_zero, List.set_cons_succ, i64_w, i32_w]
        rfl
      refine one_ (i := 17) (N := some 20) #[true, true, true, true, true, true, true, true, true, true, true, true, true, true, true, true, true, true, false, false, false] rfl rfl (one_of HT_.out (by kernel_rfl)) (by decide) (fun K hK => ?_)
      refine goes_ Try.func12 (by kernel_rfl) rfl #[.agg #[.int .i64 a0_6, .int .i64 a0_7, .int .i64 a0_8, .int .i64 a0_9, .int .i64 a0_10, .string a0_11, .string a0_12, .string a0_13]] (by rfl) rfl rfl (by (try simp only [List.map_toArray, List.map_cons, List.map_nil]); first | done | rfl | (simp only [List.length_drop, List.length_take]; rfl)) ?_
      with_reducible refine (wire_Call.calls a0_6 a0_7 a0_8 a0_9 a0_10 a0_11 a0_12 a0_13 t114 _ A4.out).mono ?_
      rintro e w13 ⟨rfl, hb⟩
      refine ⟨_, rfl, ?_⟩
      pxLQ39_
      pxLQ36_
      pxLQ37_
      pxLQ310_
      pxLQ38_
      clear hK K
      refine norm_ (a' := ?_) ?_ ?_
      rotate_left
      · show Act.put _ (some 20) _ = _
        pxLQ33_
        rfl
      refine pure_ (i := 18) (N := some 21) (v := ?_) (a' := ?_) #[true, true, true, true, true, true, true, true, true, true, true, true, true, true, true, true, true, true, true, false, false] rfl rfl (any_of HT_.out (by kernel_rfl)) (fun _ _ _ h => h) (Or.inl ⟨by rfl, ?_⟩) ?_ ?_
      rotate_left
      · intro w'
        go_simp
        with_reducible rfl
      rotate_left
      · simp only [Act.put, List.setIfInBounds_toArray, List.set_cons_zero, List.set_cons_succ, i64_w, i32_w]
        rfl
      refine one_ (i := 19) (N := some 22) #[true, true, true, true, true, true, true, true, true, true, true, true, true, true, true, true, true, true, true, true, false] rfl rfl (one_of HT_.out (by kernel_rfl)) (by decide) (fun K hK => ?_)
      refine goes_ Try.func31 (by kernel_rfl) rfl #[.string (((⟨#[109]⟩ : ByteArray) ++ t113) ++ t114)] (by rfl) rfl rfl (by (try simp only [List.map_toArray, List.map_cons, List.map_nil]); first | done | rfl | (simp only [List.length_drop, List.length_take]; rfl)) ?_
      with_reducible refine (seal_Put.calls (((⟨#[109]⟩ : ByteArray) ++ t113) ++ t114) t115 _ A6.out).mono ?_
      rintro e w14 ⟨rfl, hb⟩
      refine ⟨_, rfl, ?_⟩
      pxLQ39_
      pxLQ36_
      pxLQ37_
      pxLQ310_
      pxLQ38_
      clear hK K
      refine norm_ (a' := ?_) ?_ ?_
      rotate_left
      · show Act.put _ (some 22) _ = _
        pxLQ33_
        rfl
      refine pure_ (i := 20) (N := some 2) (v := ?_) (a' := ?_) #[true, true, true, true, true, true, true, true, true, true, true, true, true, true, true, true, true, true, true, true, true] rfl rfl (any_of HT_.out (by kernel_rfl)) (fun _ _ _ h => h) (Or.inl ⟨by rfl, ?_⟩) ?_ ?_
      rotate_left
      · intro w'
        go_simp
        with_reducible rfl
      rotate_left
      · simp only [Act.put, List.setIfInBounds_toArray, List.set_cons_zero, List.set_cons_succ, i64_w, i32_w]
        rfl
      refine done_ (done_of HT_.out (by kernel_rfl)) ?_
      try go_wp2
      go_ret
      exact ⟨by first | rfl | (simp [errW_none, errW_some] <;> rfl) | (simp [*, errW_none, errW_some] <;> rfl), by repeat (first | (with_reducible first | exact HB.out | apply below_alloc | apply pw_below_drewN | apply below_drew1 | refine below_set ?_ GE109.out) | exact HB.out)⟩
    · rw [if_neg c5] at H
      exact absurd H (by simp)
  · rw [if_neg c3] at H
    exact absurd H (by simp)

-- GIVEN: function 23 (wire_TakeMsg): its Lean function and its contract stand in a text of this session's

/-! ### copyholdlaw15_shown: function 10 -/
def copyholdlaw15_shown.f  : Option (Bool) := (wire_Msg.f 2 3 0 0 0 0 0 0 0 0 0 (⟨#[]⟩ : ByteArray) (⟨#[]⟩ : ByteArray) (⟨#[]⟩ : ByteArray)).bind fun t116 => ((wire_TakeMsg.f t116).bind fun bt117 => ((wire_Call.f 0 0 0 0 0 (⟨#[]⟩ : ByteArray) (⟨#[]⟩ : ByteArray) (⟨#[]⟩ : ByteArray)).bind fun t133 => (if t133.toList = ([0, 0, 0, 0, 0, 0, 0, 0] : List UInt8) then (if bt117.2.2.2.2.2.2.2.2.2.2.2.2.2.2 = 0 then (if bt117.1 = 2 then (some (bt117.2.1 == 3)) else (some false)) else (some false)) else (some false))))
set_option maxHeartbeats 8000000 in
set_option maxRecDepth 100000 in
theorem copyholdlaw15_shown.calls  (r : Bool) (w : World) (h : copyholdlaw15_shown.f  = some r) :
    Calls Try.prog 10 #[] w fun e w' => e = .returned (.bool r) ∧ Below w.heap.size w w' := by
  have hu32 := Try.underlying32
  have hu23 := Try.underlying23
  have HB := Aside0.mk (Below.refl w.heap.size w)
  have H : ((wire_Msg.f 2 3 0 0 0 0 0 0 0 0 0 (⟨#[]⟩ : ByteArray) (⟨#[]⟩ : ByteArray) (⟨#[]⟩ : ByteArray)).bind fun t116 => ((wire_TakeMsg.f t116).bind fun bt117 => ((wire_Call.f 0 0 0 0 0 (⟨#[]⟩ : ByteArray) (⟨#[]⟩ : ByteArray) (⟨#[]⟩ : ByteArray)).bind fun t133 => (if t133.toList = ([0, 0, 0, 0, 0, 0, 0, 0] : List UInt8) then (if bt117.2.2.2.2.2.2.2.2.2.2.2.2.2.2 = 0 then (if bt117.1 = 2 then (some (bt117.2.1 == 3)) else (some false)) else (some false)) else (some false))))) = some r := h
  clear h
  replace H := Option.bind_eq_some_iff.mp H
  obtain ⟨t116, A10, H⟩ := H
  replace H : ((wire_TakeMsg.f t116).bind fun bt117 => ((wire_Call.f 0 0 0 0 0 (⟨#[]⟩ : ByteArray) (⟨#[]⟩ : ByteArray) (⟨#[]⟩ : ByteArray)).bind fun t133 => (if t133.toList = ([0, 0, 0, 0, 0, 0, 0, 0] : List UInt8) then (if bt117.2.2.2.2.2.2.2.2.2.2.2.2.2.2 = 0 then (if bt117.1 = 2 then (some (bt117.2.1 == 3)) else (some false)) else (some false)) else (some false)))) = some r := H
  have A1 := Aside0.mk A10
  clear A10
  replace H := Option.bind_eq_some_iff.mp H
  obtain ⟨⟨t117, t118, t119, t120, t121, t122, t123, t124, t125, t126, t127, t128, t129, t130, t131⟩, A20, H⟩ := H
  replace H : ((wire_Call.f 0 0 0 0 0 (⟨#[]⟩ : ByteArray) (⟨#[]⟩ : ByteArray) (⟨#[]⟩ : ByteArray)).bind fun t133 => (if t133.toList = ([0, 0, 0, 0, 0, 0, 0, 0] : List UInt8) then (if t131 = 0 then (if t117 = 2 then (some (t118 == 3)) else (some false)) else (some false)) else (some false))) = some r := H
  have A2 := Aside0.mk A20
  clear A20
  replace H := Option.bind_eq_some_iff.mp H
  obtain ⟨t133, A30, H⟩ := H
  replace H : (if t133.toList = ([0, 0, 0, 0, 0, 0, 0, 0] : List UInt8) then (if t131 = 0 then (if t117 = 2 then (some (t118 == 3)) else (some false)) else (some false)) else (some false)) = some r := H
  have A3 := Aside0.mk A30
  clear A30
  by_cases c4 : t133.toList = ([0, 0, 0, 0, 0, 0, 0, 0] : List UInt8)
  · rw [if_pos c4] at H
    have c4b0 : (t133.toList == ([0, 0, 0, 0, 0, 0, 0, 0] : List UInt8)) = true := beq_iff_eq.mpr c4
    have c4b1 : (t133.toList != ([0, 0, 0, 0, 0, 0, 0, 0] : List UInt8)) = false := bne_eq_false_iff_eq.mpr c4
    clear c4
    by_cases c5 : t131 = 0
    · rw [if_pos c5] at H
      have c5b0 : (t131 == 0) = true := beq_iff_eq.mpr c5
      have c5b1 : (t131 != 0) = false := bne_eq_false_iff_eq.mpr c5
      clear c5
      by_cases c6 : t117 = 2
      · rw [if_pos c6] at H
        have c6b0 : (t117 == 2) = true := beq_iff_eq.mpr c6
        have c6b1 : (t117 != 2) = false := bne_eq_false_iff_eq.mpr c6
        clear c6
        obtain rfl := Option.some.inj H
        go_enter Try.func10, Try.ntmps10
        go_wp2_with (first | ((with_reducible refine gate_callee (f := 15) rfl ?_); refine goesL_ (some 5) rfl rfl Try.func15 (by kernel_rfl) rfl pxAQ310_ rfl (by (try simp only [List.map_toArray, List.map_cons, List.map_nil]); first | done | rfl | (simp only [List.length_drop, List.length_take]; rfl)) ?_; (with_reducible refine (wire_Msg.calls 2 3 0 0 0 0 0 0 0 0 0 (⟨#[]⟩ : ByteArray) (⟨#[]⟩ : ByteArray) (⟨#[]⟩ : ByteArray) t116 _ A1.out).mono ?_); rintro e w7 ⟨rfl, hb⟩; refine ⟨_, rfl, ?_⟩; have n0_ := Aside0.mk (below_step (by repeat (first | (with_reducible first | exact HB.out | apply below_alloc | apply pw_below_drewN | apply below_drew1) | exact HB.out)) hb); clear HB; have HB := n0_; clear n0_; (try clear hb); (try clear hb2); (try clear hk); (try clear hi)) | ((with_reducible refine gate_callee (f := 23) rfl ?_); refine goesL_ (some 6) rfl rfl Try.func23 (by kernel_rfl) rfl #[.string t116] rfl (by (try simp only [List.map_toArray, List.map_cons, List.map_nil]); first | done | rfl | (simp only [List.length_drop, List.length_take]; rfl)) ?_; (with_reducible refine (wire_TakeMsg.calls t116 t117 t118 t119 t120 t121 t122 t123 t124 t125 t126 t127 t128 t129 t130 t131 _ A2.out).mono ?_); rintro e w8 ⟨rfl, hb⟩; refine ⟨_, rfl, ?_⟩; have n0_ := Aside0.mk (below_step (by repeat (first | (with_reducible first | exact HB.out | apply below_alloc | apply pw_below_drewN | apply below_drew1) | exact HB.out)) hb); clear HB; have HB := n0_; clear n0_; (try clear hb); (try clear hb2); (try clear hk); (try clear hi)) | ((with_reducible refine gate_dst (N := 1) rfl ?_); refine box_event ?hg (N := 1) ?hd (cs := pxAQ315_) (t := 32) ?hr ?_; (case hd => rfl); (case hg => rfl); (case hr => first | (go_simp; done) | (go_simp; rfl)); intro gb132 hg w9 hbox hb; have n0_ := Aside0.mk (below_step (by repeat (first | (with_reducible first | exact HB.out | apply below_alloc | apply pw_below_drewN | apply below_drew1) | exact HB.out)) hb); have n1_ := Aside0.mk (hbox); have n2_ := Aside0.mk ((by rw [hg]; exact (below_size (by repeat (first | (with_reducible first | exact HB.out | apply below_alloc | apply pw_below_drewN | apply below_drew1) | exact HB.out))) : w.heap.size ≤ gb132)); have n3_ := Aside0.mk ((by rw [hg]; exact (below_size (by repeat (first | (with_reducible first | exact HB.out | apply below_alloc | apply pw_below_drewN | apply below_drew1) | exact HB.out))) : w.heap.size ≤ gb132)); clear HB; have HB := n0_; have BK132 := n1_; have GW132 := n2_; have GE132 := n3_; clear n0_ n1_ n2_ n3_; clear hb hbox hg; pxhQ3_ hcz10_0 w9 gb132 0 (.int .i64 0) BK132; pxhQ3_ hcz10_1 w9 gb132 1 (.int .i64 0) BK132; pxhQ3_ hcz10_2 w9 gb132 2 (.int .i64 0) BK132; pxhQ3_ hcz10_3 w9 gb132 3 (.int .i64 0) BK132; pxhQ3_ hcz10_4 w9 gb132 4 (.int .i64 0) BK132; pxhQ3_ hcz10_5 w9 gb132 5 (.int .i64 0) BK132; pxhQ3_ hcz10_6 w9 gb132 6 (.int .i64 0) BK132; pxhQ3_ hcz10_7 w9 gb132 7 (.int .i64 0) BK132; pxhQ3_ hcz10_8 w9 gb132 8 (.int .i64 0) BK132; pxhQ3_ hcz10_9 w9 gb132 9 (.int .i64 0) BK132; pxhQ3_ hcz10_10 w9 gb132 10 (.int .i64 0) BK132; pxhQ3_ hcz10_11 w9 gb132 11 (.string (⟨#[]⟩ : ByteArray)) BK132; pxhQ3_ hcz10_12 w9 gb132 12 (.string (⟨#[]⟩ : ByteArray)) BK132; pxhQ3_ hcz10_13 w9 gb132 13 (.string (⟨#[]⟩ : ByteArray)) BK132; pxfQ3_ hfz10_0 BK132 0; pxfQ3_ hfz10_1 BK132 1; pxfQ3_ hfz10_2 BK132 2; pxfQ3_ hfz10_3 BK132 3; pxfQ3_ hfz10_4 BK132 4; pxfQ3_ hfz10_5 BK132 5; pxfQ3_ hfz10_6 BK132 6; pxfQ3_ hfz10_7 BK132 7; pxfQ3_ hfz10_8 BK132 8; pxfQ3_ hfz10_9 BK132 9; pxfQ3_ hfz10_10 BK132 10; pxfQ3_ hfz10_11 BK132 11; pxfQ3_ hfz10_12 BK132 12; pxfQ3_ hfz10_13 BK132 13) | ((with_reducible refine gate_callee (f := 12) rfl ?_); refine goesL_ (some 10) rfl rfl Try.func12 (by kernel_rfl) rfl pxAQ318_ rfl (by (try simp only [List.map_toArray, List.map_cons, List.map_nil]); first | done | rfl | (simp only [List.length_drop, List.length_take]; rfl)) ?_; (with_reducible refine (wire_Call.calls 0 0 0 0 0 (⟨#[]⟩ : ByteArray) (⟨#[]⟩ : ByteArray) (⟨#[]⟩ : ByteArray) t133 _ A3.out).mono ?_); rintro e w11 ⟨rfl, hb⟩; refine ⟨_, rfl, ?_⟩; have n0_ := Aside0.mk (blk_below (g := gb132) (o := .cells pxAQ317_ 32 (0, 0)) (by (with_reducible repeat (first | refine blk_drewN ?_ _ | refine blk_drew ?_ | refine blk_alloc ?_ _)); refine blk_put (cs := pxAQ312_) ?_ 13 _ rfl; (with_reducible repeat (first | refine blk_drewN ?_ _ | refine blk_drew ?_ | refine blk_alloc ?_ _)); refine blk_put (cs := pxAQ35_) ?_ 12 _ rfl; (with_reducible repeat (first | refine blk_drewN ?_ _ | refine blk_drew ?_ | refine blk_alloc ?_ _)); refine blk_put (cs := pxAQ30_) ?_ 11 _ rfl; (with_reducible repeat (first | refine blk_drewN ?_ _ | refine blk_drew ?_ | refine blk_alloc ?_ _)); refine blk_put (cs := pxAQ31_) ?_ 10 _ rfl; (with_reducible repeat (first | refine blk_drewN ?_ _ | refine blk_drew ?_ | refine blk_alloc ?_ _)); refine blk_put (cs := pxAQ32_) ?_ 9 _ rfl; (with_reducible repeat (first | refine blk_drewN ?_ _ | refine blk_drew ?_ | refine blk_alloc ?_ _)); refine blk_put (cs := pxAQ33_) ?_ 8 _ rfl; (with_reducible repeat (first | refine blk_drewN ?_ _ | refine blk_drew ?_ | refine blk_alloc ?_ _)); refine blk_put (cs := pxAQ34_) ?_ 7 _ rfl; (with_reducible repeat (first | refine blk_drewN ?_ _ | refine blk_drew ?_ | refine blk_alloc ?_ _)); refine blk_put (cs := pxAQ36_) ?_ 6 _ rfl; (with_reducible repeat (first | refine blk_drewN ?_ _ | refine blk_drew ?_ | refine blk_alloc ?_ _)); refine blk_put (cs := pxAQ37_) ?_ 5 _ rfl; (with_reducible repeat (first | refine blk_drewN ?_ _ | refine blk_drew ?_ | refine blk_alloc ?_ _)); refine blk_put (cs := pxAQ38_) ?_ 4 _ rfl; (with_reducible repeat (first | refine blk_drewN ?_ _ | refine blk_drew ?_ | refine blk_alloc ?_ _)); refine blk_put (cs := pxAQ39_) ?_ 3 _ rfl; (with_reducible repeat (first | refine blk_drewN ?_ _ | refine blk_drew ?_ | refine blk_alloc ?_ _)); refine blk_put (cs := pxAQ311_) ?_ 2 _ rfl; (with_reducible repeat (first | refine blk_drewN ?_ _ | refine blk_drew ?_ | refine blk_alloc ?_ _)); refine blk_put (cs := pxAQ313_) ?_ 1 _ rfl; (with_reducible repeat (first | refine blk_drewN ?_ _ | refine blk_drew ?_ | refine blk_alloc ?_ _)); refine blk_put (cs := pxAQ315_) ?_ 0 _ rfl; (with_reducible repeat (first | refine blk_drewN ?_ _ | refine blk_drew ?_ | refine blk_alloc ?_ _)); exact BK132.out) hb); have n1_ := Aside0.mk (below_step (by repeat (first | (with_reducible first | exact HB.out | apply below_alloc | apply pw_below_drewN | apply below_drew1 | refine below_set ?_ GE132.out) | exact HB.out)) hb); clear BK132; clear HB; have BK132 := n0_; have HB := n1_; clear n0_ n1_; (try clear hb); (try clear hb2); (try clear hk); (try clear hi); pxhQ3_ hcz12_0 w11 gb132 0 (.int .i64 t117) BK132; pxhQ3_ hcz12_1 w11 gb132 1 (.int .i64 t118) BK132; pxhQ3_ hcz12_2 w11 gb132 2 (.int .i64 t119) BK132; pxhQ3_ hcz12_3 w11 gb132 3 (.int .i64 t120) BK132; pxhQ3_ hcz12_4 w11 gb132 4 (.int .i64 t121) BK132; pxhQ3_ hcz12_5 w11 gb132 5 (.int .i64 t122) BK132; pxhQ3_ hcz12_6 w11 gb132 6 (.int .i64 t123) BK132; pxhQ3_ hcz12_7 w11 gb132 7 (.int .i64 t124) BK132; pxhQ3_ hcz12_8 w11 gb132 8 (.int .i64 t125) BK132; pxhQ3_ hcz12_9 w11 gb132 9 (.int .i64 t126) BK132; pxhQ3_ hcz12_10 w11 gb132 10 (.int .i64 t127) BK132; pxhQ3_ hcz12_11 w11 gb132 11 (.string t128) BK132; pxhQ3_ hcz12_12 w11 gb132 12 (.string t129) BK132; pxhQ3_ hcz12_13 w11 gb132 13 (.string t130) BK132; pxfQ3_ hfz12_0 BK132 0; pxfQ3_ hfz12_1 BK132 1; pxfQ3_ hfz12_2 BK132 2; pxfQ3_ hfz12_3 BK132 3; pxfQ3_ hfz12_4 BK132 4; pxfQ3_ hfz12_5 BK132 5; pxfQ3_ hfz12_6 BK132 6; pxfQ3_ hfz12_7 BK132 7; pxfQ3_ hfz12_8 BK132 8; pxfQ3_ hfz12_9 BK132 9; pxfQ3_ hfz12_10 BK132 10; pxfQ3_ hfz12_11 BK132 11; pxfQ3_ hfz12_12 BK132 12; pxfQ3_ hfz12_13 BK132 13))
        go_ret
        pxLQ311_
      · rw [if_neg c6] at H
        have c6b0 : (t117 == 2) = false := beq_eq_false_iff_ne.mpr c6
        have c6b1 : (t117 != 2) = true := bne_iff_ne.mpr c6
        obtain rfl := Option.some.inj H
        go_enter Try.func10, Try.ntmps10
        go_wp2_with (first | ((with_reducible refine gate_callee (f := 15) rfl ?_); refine goesL_ (some 5) rfl rfl Try.func15 (by kernel_rfl) rfl pxAQ310_ rfl (by (try simp only [List.map_toArray, List.map_cons, List.map_nil]); first | done | rfl | (simp only [List.length_drop, List.length_take]; rfl)) ?_; (with_reducible refine (wire_Msg.calls 2 3 0 0 0 0 0 0 0 0 0 (⟨#[]⟩ : ByteArray) (⟨#[]⟩ : ByteArray) (⟨#[]⟩ : ByteArray) t116 _ A1.out).mono ?_); rintro e w13 ⟨rfl, hb⟩; refine ⟨_, rfl, ?_⟩; have n0_ := Aside0.mk (below_step (by repeat (first | (with_reducible first | exact HB.out | apply below_alloc | apply pw_below_drewN | apply below_drew1) | exact HB.out)) hb); clear HB; have HB := n0_; clear n0_; (try clear hb); (try clear hb2); (try clear hk); (try clear hi)) | ((with_reducible refine gate_callee (f := 23) rfl ?_); refine goesL_ (some 6) rfl rfl Try.func23 (by kernel_rfl) rfl #[.string t116] rfl (by (try simp only [List.map_toArray, List.map_cons, List.map_nil]); first | done | rfl | (simp only [List.length_drop, List.length_take]; rfl)) ?_; (with_reducible refine (wire_TakeMsg.calls t116 t117 t118 t119 t120 t121 t122 t123 t124 t125 t126 t127 t128 t129 t130 t131 _ A2.out).mono ?_); rintro e w14 ⟨rfl, hb⟩; refine ⟨_, rfl, ?_⟩; have n0_ := Aside0.mk (below_step (by repeat (first | (with_reducible first | exact HB.out | apply below_alloc | apply pw_below_drewN | apply below_drew1) | exact HB.out)) hb); clear HB; have HB := n0_; clear n0_; (try clear hb); (try clear hb2); (try clear hk); (try clear hi)) | ((with_reducible refine gate_dst (N := 1) rfl ?_); refine box_event ?hg (N := 1) ?hd (cs := pxAQ315_) (t := 32) ?hr ?_; (case hd => rfl); (case hg => rfl); (case hr => first | (go_simp; done) | (go_simp; rfl)); intro gb132 hg w15 hbox hb; have n0_ := Aside0.mk (below_step (by repeat (first | (with_reducible first | exact HB.out | apply below_alloc | apply pw_below_drewN | apply below_drew1) | exact HB.out)) hb); have n1_ := Aside0.mk (hbox); have n2_ := Aside0.mk ((by rw [hg]; exact (below_size (by repeat (first | (with_reducible first | exact HB.out | apply below_alloc | apply pw_below_drewN | apply below_drew1) | exact HB.out))) : w.heap.size ≤ gb132)); have n3_ := Aside0.mk ((by rw [hg]; exact (below_size (by repeat (first | (with_reducible first | exact HB.out | apply below_alloc | apply pw_below_drewN | apply below_drew1) | exact HB.out))) : w.heap.size ≤ gb132)); clear HB; have HB := n0_; have BK132 := n1_; have GW132 := n2_; have GE132 := n3_; clear n0_ n1_ n2_ n3_; clear hb hbox hg; pxhQ3_ hcz16_0 w15 gb132 0 (.int .i64 0) BK132; pxhQ3_ hcz16_1 w15 gb132 1 (.int .i64 0) BK132; pxhQ3_ hcz16_2 w15 gb132 2 (.int .i64 0) BK132; pxhQ3_ hcz16_3 w15 gb132 3 (.int .i64 0) BK132; pxhQ3_ hcz16_4 w15 gb132 4 (.int .i64 0) BK132; pxhQ3_ hcz16_5 w15 gb132 5 (.int .i64 0) BK132; pxhQ3_ hcz16_6 w15 gb132 6 (.int .i64 0) BK132; pxhQ3_ hcz16_7 w15 gb132 7 (.int .i64 0) BK132; pxhQ3_ hcz16_8 w15 gb132 8 (.int .i64 0) BK132; pxhQ3_ hcz16_9 w15 gb132 9 (.int .i64 0) BK132; pxhQ3_ hcz16_10 w15 gb132 10 (.int .i64 0) BK132; pxhQ3_ hcz16_11 w15 gb132 11 (.string (⟨#[]⟩ : ByteArray)) BK132; pxhQ3_ hcz16_12 w15 gb132 12 (.string (⟨#[]⟩ : ByteArray)) BK132; pxhQ3_ hcz16_13 w15 gb132 13 (.string (⟨#[]⟩ : ByteArray)) BK132; pxfQ3_ hfz16_0 BK132 0; pxfQ3_ hfz16_1 BK132 1; pxfQ3_ hfz16_2 BK132 2; pxfQ3_ hfz16_3 BK132 3; pxfQ3_ hfz16_4 BK132 4; pxfQ3_ hfz16_5 BK132 5; pxfQ3_ hfz16_6 BK132 6; pxfQ3_ hfz16_7 BK132 7; pxfQ3_ hfz16_8 BK132 8; pxfQ3_ hfz16_9 BK132 9; pxfQ3_ hfz16_10 BK132 10; pxfQ3_ hfz16_11 BK132 11; pxfQ3_ hfz16_12 BK132 12; pxfQ3_ hfz16_13 BK132 13) | ((with_reducible refine gate_callee (f := 12) rfl ?_); refine goesL_ (some 10) rfl rfl Try.func12 (by kernel_rfl) rfl pxAQ318_ rfl (by (try simp only [List.map_toArray, List.map_cons, List.map_nil]); first | done | rfl | (simp only [List.length_drop, List.length_take]; rfl)) ?_; (with_reducible refine (wire_Call.calls 0 0 0 0 0 (⟨#[]⟩ : ByteArray) (⟨#[]⟩ : ByteArray) (⟨#[]⟩ : ByteArray) t133 _ A3.out).mono ?_); rintro e w17 ⟨rfl, hb⟩; refine ⟨_, rfl, ?_⟩; have n0_ := Aside0.mk (blk_below (g := gb132) (o := .cells pxAQ317_ 32 (0, 0)) (by (with_reducible repeat (first | refine blk_drewN ?_ _ | refine blk_drew ?_ | refine blk_alloc ?_ _)); refine blk_put (cs := pxAQ312_) ?_ 13 _ rfl; (with_reducible repeat (first | refine blk_drewN ?_ _ | refine blk_drew ?_ | refine blk_alloc ?_ _)); refine blk_put (cs := pxAQ35_) ?_ 12 _ rfl; (with_reducible repeat (first | refine blk_drewN ?_ _ | refine blk_drew ?_ | refine blk_alloc ?_ _)); refine blk_put (cs := pxAQ30_) ?_ 11 _ rfl; (with_reducible repeat (first | refine blk_drewN ?_ _ | refine blk_drew ?_ | refine blk_alloc ?_ _)); refine blk_put (cs := pxAQ31_) ?_ 10 _ rfl; (with_reducible repeat (first | refine blk_drewN ?_ _ | refine blk_drew ?_ | refine blk_alloc ?_ _)); refine blk_put (cs := pxAQ32_) ?_ 9 _ rfl; (with_reducible repeat (first | refine blk_drewN ?_ _ | refine blk_drew ?_ | refine blk_alloc ?_ _)); refine blk_put (cs := pxAQ33_) ?_ 8 _ rfl; (with_reducible repeat (first | refine blk_drewN ?_ _ | refine blk_drew ?_ | refine blk_alloc ?_ _)); refine blk_put (cs := pxAQ34_) ?_ 7 _ rfl; (with_reducible repeat (first | refine blk_drewN ?_ _ | refine blk_drew ?_ | refine blk_alloc ?_ _)); refine blk_put (cs := pxAQ36_) ?_ 6 _ rfl; (with_reducible repeat (first | refine blk_drewN ?_ _ | refine blk_drew ?_ | refine blk_alloc ?_ _)); refine blk_put (cs := pxAQ37_) ?_ 5 _ rfl; (with_reducible repeat (first | refine blk_drewN ?_ _ | refine blk_drew ?_ | refine blk_alloc ?_ _)); refine blk_put (cs := pxAQ38_) ?_ 4 _ rfl; (with_reducible repeat (first | refine blk_drewN ?_ _ | refine blk_drew ?_ | refine blk_alloc ?_ _)); refine blk_put (cs := pxAQ39_) ?_ 3 _ rfl; (with_reducible repeat (first | refine blk_drewN ?_ _ | refine blk_drew ?_ | refine blk_alloc ?_ _)); refine blk_put (cs := pxAQ311_) ?_ 2 _ rfl; (with_reducible repeat (first | refine blk_drewN ?_ _ | refine blk_drew ?_ | refine blk_alloc ?_ _)); refine blk_put (cs := pxAQ313_) ?_ 1 _ rfl; (with_reducible repeat (first | refine blk_drewN ?_ _ | refine blk_drew ?_ | refine blk_alloc ?_ _)); refine blk_put (cs := pxAQ315_) ?_ 0 _ rfl; (with_reducible repeat (first | refine blk_drewN ?_ _ | refine blk_drew ?_ | refine blk_alloc ?_ _)); exact BK132.out) hb); have n1_ := Aside0.mk (below_step (by repeat (first | (with_reducible first | exact HB.out | apply below_alloc | apply pw_below_drewN | apply below_drew1 | refine below_set ?_ GE132.out) | exact HB.out)) hb); clear BK132; clear HB; have BK132 := n0_; have HB := n1_; clear n0_ n1_; (try clear hb); (try clear hb2); (try clear hk); (try clear hi); pxhQ3_ hcz18_0 w17 gb132 0 (.int .i64 t117) BK132; pxhQ3_ hcz18_1 w17 gb132 1 (.int .i64 t118) BK132; pxhQ3_ hcz18_2 w17 gb132 2 (.int .i64 t119) BK132; pxhQ3_ hcz18_3 w17 gb132 3 (.int .i64 t120) BK132; pxhQ3_ hcz18_4 w17 gb132 4 (.int .i64 t121) BK132; pxhQ3_ hcz18_5 w17 gb132 5 (.int .i64 t122) BK132; pxhQ3_ hcz18_6 w17 gb132 6 (.int .i64 t123) BK132; pxhQ3_ hcz18_7 w17 gb132 7 (.int .i64 t124) BK132; pxhQ3_ hcz18_8 w17 gb132 8 (.int .i64 t125) BK132; pxhQ3_ hcz18_9 w17 gb132 9 (.int .i64 t126) BK132; pxhQ3_ hcz18_10 w17 gb132 10 (.int .i64 t127) BK132; pxhQ3_ hcz18_11 w17 gb132 11 (.string t128) BK132; pxhQ3_ hcz18_12 w17 gb132 12 (.string t129) BK132; pxhQ3_ hcz18_13 w17 gb132 13 (.string t130) BK132; pxfQ3_ hfz18_0 BK132 0; pxfQ3_ hfz18_1 BK132 1; pxfQ3_ hfz18_2 BK132 2; pxfQ3_ hfz18_3 BK132 3; pxfQ3_ hfz18_4 BK132 4; pxfQ3_ hfz18_5 BK132 5; pxfQ3_ hfz18_6 BK132 6; pxfQ3_ hfz18_7 BK132 7; pxfQ3_ hfz18_8 BK132 8; pxfQ3_ hfz18_9 BK132 9; pxfQ3_ hfz18_10 BK132 10; pxfQ3_ hfz18_11 BK132 11; pxfQ3_ hfz18_12 BK132 12; pxfQ3_ hfz18_13 BK132 13))
        go_ret
        pxLQ311_
    · rw [if_neg c5] at H
      have c5b0 : (t131 == 0) = false := beq_eq_false_iff_ne.mpr c5
      have c5b1 : (t131 != 0) = true := bne_iff_ne.mpr c5
      obtain rfl := Option.some.inj H
      go_enter Try.func10, Try.ntmps10
      go_wp2_with (first | ((with_reducible refine gate_callee (f := 15) rfl ?_); refine goesL_ (some 5) rfl rfl Try.func15 (by kernel_rfl) rfl pxAQ310_ rfl (by (try simp only [List.map_toArray, List.map_cons, List.map_nil]); first | done | rfl | (simp only [List.length_drop, List.length_take]; rfl)) ?_; (with_reducible refine (wire_Msg.calls 2 3 0 0 0 0 0 0 0 0 0 (⟨#[]⟩ : ByteArray) (⟨#[]⟩ : ByteArray) (⟨#[]⟩ : ByteArray) t116 _ A1.out).mono ?_); rintro e w19 ⟨rfl, hb⟩; refine ⟨_, rfl, ?_⟩; have n0_ := Aside0.mk (below_step (by repeat (first | (with_reducible first | exact HB.out | apply below_alloc | apply pw_below_drewN | apply below_drew1) | exact HB.out)) hb); clear HB; have HB := n0_; clear n0_; (try clear hb); (try clear hb2); (try clear hk); (try clear hi)) | ((with_reducible refine gate_callee (f := 23) rfl ?_); refine goesL_ (some 6) rfl rfl Try.func23 (by kernel_rfl) rfl #[.string t116] rfl (by (try simp only [List.map_toArray, List.map_cons, List.map_nil]); first | done | rfl | (simp only [List.length_drop, List.length_take]; rfl)) ?_; (with_reducible refine (wire_TakeMsg.calls t116 t117 t118 t119 t120 t121 t122 t123 t124 t125 t126 t127 t128 t129 t130 t131 _ A2.out).mono ?_); rintro e w20 ⟨rfl, hb⟩; refine ⟨_, rfl, ?_⟩; have n0_ := Aside0.mk (below_step (by repeat (first | (with_reducible first | exact HB.out | apply below_alloc | apply pw_below_drewN | apply below_drew1) | exact HB.out)) hb); clear HB; have HB := n0_; clear n0_; (try clear hb); (try clear hb2); (try clear hk); (try clear hi)) | ((with_reducible refine gate_dst (N := 1) rfl ?_); refine box_event ?hg (N := 1) ?hd (cs := pxAQ315_) (t := 32) ?hr ?_; (case hd => rfl); (case hg => rfl); (case hr => first | (go_simp; done) | (go_simp; rfl)); intro gb132 hg w21 hbox hb; have n0_ := Aside0.mk (below_step (by repeat (first | (with_reducible first | exact HB.out | apply below_alloc | apply pw_below_drewN | apply below_drew1) | exact HB.out)) hb); have n1_ := Aside0.mk (hbox); have n2_ := Aside0.mk ((by rw [hg]; exact (below_size (by repeat (first | (with_reducible first | exact HB.out | apply below_alloc | apply pw_below_drewN | apply below_drew1) | exact HB.out))) : w.heap.size ≤ gb132)); have n3_ := Aside0.mk ((by rw [hg]; exact (below_size (by repeat (first | (with_reducible first | exact HB.out | apply below_alloc | apply pw_below_drewN | apply below_drew1) | exact HB.out))) : w.heap.size ≤ gb132)); clear HB; have HB := n0_; have BK132 := n1_; have GW132 := n2_; have GE132 := n3_; clear n0_ n1_ n2_ n3_; clear hb hbox hg; pxhQ3_ hcz22_0 w21 gb132 0 (.int .i64 0) BK132; pxhQ3_ hcz22_1 w21 gb132 1 (.int .i64 0) BK132; pxhQ3_ hcz22_2 w21 gb132 2 (.int .i64 0) BK132; pxhQ3_ hcz22_3 w21 gb132 3 (.int .i64 0) BK132; pxhQ3_ hcz22_4 w21 gb132 4 (.int .i64 0) BK132; pxhQ3_ hcz22_5 w21 gb132 5 (.int .i64 0) BK132; pxhQ3_ hcz22_6 w21 gb132 6 (.int .i64 0) BK132; pxhQ3_ hcz22_7 w21 gb132 7 (.int .i64 0) BK132; pxhQ3_ hcz22_8 w21 gb132 8 (.int .i64 0) BK132; pxhQ3_ hcz22_9 w21 gb132 9 (.int .i64 0) BK132; pxhQ3_ hcz22_10 w21 gb132 10 (.int .i64 0) BK132; pxhQ3_ hcz22_11 w21 gb132 11 (.string (⟨#[]⟩ : ByteArray)) BK132; pxhQ3_ hcz22_12 w21 gb132 12 (.string (⟨#[]⟩ : ByteArray)) BK132; pxhQ3_ hcz22_13 w21 gb132 13 (.string (⟨#[]⟩ : ByteArray)) BK132; pxfQ3_ hfz22_0 BK132 0; pxfQ3_ hfz22_1 BK132 1; pxfQ3_ hfz22_2 BK132 2; pxfQ3_ hfz22_3 BK132 3; pxfQ3_ hfz22_4 BK132 4; pxfQ3_ hfz22_5 BK132 5; pxfQ3_ hfz22_6 BK132 6; pxfQ3_ hfz22_7 BK132 7; pxfQ3_ hfz22_8 BK132 8; pxfQ3_ hfz22_9 BK132 9; pxfQ3_ hfz22_10 BK132 10; pxfQ3_ hfz22_11 BK132 11; pxfQ3_ hfz22_12 BK132 12; pxfQ3_ hfz22_13 BK132 13) | ((with_reducible refine gate_callee (f := 12) rfl ?_); refine goesL_ (some 10) rfl rfl Try.func12 (by kernel_rfl) rfl pxAQ318_ rfl (by (try simp only [List.map_toArray, List.map_cons, List.map_nil]); first | done | rfl | (simp only [List.length_drop, List.length_take]; rfl)) ?_; (with_reducible refine (wire_Call.calls 0 0 0 0 0 (⟨#[]⟩ : ByteArray) (⟨#[]⟩ : ByteArray) (⟨#[]⟩ : ByteArray) t133 _ A3.out).mono ?_); rintro e w23 ⟨rfl, hb⟩; refine ⟨_, rfl, ?_⟩; have n0_ := Aside0.mk (blk_below (g := gb132) (o := .cells pxAQ317_ 32 (0, 0)) (by (with_reducible repeat (first | refine blk_drewN ?_ _ | refine blk_drew ?_ | refine blk_alloc ?_ _)); refine blk_put (cs := pxAQ312_) ?_ 13 _ rfl; (with_reducible repeat (first | refine blk_drewN ?_ _ | refine blk_drew ?_ | refine blk_alloc ?_ _)); refine blk_put (cs := pxAQ35_) ?_ 12 _ rfl; (with_reducible repeat (first | refine blk_drewN ?_ _ | refine blk_drew ?_ | refine blk_alloc ?_ _)); refine blk_put (cs := pxAQ30_) ?_ 11 _ rfl; (with_reducible repeat (first | refine blk_drewN ?_ _ | refine blk_drew ?_ | refine blk_alloc ?_ _)); refine blk_put (cs := pxAQ31_) ?_ 10 _ rfl; (with_reducible repeat (first | refine blk_drewN ?_ _ | refine blk_drew ?_ | refine blk_alloc ?_ _)); refine blk_put (cs := pxAQ32_) ?_ 9 _ rfl; (with_reducible repeat (first | refine blk_drewN ?_ _ | refine blk_drew ?_ | refine blk_alloc ?_ _)); refine blk_put (cs := pxAQ33_) ?_ 8 _ rfl; (with_reducible repeat (first | refine blk_drewN ?_ _ | refine blk_drew ?_ | refine blk_alloc ?_ _)); refine blk_put (cs := pxAQ34_) ?_ 7 _ rfl; (with_reducible repeat (first | refine blk_drewN ?_ _ | refine blk_drew ?_ | refine blk_alloc ?_ _)); refine blk_put (cs := pxAQ36_) ?_ 6 _ rfl; (with_reducible repeat (first | refine blk_drewN ?_ _ | refine blk_drew ?_ | refine blk_alloc ?_ _)); refine blk_put (cs := pxAQ37_) ?_ 5 _ rfl; (with_reducible repeat (first | refine blk_drewN ?_ _ | refine blk_drew ?_ | refine blk_alloc ?_ _)); refine blk_put (cs := pxAQ38_) ?_ 4 _ rfl; (with_reducible repeat (first | refine blk_drewN ?_ _ | refine blk_drew ?_ | refine blk_alloc ?_ _)); refine blk_put (cs := pxAQ39_) ?_ 3 _ rfl; (with_reducible repeat (first | refine blk_drewN ?_ _ | refine blk_drew ?_ | refine blk_alloc ?_ _)); refine blk_put (cs := pxAQ311_) ?_ 2 _ rfl; (with_reducible repeat (first | refine blk_drewN ?_ _ | refine blk_drew ?_ | refine blk_alloc ?_ _)); refine blk_put (cs := pxAQ313_) ?_ 1 _ rfl; (with_reducible repeat (first | refine blk_drewN ?_ _ | refine blk_drew ?_ | refine blk_alloc ?_ _)); refine blk_put (cs := pxAQ315_) ?_ 0 _ rfl; (with_reducible repeat (first | refine blk_drewN ?_ _ | refine blk_drew ?_ | refine blk_alloc ?_ _)); exact BK132.out) hb); have n1_ := Aside0.mk (below_step (by repeat (first | (with_reducible first | exact HB.out | apply below_alloc | apply pw_below_drewN | apply below_drew1 | refine below_set ?_ GE132.out) | exact HB.out)) hb); clear BK132; clear HB; have BK132 := n0_; have HB := n1_; clear n0_ n1_; (try clear hb); (try clear hb2); (try clear hk); (try clear hi)))
      go_ret
      pxLQ311_
  · rw [if_neg c4] at H
    have c4b0 : (t133.toList == ([0, 0, 0, 0, 0, 0, 0, 0] : List UInt8)) = false := beq_eq_false_iff_ne.mpr c4
    have c4b1 : (t133.toList != ([0, 0, 0, 0, 0, 0, 0, 0] : List UInt8)) = true := bne_iff_ne.mpr c4
    obtain rfl := Option.some.inj H
    go_enter Try.func10, Try.ntmps10
    go_wp2_with (first | ((with_reducible refine gate_callee (f := 15) rfl ?_); refine goesL_ (some 5) rfl rfl Try.func15 (by kernel_rfl) rfl pxAQ310_ rfl (by (try simp only [List.map_toArray, List.map_cons, List.map_nil]); first | done | rfl | (simp only [List.length_drop, List.length_take]; rfl)) ?_; (with_reducible refine (wire_Msg.calls 2 3 0 0 0 0 0 0 0 0 0 (⟨#[]⟩ : ByteArray) (⟨#[]⟩ : ByteArray) (⟨#[]⟩ : ByteArray) t116 _ A1.out).mono ?_); rintro e w24 ⟨rfl, hb⟩; refine ⟨_, rfl, ?_⟩; have n0_ := Aside0.mk (below_step (by repeat (first | (with_reducible first | exact HB.out | apply below_alloc | apply pw_below_drewN | apply below_drew1) | exact HB.out)) hb); clear HB; have HB := n0_; clear n0_; (try clear hb); (try clear hb2); (try clear hk); (try clear hi)) | ((with_reducible refine gate_callee (f := 23) rfl ?_); refine goesL_ (some 6) rfl rfl Try.func23 (by kernel_rfl) rfl #[.string t116] rfl (by (try simp only [List.map_toArray, List.map_cons, List.map_nil]); first | done | rfl | (simp only [List.length_drop, List.length_take]; rfl)) ?_; (with_reducible refine (wire_TakeMsg.calls t116 t117 t118 t119 t120 t121 t122 t123 t124 t125 t126 t127 t128 t129 t130 t131 _ A2.out).mono ?_); rintro e w25 ⟨rfl, hb⟩; refine ⟨_, rfl, ?_⟩; have n0_ := Aside0.mk (below_step (by repeat (first | (with_reducible first | exact HB.out | apply below_alloc | apply pw_below_drewN | apply below_drew1) | exact HB.out)) hb); clear HB; have HB := n0_; clear n0_; (try clear hb); (try clear hb2); (try clear hk); (try clear hi)) | ((with_reducible refine gate_dst (N := 1) rfl ?_); refine box_event ?hg (N := 1) ?hd (cs := pxAQ315_) (t := 32) ?hr ?_; (case hd => rfl); (case hg => rfl); (case hr => first | (go_simp; done) | (go_simp; rfl)); intro gb132 hg w26 hbox hb; have n0_ := Aside0.mk (below_step (by repeat (first | (with_reducible first | exact HB.out | apply below_alloc | apply pw_below_drewN | apply below_drew1) | exact HB.out)) hb); have n1_ := Aside0.mk (hbox); have n2_ := Aside0.mk ((by rw [hg]; exact (below_size (by repeat (first | (with_reducible first | exact HB.out | apply below_alloc | apply pw_below_drewN | apply below_drew1) | exact HB.out))) : w.heap.size ≤ gb132)); have n3_ := Aside0.mk ((by rw [hg]; exact (below_size (by repeat (first | (with_reducible first | exact HB.out | apply below_alloc | apply pw_below_drewN | apply below_drew1) | exact HB.out))) : w.heap.size ≤ gb132)); clear HB; have HB := n0_; have BK132 := n1_; have GW132 := n2_; have GE132 := n3_; clear n0_ n1_ n2_ n3_; clear hb hbox hg; pxhQ3_ hcz27_0 w26 gb132 0 (.int .i64 0) BK132; pxhQ3_ hcz27_1 w26 gb132 1 (.int .i64 0) BK132; pxhQ3_ hcz27_2 w26 gb132 2 (.int .i64 0) BK132; pxhQ3_ hcz27_3 w26 gb132 3 (.int .i64 0) BK132; pxhQ3_ hcz27_4 w26 gb132 4 (.int .i64 0) BK132; pxhQ3_ hcz27_5 w26 gb132 5 (.int .i64 0) BK132; pxhQ3_ hcz27_6 w26 gb132 6 (.int .i64 0) BK132; pxhQ3_ hcz27_7 w26 gb132 7 (.int .i64 0) BK132; pxhQ3_ hcz27_8 w26 gb132 8 (.int .i64 0) BK132; pxhQ3_ hcz27_9 w26 gb132 9 (.int .i64 0) BK132; pxhQ3_ hcz27_10 w26 gb132 10 (.int .i64 0) BK132; pxhQ3_ hcz27_11 w26 gb132 11 (.string (⟨#[]⟩ : ByteArray)) BK132; pxhQ3_ hcz27_12 w26 gb132 12 (.string (⟨#[]⟩ : ByteArray)) BK132; pxhQ3_ hcz27_13 w26 gb132 13 (.string (⟨#[]⟩ : ByteArray)) BK132; pxfQ3_ hfz27_0 BK132 0; pxfQ3_ hfz27_1 BK132 1; pxfQ3_ hfz27_2 BK132 2; pxfQ3_ hfz27_3 BK132 3; pxfQ3_ hfz27_4 BK132 4; pxfQ3_ hfz27_5 BK132 5; pxfQ3_ hfz27_6 BK132 6; pxfQ3_ hfz27_7 BK132 7; pxfQ3_ hfz27_8 BK132 8; pxfQ3_ hfz27_9 BK132 9; pxfQ3_ hfz27_10 BK132 10; pxfQ3_ hfz27_11 BK132 11; pxfQ3_ hfz27_12 BK132 12; pxfQ3_ hfz27_13 BK132 13) | ((with_reducible refine gate_callee (f := 12) rfl ?_); refine goesL_ (some 10) rfl rfl Try.func12 (by kernel_rfl) rfl pxAQ318_ rfl (by (try simp only [List.map_toArray, List.map_cons, List.map_nil]); first | done | rfl | (simp only [List.length_drop, List.length_take]; rfl)) ?_; (with_reducible refine (wire_Call.calls 0 0 0 0 0 (⟨#[]⟩ : ByteArray) (⟨#[]⟩ : ByteArray) (⟨#[]⟩ : ByteArray) t133 _ A3.out).mono ?_); rintro e w28 ⟨rfl, hb⟩; refine ⟨_, rfl, ?_⟩; have n0_ := Aside0.mk (blk_below (g := gb132) (o := .cells pxAQ317_ 32 (0, 0)) (by (with_reducible repeat (first | refine blk_drewN ?_ _ | refine blk_drew ?_ | refine blk_alloc ?_ _)); refine blk_put (cs := pxAQ312_) ?_ 13 _ rfl; (with_reducible repeat (first | refine blk_drewN ?_ _ | refine blk_drew ?_ | refine blk_alloc ?_ _)); refine blk_put (cs := pxAQ35_) ?_ 12 _ rfl; (with_reducible repeat (first | refine blk_drewN ?_ _ | refine blk_drew ?_ | refine blk_alloc ?_ _)); refine blk_put (cs := pxAQ30_) ?_ 11 _ rfl; (with_reducible repeat (first | refine blk_drewN ?_ _ | refine blk_drew ?_ | refine blk_alloc ?_ _)); refine blk_put (cs := pxAQ31_) ?_ 10 _ rfl; (with_reducible repeat (first | refine blk_drewN ?_ _ | refine blk_drew ?_ | refine blk_alloc ?_ _)); refine blk_put (cs := pxAQ32_) ?_ 9 _ rfl; (with_reducible repeat (first | refine blk_drewN ?_ _ | refine blk_drew ?_ | refine blk_alloc ?_ _)); refine blk_put (cs := pxAQ33_) ?_ 8 _ rfl; (with_reducible repeat (first | refine blk_drewN ?_ _ | refine blk_drew ?_ | refine blk_alloc ?_ _)); refine blk_put (cs := pxAQ34_) ?_ 7 _ rfl; (with_reducible repeat (first | refine blk_drewN ?_ _ | refine blk_drew ?_ | refine blk_alloc ?_ _)); refine blk_put (cs := pxAQ36_) ?_ 6 _ rfl; (with_reducible repeat (first | refine blk_drewN ?_ _ | refine blk_drew ?_ | refine blk_alloc ?_ _)); refine blk_put (cs := pxAQ37_) ?_ 5 _ rfl; (with_reducible repeat (first | refine blk_drewN ?_ _ | refine blk_drew ?_ | refine blk_alloc ?_ _)); refine blk_put (cs := pxAQ38_) ?_ 4 _ rfl; (with_reducible repeat (first | refine blk_drewN ?_ _ | refine blk_drew ?_ | refine blk_alloc ?_ _)); refine blk_put (cs := pxAQ39_) ?_ 3 _ rfl; (with_reducible repeat (first | refine blk_drewN ?_ _ | refine blk_drew ?_ | refine blk_alloc ?_ _)); refine blk_put (cs := pxAQ311_) ?_ 2 _ rfl; (with_reducible repeat (first | refine blk_drewN ?_ _ | refine blk_drew ?_ | refine blk_alloc ?_ _)); refine blk_put (cs := pxAQ313_) ?_ 1 _ rfl; (with_reducible repeat (first | refine blk_drewN ?_ _ | refine blk_drew ?_ | refine blk_alloc ?_ _)); refine blk_put (cs := pxAQ315_) ?_ 0 _ rfl; (with_reducible repeat (first | refine blk_drewN ?_ _ | refine blk_drew ?_ | refine blk_alloc ?_ _)); exact BK132.out) hb); have n1_ := Aside0.mk (below_step (by repeat (first | (with_reducible first | exact HB.out | apply below_alloc | apply pw_below_drewN | apply below_drew1 | refine below_set ?_ GE132.out) | exact HB.out)) hb); clear BK132; clear HB; have BK132 := n0_; have HB := n1_; clear n0_ n1_; (try clear hb); (try clear hb2); (try clear hk); (try clear hi)))
    go_ret
    pxLQ311_

/-! ### copyholdlaw15_short: function 11 -/
def copyholdlaw15_short.f (a0_0 : Int) (a0_1 : Int) (a0_2 : Int) (a0_3 : Int) (a0_4 : Int) (a0_5 : ByteArray) (a0_6 : ByteArray) (a0_7 : ByteArray) : Option (Bool) := some (decide ((wrap64 ((wrap64 ((a0_5.size : Int) + (a0_6.size : Int))) + (a0_7.size : Int))) ≤ 4000))
set_option maxHeartbeats 8000000 in
set_option maxRecDepth 100000 in
theorem copyholdlaw15_short.calls (a0_0 : Int) (a0_1 : Int) (a0_2 : Int) (a0_3 : Int) (a0_4 : Int) (a0_5 : ByteArray) (a0_6 : ByteArray) (a0_7 : ByteArray) (r : Bool) (w : World) (h : copyholdlaw15_short.f a0_0 a0_1 a0_2 a0_3 a0_4 a0_5 a0_6 a0_7 = some r) :
    Calls Try.prog 11 #[.agg pxAQ320_] w fun e w' => e = .returned (.bool r) ∧ Below w.heap.size w w' := by
  have hu23 := Try.underlying23
  have HB := Aside0.mk (Below.refl w.heap.size w)
  have H : (some (decide ((wrap64 ((wrap64 ((a0_5.size : Int) + (a0_6.size : Int))) + (a0_7.size : Int))) ≤ 4000))) = some r := h
  clear h
  obtain rfl := Option.some.inj H
  go_enter Try.func11, Try.ntmps11
  go_wp2_with (first | ((with_reducible refine gate_dst (N := 1) rfl ?_); refine box_event ?hg (N := 1) ?hd (cs := pxAQ320_) (t := 23) ?hr ?_; (case hd => rfl); (case hg => rfl); (case hr => first | (go_simp; done) | (go_simp; rfl)); intro gb134 hg w2 hbox hb; have n0_ := Aside0.mk (below_step (by repeat (first | (with_reducible first | exact HB.out | apply below_alloc | apply pw_below_drewN | apply below_drew1) | exact HB.out)) hb); have n1_ := Aside0.mk (hbox); have n2_ := Aside0.mk ((by rw [hg]; exact (below_size (by repeat (first | (with_reducible first | exact HB.out | apply below_alloc | apply pw_below_drewN | apply below_drew1) | exact HB.out))) : w.heap.size ≤ gb134)); have n3_ := Aside0.mk ((by rw [hg]; exact (below_size (by repeat (first | (with_reducible first | exact HB.out | apply below_alloc | apply pw_below_drewN | apply below_drew1) | exact HB.out))) : w.heap.size ≤ gb134)); clear HB; have HB := n0_; have BK134 := n1_; have GW134 := n2_; have GE134 := n3_; clear n0_ n1_ n2_ n3_; clear hb hbox hg; pxhQ3_ hcz3_0 w2 gb134 0 (.int .i64 a0_0) BK134; pxhQ3_ hcz3_1 w2 gb134 1 (.int .i64 a0_1) BK134; pxhQ3_ hcz3_2 w2 gb134 2 (.int .i64 a0_2) BK134; pxhQ3_ hcz3_3 w2 gb134 3 (.int .i64 a0_3) BK134; pxhQ3_ hcz3_4 w2 gb134 4 (.int .i64 a0_4) BK134; pxhQ3_ hcz3_5 w2 gb134 5 (.string a0_5) BK134; pxhQ3_ hcz3_6 w2 gb134 6 (.string a0_6) BK134; pxhQ3_ hcz3_7 w2 gb134 7 (.string a0_7) BK134; pxfQ3_ hfz3_0 BK134 0; pxfQ3_ hfz3_1 BK134 1; pxfQ3_ hfz3_2 BK134 2; pxfQ3_ hfz3_3 BK134 3; pxfQ3_ hfz3_4 BK134 4; pxfQ3_ hfz3_5 BK134 5; pxfQ3_ hfz3_6 BK134 6; pxfQ3_ hfz3_7 BK134 7))
  go_ret
  exact ⟨by first | rfl | (simp [errW_none, errW_some] <;> rfl) | (simp [*, errW_none, errW_some] <;> rfl), by repeat (first | (with_reducible first | exact HB.out | apply below_alloc | apply pw_below_drewN | apply below_drew1 | refine below_set ?_ GE134.out) | exact HB.out)⟩

-- GIVEN: function 13 (wire_TakeCall): its Lean function and its contract stand in a text of this session's

end Go.Proofs.Ytgnmhbkialgeaaa.Q
end

section
/- The machine's side of laws of this seat: Go functions as Lean functions, and the proof that a call of each comes to what its function says (written by a program of this session, px.py, that runs the kit's print). -/
namespace Go.Proofs.Ytgnmhbkialgeaaa.Q
open Go.RowKit Go.Proofs.YtgnmhbkialgeaaaW.PrintWords Go.Proofs.YtgnmhbkialgeaaaW.PrintLast Go.Proofs.YtgnmhbkialgeaaaW.PrintMore
attribute [local go_sem] max2_int min2_int max_two min_two max_three min_three max_four min_four   -- for this text's walks alone
attribute [local go_sem high] Go.Proofs.Ytgnmhbkialgeaaa.px_xor_u8 Go.Proofs.Ytgnmhbkialgeaaa.px_xor_u16 Go.Proofs.Ytgnmhbkialgeaaa.px_xor_u32 Go.Proofs.Ytgnmhbkialgeaaa.px_xor_u64
set_option linter.unusedVariables false
set_option linter.unusedSimpArgs false

attribute [local go_sem high] eqA23
/-! ### copyholdlaw15_WireCalls: function 3 -/
end Go.Proofs.Ytgnmhbkialgeaaa.Q
end

section
/- The machine's side of laws of this seat: Go functions as Lean functions, and the proof that a call of each comes to what its function says (written by a program of this session, px.py, that runs the kit's print). -/
namespace Go.Proofs.Ytgnmhbkialgeaaa.Q
open Go.RowKit Go.Proofs.YtgnmhbkialgeaaaW.PrintWords Go.Proofs.YtgnmhbkialgeaaaW.PrintLast Go.Proofs.YtgnmhbkialgeaaaW.PrintMore
attribute [local go_sem] max2_int min2_int max_two min_two max_three min_three max_four min_four   -- for this text's walks alone
attribute [local go_sem high] Go.Proofs.Ytgnmhbkialgeaaa.px_xor_u8 Go.Proofs.Ytgnmhbkialgeaaa.px_xor_u16 Go.Proofs.Ytgnmhbkialgeaaa.px_xor_u32 Go.Proofs.Ytgnmhbkialgeaaa.px_xor_u64
set_option linter.unusedVariables false
set_option linter.unusedSimpArgs false

set_option hygiene false in
local macro "pxAQ50_" : term => `(#[.agg #[.int .i64 a0_5, .int .i64 a0_6, .int .i64 a0_7, .int .i64 a0_8, .string a0_9, .slice A0_10 l0_10.length c0_10], .agg #[.int .i64 a1_5, .int .i64 a1_6, .int .i64 a1_7, .int .i64 a1_8, .string a1_9, .slice A1_10 l1_10.length c1_10]])
set_option hygiene false in
local macro "pxAQ51_" : term => `(#[.int .i64 a0_0, .int .i64 a0_1, .int .i64 a0_2, .int .i64 a0_3, .int .i64 a0_4, .int .i64 a0_5, .int .i64 a0_6, .int .i64 a0_7, .int .i64 a0_8, .string a0_9, .slice A0_10 l0_10.length c0_10])
set_option hygiene false in
local macro "pxAQ52_" : term => `(#[.int .i64 a1_0, .int .i64 a1_1, .int .i64 a1_2, .int .i64 a1_3, .int .i64 a1_4, .int .i64 a1_5, .int .i64 a1_6, .int .i64 a1_7, .int .i64 a1_8, .string a1_9, .slice A1_10 l1_10.length c1_10])
set_option hygiene false in
local macro "pxAQ53_" : term => `(#[.int .i64 a0_5, .int .i64 a0_6, .int .i64 a0_7, .int .i64 a0_8, .string a0_9, .slice A0_10 l0_10.length c0_10])
set_option hygiene false in
local macro "pxAQ54_" : term => `(#[.int .i64 a1_5, .int .i64 a1_6, .int .i64 a1_7, .int .i64 a1_8, .string a1_9, .slice A1_10 l1_10.length c1_10])
set_option hygiene false in
local macro "pxAQ55_" : term => `(#[.int .i64 a0_0, .int .i64 a0_1, .int .i64 a0_2, .int .i64 a0_3, .string a0_4, .slice A0_5 l0_5.length c0_5])
set_option hygiene false in
local macro "pxAQ56_" : term => `(#[.int .i64 a1_0, .int .i64 a1_1, .int .i64 a1_2, .int .i64 a1_3, .string a1_4, .slice A1_5 l1_5.length c1_5])
set_option hygiene false in
local macro "pxAQ57_" : term => `(#[.slice A0_5 l0_5.length c0_5, .slice A1_5 l1_5.length c1_5])
local macro "pxhQ5_" h:ident w:ident g:ident i:num v:term:max b:ident : tactic => `(tactic| have $h : ($w).cell? ⟨$g, $i, none⟩ = some $v := (blk_cell ($b).out $i).trans rfl)
local macro "pxkQ5_" b:ident i:num : term => `((blk_cell ($b).out $i).trans rfl)
local macro "pxfQ5_" h:ident b:ident i:num : tactic => `(tactic| have $h := blk_frozen ($b).out $i)
set_option hygiene false in
local macro "pxLQ50_" : tactic => `(tactic| (have p175 : 0 ≤ (x5_1 : Int) := of_decide_eq_true (by first | (with_reducible assumption) | assumption)))
set_option hygiene false in
local macro "pxLQ51_" : tactic => `(tactic| (have q175 : x5_1 < (l0.length : Int) := of_decide_eq_true (by first | (with_reducible assumption) | assumption)))
set_option hygiene false in
local macro "pxLQ52_" : tactic => `(tactic| (have p176 : 0 ≤ (x5_1 : Int) := of_decide_eq_true (by first | (with_reducible assumption) | assumption)))
set_option hygiene false in
local macro "pxLQ53_" : tactic => `(tactic| (have q176 : x5_1 < (l1.length : Int) := of_decide_eq_true (by first | (with_reducible assumption) | assumption)))
set_option hygiene false in
local macro "pxLQ54_" : tactic => `(tactic| (exact ⟨by first | rfl | (simp; done) | (simp [*]; done), by repeat (first | exact Drawn0.refl _ | apply Drawn0.step)⟩))
set_option hygiene false in
local macro "pxLQ55_" : tactic => `(tactic| (exact ⟨by first | rfl | (simp [errW_none, errW_some] <;> rfl) | (simp [*, errW_none, errW_some] <;> rfl), by repeat (first | (with_reducible first | exact HB.out | apply below_alloc | apply pw_below_drewN | apply below_drew1 | refine below_set ?_ GE177.out | refine below_set ?_ GE178.out) | exact HB.out)⟩))
set_option hygiene false in
local macro "pxLQ56_" : tactic => `(tactic| (have H1 : (some false) = some r := by rw [if_neg (show ¬ (false = true) by decide)] at H; exact H))
set_option hygiene false in
local macro "pxLQ57_" : tactic => `(tactic| (exact ⟨by first | rfl | (simp [errW_none, errW_some] <;> rfl) | (simp [*, errW_none, errW_some] <;> rfl), by repeat (first | (with_reducible first | exact HB.out | apply below_alloc | apply pw_below_drewN | apply below_drew1 | refine below_set ?_ GE180.out | refine below_set ?_ GE181.out) | exact HB.out)⟩))
set_option hygiene false in
local macro "pxLQ58_" : tactic => `(tactic| (have n0_ := Aside0.mk (Kd.R_below (by (with_reducible repeat (first | apply Kd.R_alloc | apply Kd.R_drewN | apply Kd.R_drew)); exact HO186.out) hb)))
set_option hygiene false in
local macro "pxLQ59_" : tactic => `(tactic| (have n1_ := Aside0.mk (blk_below (g := gb183) (o := .cells pxAQ51_ 37 (0, 0)) (by (with_reducible repeat (first | refine blk_drewN ?_ _ | refine blk_drew ?_ | refine blk_alloc ?_ _)); exact BK183.out) hb)))
set_option hygiene false in
local macro "pxLQ510_" : tactic => `(tactic| (have n2_ := Aside0.mk (below_step (by repeat (first | (with_reducible first | exact HB.out | apply below_alloc | apply pw_below_drewN | apply below_drew1 | refine below_set ?_ GE183.out) | exact HB.out)) hb)))
set_option hygiene false in
local macro "pxLQ511_" : tactic => `(tactic| ((clear HO186; clear BK183; clear HB; have HO186 := n0_; have BK183 := n1_; have HB := n2_; clear n0_ n1_ n2_; (try clear hb); (try clear hb2); (try clear hk); (try clear hi))))
set_option hygiene false in
local macro "pxLQ512_" : tactic => `(tactic| (refine hK.out _ _ ⟨pxkQ5_ BK183 0, pxkQ5_ BK183 1, pxkQ5_ BK183 2, pxkQ5_ BK183 3, pxkQ5_ BK183 4, pxkQ5_ BK183 5, pxkQ5_ BK183 6, pxkQ5_ BK183 7, pxkQ5_ BK183 8, pxkQ5_ BK183 9, pxkQ5_ BK183 10⟩ (fun hHeld => ?_)))
set_option hygiene false in
local macro "pxLQ513_" : tactic => `(tactic| (simp only [Act.put, List.setIfInBounds_toArray, List.set_cons_zero, List.set_cons_succ, i64_w, i32_w]))
/-! ### copyholdref01_Strings: function 53 -/
def copyholdref01_Strings.l0 : Nat → List ByteArray → List ByteArray → Int → Option (Bool)
  | 0, _, _, _ => none
  | k + 1, x0, x1, x5 => if x5 < (x0.length : Int) then (if 0 ≤ x5 then (if x5 < (x1.length : Int) then (if (rdOf ByteArray.empty x0 x5).toList = (rdOf ByteArray.empty x1 x5).toList then (copyholdref01_Strings.l0 k x0 x1 (wrap64 (x5 + 1))) else (some false)) else (none)) else (none)) else (some true)
def copyholdref01_Strings.f (k : Nat) (l0 : List ByteArray) (l1 : List ByteArray) : Option (Bool) := if (l0.length : Int) = (l1.length : Int) then (copyholdref01_Strings.l0 k l0 l1 0) else (some false)
theorem copyholdref01_Strings.mono_l : ∀ k, (∀ y0 y1 y2, LeO (copyholdref01_Strings.l0 k y0 y1 y2) (copyholdref01_Strings.l0 (k + 1) y0 y1 y2))
  | 0 => fun _ _ _ r h => by simp [copyholdref01_Strings.l0] at h
  | k + 1 => by
    have ih0 := copyholdref01_Strings.mono_l k
    · intro y0 y1 y2
      unfold copyholdref01_Strings.l0
      repeat' first
      | (with_reducible exact ih0 _ _ _)
      | (with_reducible exact LeO.refl _)
      | (with_reducible exact LeO.none _)
      | (with_reducible refine LeO.ite ?_ ?_)
      | (with_reducible refine LeO.bind ?_ (fun _ => ?_))
      | exact ih0 _ _ _
      | exact LeO.none _
      | refine LeO.ite ?_ ?_
      | refine LeO.bind ?_ (fun _ => ?_)
theorem copyholdref01_Strings.mono : ∀ a0 a1 k, LeO (copyholdref01_Strings.f k a0 a1) (copyholdref01_Strings.f (k + 1) a0 a1) := by
  intro a0 a1 k
  have ih0 := copyholdref01_Strings.mono_l k
  unfold copyholdref01_Strings.f
  repeat' first
      | (with_reducible exact ih0 _ _ _)
      | (with_reducible exact LeO.refl _)
      | (with_reducible exact LeO.none _)
      | (with_reducible refine LeO.ite ?_ ?_)
      | (with_reducible refine LeO.bind ?_ (fun _ => ?_))
      | exact ih0 _ _ _
      | exact LeO.none _
      | refine LeO.ite ?_ ?_
      | refine LeO.bind ?_ (fun _ => ?_)
set_option maxHeartbeats 8000000 in
set_option maxRecDepth 100000 in
theorem copyholdref01_Strings.calls (k : Nat) (A0 : Option Addr) (c0 : Nat) (l0 : List ByteArray) (A1 : Option Addr) (c1 : Nat) (l1 : List ByteArray) (r : Bool) (w : World) (hr0 : Kd.C Kd.string w A0 l0.length l0) (hc0 : l0.length ≤ c0) (hr1 : Kd.C Kd.string w A1 l1.length l1) (hc1 : l1.length ≤ c1) (h : copyholdref01_Strings.f k l0 l1 = some r) :
    Calls Try.prog 53 #[.slice A0 l0.length c0, .slice A1 l1.length c1] w fun e w' => e = .returned (.bool r) ∧ Drawn0 w w' := by
  have HR0 := Aside0.mk hr0
  have HC0 := Aside0.mk hc0
  clear hr0 hc0
  have HR1 := Aside0.mk hr1
  have HC1 := Aside0.mk hc1
  clear hr1 hc1
  have H : (if (l0.length : Int) = (l1.length : Int) then (copyholdref01_Strings.l0 k l0 l1 0) else (some false)) = some r := h
  clear h
  by_cases c3 : (l0.length : Int) = (l1.length : Int)
  · rw [if_pos c3] at H
    have c3b0 : ((l0.length : Int) == (l1.length : Int)) = true := beq_iff_eq.mpr c3
    have c3b1 : ((l0.length : Int) != (l1.length : Int)) = false := bne_eq_false_iff_eq.mpr c3
    have c3b2 : (l0.length == l1.length) = true := by first | simpa using c3 | (simp at c3 ⊢; omega)
    clear c3
    have H' := Aside0.mk H
    clear H
    go_enter Try.func53, Try.ntmps53
    go_wp2
    repeat (go_quiet (fail); try go_wp2)
    go_loopg [5] k (fun kq v5 w' => ∃ (x5_1 : Int), v5 = .int .i64 x5_1 ∧ Aside0 (copyholdref01_Strings.l0 kq l0 l1 x5_1 = some r) ∧ Aside0 (kq ≤ k) ∧ Drawn0 w w')
    case atStart => exact ⟨(0), (by first | rfl | (simp; done) | (simp [*]; done)), H', ⟨Nat.le_refl _⟩, by repeat (first | exact Drawn0.refl _ | apply Drawn0.step)⟩
    case round =>
      clear H'
      try clear c1
      try clear p2
      try clear c3
      try clear c3b0
      try clear c3b1
      try clear c3b2
      obtain ⟨x5_1, rfl, HA, HK1, ⟨m1, rfl⟩⟩ := hrel
      cases gk with
      | zero => exact absurd HA.out (by simp [copyholdref01_Strings.l0])
      | succ k1 =>
        have H := HA.out
        clear HA
        simp only [copyholdref01_Strings.l0] at H
        by_cases c4 : x5_1 < (l0.length : Int)
        · rw [if_pos c4] at H
          have c4b0 : decide (x5_1 < (l0.length : Int)) = true := decide_eq_true c4
          clear c4
          by_cases c5 : 0 ≤ x5_1
          · rw [if_pos c5] at H
            have c5b0 : decide (0 ≤ x5_1) = true := decide_eq_true c5
            clear c5
            by_cases c6 : x5_1 < (l1.length : Int)
            · rw [if_pos c6] at H
              have c6b0 : decide (x5_1 < (l1.length : Int)) = true := decide_eq_true c6
              clear c6
              by_cases c7 : (rdOf ByteArray.empty l0 x5_1).toList = (rdOf ByteArray.empty l1 x5_1).toList
              · rw [if_pos c7] at H
                have c7b0 : ((rdOf ByteArray.empty l0 x5_1).toList == (rdOf ByteArray.empty l1 x5_1).toList) = true := beq_iff_eq.mpr c7
                have c7b1 : ((rdOf ByteArray.empty l0 x5_1).toList != (rdOf ByteArray.empty l1 x5_1).toList) = false := bne_eq_false_iff_eq.mpr c7
                clear c7
                have H' := Aside0.mk H
                clear H
                pxLQ50_
                pxLQ51_
                obtain ⟨ad175, e175, hx175_0⟩ := Kd.at_string HR0.out x5_1 p175 q175
                cases e175
                replace p175 := eq_true p175
                replace q175 := eq_true q175
                pxLQ52_
                pxLQ53_
                obtain ⟨ad176, e176, hx176_0⟩ := Kd.at_string HR1.out x5_1 p176 q176
                cases e176
                replace p176 := eq_true p176
                replace q176 := eq_true q176
                go_wp2
                repeat (go_quiet (fail); try go_wp2)
                go_roundg k1
                case measure => have := HK1.out; omega
                case rel => exact ⟨(wrap64 (x5_1 + 1)), (by first | rfl | (simp; done) | (simp [*]; done)), H', ⟨by have := HK1.out; omega⟩, by repeat (first | exact Drawn0.refl _ | apply Drawn0.step)⟩
              · rw [if_neg c7] at H
                have c7b0 : ((rdOf ByteArray.empty l0 x5_1).toList == (rdOf ByteArray.empty l1 x5_1).toList) = false := beq_eq_false_iff_ne.mpr c7
                have c7b1 : ((rdOf ByteArray.empty l0 x5_1).toList != (rdOf ByteArray.empty l1 x5_1).toList) = true := bne_iff_ne.mpr c7
                obtain rfl := Option.some.inj H
                pxLQ50_
                pxLQ51_
                obtain ⟨ad175, e175, hx175_0⟩ := Kd.at_string HR0.out x5_1 p175 q175
                cases e175
                replace p175 := eq_true p175
                replace q175 := eq_true q175
                pxLQ52_
                pxLQ53_
                obtain ⟨ad176, e176, hx176_0⟩ := Kd.at_string HR1.out x5_1 p176 q176
                cases e176
                replace p176 := eq_true p176
                replace q176 := eq_true q176
                go_wp2
                repeat (go_quiet (fail); try go_wp2)
                go_ret
                pxLQ54_
            · rw [if_neg c6] at H
              exact absurd H (by simp)
          · rw [if_neg c5] at H
            exact absurd H (by simp)
        · rw [if_neg c4] at H
          have c4b0 : decide (x5_1 < (l0.length : Int)) = false := decide_eq_false c4
          clear c4
          obtain rfl := Option.some.inj H
          go_wp2
          repeat (go_quiet (fail); try go_wp2)
          go_ret
          pxLQ54_
  · rw [if_neg c3] at H
    have c3b0 : ((l0.length : Int) == (l1.length : Int)) = false := beq_eq_false_iff_ne.mpr c3
    have c3b1 : ((l0.length : Int) != (l1.length : Int)) = true := bne_iff_ne.mpr c3
    have c3b2 : (l0.length == l1.length) = false := by first | simpa using c3 | (simp at c3 ⊢; omega)
    obtain rfl := Option.some.inj H
    go_enter Try.func53, Try.ntmps53
    go_wp2
    repeat (go_quiet (fail); try go_wp2)
    go_ret
    pxLQ54_

/-! ### copyholdref11_Same: function 30 -/
def copyholdref11_Same.f (k : Nat) (a0_0 : Int) (a0_1 : Int) (a0_2 : Int) (a0_3 : Int) (a0_4 : ByteArray) (l0_5 : List ByteArray) (a1_0 : Int) (a1_1 : Int) (a1_2 : Int) (a1_3 : Int) (a1_4 : ByteArray) (l1_5 : List ByteArray) : Option (Bool) := (copyholdref01_Strings.f k l0_5 l1_5).bind fun t179 => (if t179 = true then (if a0_0 = a1_0 then (if a0_1 = a1_1 then (if a0_2 = a1_2 then (if a0_3 = a1_3 then (some (a0_4.toList == a1_4.toList)) else (some false)) else (some false)) else (some false)) else (some false)) else (some false))
theorem copyholdref11_Same.mono : ∀ a0 a1 a2 a3 a4 a5 a6 a7 a8 a9 a10 a11 k, LeO (copyholdref11_Same.f k a0 a1 a2 a3 a4 a5 a6 a7 a8 a9 a10 a11) (copyholdref11_Same.f (k + 1) a0 a1 a2 a3 a4 a5 a6 a7 a8 a9 a10 a11) := by
  intro a0 a1 a2 a3 a4 a5 a6 a7 a8 a9 a10 a11 k
  unfold copyholdref11_Same.f
  repeat' first
      | (with_reducible exact copyholdref01_Strings.mono _ _ _)
      | (with_reducible exact LeO.refl _)
      | (with_reducible exact LeO.none _)
      | (with_reducible refine LeO.ite ?_ ?_)
      | (with_reducible refine LeO.bind ?_ (fun _ => ?_))
      | exact copyholdref01_Strings.mono _ _ _
      | exact LeO.none _
      | refine LeO.ite ?_ ?_
      | refine LeO.bind ?_ (fun _ => ?_)
set_option maxHeartbeats 8000000 in
set_option maxRecDepth 100000 in
theorem copyholdref11_Same.calls (k : Nat) (a0_0 : Int) (a0_1 : Int) (a0_2 : Int) (a0_3 : Int) (a0_4 : ByteArray) (A0_5 : Option Addr) (c0_5 : Nat) (l0_5 : List ByteArray) (a1_0 : Int) (a1_1 : Int) (a1_2 : Int) (a1_3 : Int) (a1_4 : ByteArray) (A1_5 : Option Addr) (c1_5 : Nat) (l1_5 : List ByteArray) (r : Bool) (w : World) (hr0_5 : Kd.C Kd.string w A0_5 l0_5.length l0_5) (hc0_5 : l0_5.length ≤ c0_5) (hr1_5 : Kd.C Kd.string w A1_5 l1_5.length l1_5) (hc1_5 : l1_5.length ≤ c1_5) (h : copyholdref11_Same.f k a0_0 a0_1 a0_2 a0_3 a0_4 l0_5 a1_0 a1_1 a1_2 a1_3 a1_4 l1_5 = some r) :
    Calls Try.prog 30 #[.agg pxAQ55_, .agg pxAQ56_] w fun e w' => e = .returned (.bool r) ∧ Below w.heap.size w w' := by
  have hu35 := Try.underlying35
  have HR0_5 := Aside0.mk hr0_5
  have HC0_5 := Aside0.mk hc0_5
  clear hr0_5 hc0_5
  have HR1_5 := Aside0.mk hr1_5
  have HC1_5 := Aside0.mk hc1_5
  clear hr1_5 hc1_5
  have HB := Aside0.mk (Below.refl w.heap.size w)
  have H : ((copyholdref01_Strings.f k l0_5 l1_5).bind fun t179 => (if t179 = true then (if a0_0 = a1_0 then (if a0_1 = a1_1 then (if a0_2 = a1_2 then (if a0_3 = a1_3 then (some (a0_4.toList == a1_4.toList)) else (some false)) else (some false)) else (some false)) else (some false)) else (some false))) = some r := h
  clear h
  replace H := Option.bind_eq_some_iff.mp H
  obtain ⟨t179, A30, H⟩ := H
  replace H : (if t179 = true then (if a0_0 = a1_0 then (if a0_1 = a1_1 then (if a0_2 = a1_2 then (if a0_3 = a1_3 then (some (a0_4.toList == a1_4.toList)) else (some false)) else (some false)) else (some false)) else (some false)) else (some false)) = some r := H
  have A3 := Aside0.mk A30
  clear A30
  by_cases c4 : t179 = true
  · subst c4
    have H1 : (if a0_0 = a1_0 then (if a0_1 = a1_1 then (if a0_2 = a1_2 then (if a0_3 = a1_3 then (some (a0_4.toList == a1_4.toList)) else (some false)) else (some false)) else (some false)) else (some false)) = some r := by rw [if_pos rfl] at H; exact H
    clear H
    have H := H1
    clear H1
    by_cases c5 : a0_0 = a1_0
    · rw [if_pos c5] at H
      have c5b0 : (a0_0 == a1_0) = true := beq_iff_eq.mpr c5
      have c5b1 : (a0_0 != a1_0) = false := bne_eq_false_iff_eq.mpr c5
      clear c5
      by_cases c6 : a0_1 = a1_1
      · rw [if_pos c6] at H
        have c6b0 : (a0_1 == a1_1) = true := beq_iff_eq.mpr c6
        have c6b1 : (a0_1 != a1_1) = false := bne_eq_false_iff_eq.mpr c6
        clear c6
        by_cases c7 : a0_2 = a1_2
        · rw [if_pos c7] at H
          have c7b0 : (a0_2 == a1_2) = true := beq_iff_eq.mpr c7
          have c7b1 : (a0_2 != a1_2) = false := bne_eq_false_iff_eq.mpr c7
          clear c7
          by_cases c8 : a0_3 = a1_3
          · rw [if_pos c8] at H
            have c8b0 : (a0_3 == a1_3) = true := beq_iff_eq.mpr c8
            have c8b1 : (a0_3 != a1_3) = false := bne_eq_false_iff_eq.mpr c8
            clear c8
            obtain rfl := Option.some.inj H
            go_enter Try.func30, Try.ntmps30
            go_wp2_with (first | ((with_reducible refine gate_dst (N := 2) rfl ?_); refine box_event ?hg (N := 2) ?hd (cs := pxAQ55_) (t := 35) ?hr ?_; (case hd => rfl); (case hg => rfl); (case hr => first | (go_simp; done) | (go_simp; rfl)); intro gb177 hg w9 hbox hb; have n0_ := Aside0.mk (below_step (by repeat (first | (with_reducible first | exact HB.out | apply below_alloc | apply pw_below_drewN | apply below_drew1) | exact HB.out)) hb); have n1_ := Aside0.mk (hbox); have n2_ := Aside0.mk ((by rw [hg]; exact (below_size (by repeat (first | (with_reducible first | exact HB.out | apply below_alloc | apply pw_below_drewN | apply below_drew1) | exact HB.out))) : w.heap.size ≤ gb177)); have n3_ := Aside0.mk ((by rw [hg]; exact (below_size (by repeat (first | (with_reducible first | exact HB.out | apply below_alloc | apply pw_below_drewN | apply below_drew1) | exact HB.out))) : w.heap.size ≤ gb177)); clear HB; have HB := n0_; have BK177 := n1_; have GW177 := n2_; have GE177 := n3_; clear n0_ n1_ n2_ n3_; clear hb hbox hg) | ((with_reducible refine gate_dst (N := 3) rfl ?_); refine box_event ?hg (N := 3) ?hd (cs := pxAQ56_) (t := 35) ?hr ?_; (case hd => rfl); (case hg => rfl); (case hr => first | (go_simp; done) | (go_simp; rfl)); intro gb178 hg w10 hbox hb; have n0_ := Aside0.mk (blk_below (g := gb177) (o := .cells pxAQ55_ 35 (0, 0)) (by (with_reducible repeat (first | refine blk_drewN ?_ _ | refine blk_drew ?_ | refine blk_alloc ?_ _)); exact BK177.out) hb); have n1_ := Aside0.mk (below_step (by repeat (first | (with_reducible first | exact HB.out | apply below_alloc | apply pw_below_drewN | apply below_drew1 | refine below_set ?_ GE177.out) | exact HB.out)) hb); have n2_ := Aside0.mk (hbox); have n3_ := Aside0.mk ((by rw [hg]; exact (below_size (by repeat (first | (with_reducible first | exact HB.out | apply below_alloc | apply pw_below_drewN | apply below_drew1 | refine below_set ?_ GE177.out) | exact HB.out))) : w.heap.size ≤ gb178)); have n4_ := Aside0.mk ((by rw [hg]; exact (below_size (by repeat (first | (with_reducible first | exact HB.out | apply below_alloc | apply pw_below_drewN | apply below_drew1 | refine below_set ?_ GE177.out) | exact HB.out))) : w.heap.size ≤ gb178)); have n5_ := Aside0.mk ((by rw [hg]; exact Nat.ne_of_lt (blk_lt (g := gb177) (o := .cells pxAQ55_ 35 (0, 0)) (by (with_reducible repeat (first | refine blk_drewN ?_ _ | refine blk_drew ?_ | refine blk_alloc ?_ _)); exact BK177.out)) : gb177 ≠ gb178)); have n6_ := Aside0.mk ((by rw [hg]; exact Nat.ne_of_gt (blk_lt (g := gb177) (o := .cells pxAQ55_ 35 (0, 0)) (by (with_reducible repeat (first | refine blk_drewN ?_ _ | refine blk_drew ?_ | refine blk_alloc ?_ _)); exact BK177.out)) : gb178 ≠ gb177)); clear BK177; clear HB; have BK177 := n0_; have HB := n1_; have BK178 := n2_; have GW178 := n3_; have GE178 := n4_; have NB177_178 := n5_; have NB178_177 := n6_; clear n0_ n1_ n2_ n3_ n4_ n5_ n6_; clear hb hbox hg; have hnb11 := NB177_178.out; have hnc11 := NB178_177.out; pxhQ5_ hcz12_0 w10 gb177 0 (.int .i64 a0_0) BK177; pxhQ5_ hcz12_1 w10 gb177 1 (.int .i64 a0_1) BK177; pxhQ5_ hcz12_2 w10 gb177 2 (.int .i64 a0_2) BK177; pxhQ5_ hcz12_3 w10 gb177 3 (.int .i64 a0_3) BK177; pxhQ5_ hcz12_4 w10 gb177 4 (.string a0_4) BK177; pxhQ5_ hcz12_5 w10 gb177 5 (.slice A0_5 l0_5.length c0_5) BK177; pxfQ5_ hfz12_0 BK177 0; pxfQ5_ hfz12_1 BK177 1; pxfQ5_ hfz12_2 BK177 2; pxfQ5_ hfz12_3 BK177 3; pxfQ5_ hfz12_4 BK177 4; pxfQ5_ hfz12_5 BK177 5; pxhQ5_ hcz13_0 w10 gb178 0 (.int .i64 a1_0) BK178; pxhQ5_ hcz13_1 w10 gb178 1 (.int .i64 a1_1) BK178; pxhQ5_ hcz13_2 w10 gb178 2 (.int .i64 a1_2) BK178; pxhQ5_ hcz13_3 w10 gb178 3 (.int .i64 a1_3) BK178; pxhQ5_ hcz13_4 w10 gb178 4 (.string a1_4) BK178; pxhQ5_ hcz13_5 w10 gb178 5 (.slice A1_5 l1_5.length c1_5) BK178; pxfQ5_ hfz13_0 BK178 0; pxfQ5_ hfz13_1 BK178 1; pxfQ5_ hfz13_2 BK178 2; pxfQ5_ hfz13_3 BK178 3; pxfQ5_ hfz13_4 BK178 4; pxfQ5_ hfz13_5 BK178 5) | ((with_reducible refine gate_callee (f := 53) rfl ?_); refine goesL_ (some 10) rfl rfl Try.func53 (by kernel_rfl) rfl pxAQ57_ rfl (by (try simp only [List.map_toArray, List.map_cons, List.map_nil]); first | done | rfl | (simp only [List.length_drop, List.length_take]; rfl)) ?_; (with_reducible refine (copyholdref01_Strings.calls k _ _ l0_5 _ _ l1_5 true _ ?side1 ?side2 ?side3 ?side4 A3.out).mono ?_); (case side1 => repeat (first | exact (Kd.C_below HR0_5.out HB.out) | (with_reducible refine Kd.C_alloc ?_ _) | (with_reducible refine Kd.C_drewN ?_ _) | (with_reducible refine Kd.C_drew ?_))); (case side2 => exact HC0_5.out); (case side3 => repeat (first | exact (Kd.C_below HR1_5.out HB.out) | (with_reducible refine Kd.C_alloc ?_ _) | (with_reducible refine Kd.C_drewN ?_ _) | (with_reducible refine Kd.C_drew ?_))); (case side4 => exact HC1_5.out); rintro e w' ⟨rfl, ⟨nd, rfl⟩⟩; refine ⟨_, rfl, ?_⟩))
            go_ret
            pxLQ55_
          · rw [if_neg c8] at H
            have c8b0 : (a0_3 == a1_3) = false := beq_eq_false_iff_ne.mpr c8
            have c8b1 : (a0_3 != a1_3) = true := bne_iff_ne.mpr c8
            obtain rfl := Option.some.inj H
            go_enter Try.func30, Try.ntmps30
            go_wp2_with (first | ((with_reducible refine gate_dst (N := 2) rfl ?_); refine box_event ?hg (N := 2) ?hd (cs := pxAQ55_) (t := 35) ?hr ?_; (case hd => rfl); (case hg => rfl); (case hr => first | (go_simp; done) | (go_simp; rfl)); intro gb177 hg w14 hbox hb; have n0_ := Aside0.mk (below_step (by repeat (first | (with_reducible first | exact HB.out | apply below_alloc | apply pw_below_drewN | apply below_drew1) | exact HB.out)) hb); have n1_ := Aside0.mk (hbox); have n2_ := Aside0.mk ((by rw [hg]; exact (below_size (by repeat (first | (with_reducible first | exact HB.out | apply below_alloc | apply pw_below_drewN | apply below_drew1) | exact HB.out))) : w.heap.size ≤ gb177)); have n3_ := Aside0.mk ((by rw [hg]; exact (below_size (by repeat (first | (with_reducible first | exact HB.out | apply below_alloc | apply pw_below_drewN | apply below_drew1) | exact HB.out))) : w.heap.size ≤ gb177)); clear HB; have HB := n0_; have BK177 := n1_; have GW177 := n2_; have GE177 := n3_; clear n0_ n1_ n2_ n3_; clear hb hbox hg) | ((with_reducible refine gate_dst (N := 3) rfl ?_); refine box_event ?hg (N := 3) ?hd (cs := pxAQ56_) (t := 35) ?hr ?_; (case hd => rfl); (case hg => rfl); (case hr => first | (go_simp; done) | (go_simp; rfl)); intro gb178 hg w15 hbox hb; have n0_ := Aside0.mk (blk_below (g := gb177) (o := .cells pxAQ55_ 35 (0, 0)) (by (with_reducible repeat (first | refine blk_drewN ?_ _ | refine blk_drew ?_ | refine blk_alloc ?_ _)); exact BK177.out) hb); have n1_ := Aside0.mk (below_step (by repeat (first | (with_reducible first | exact HB.out | apply below_alloc | apply pw_below_drewN | apply below_drew1 | refine below_set ?_ GE177.out) | exact HB.out)) hb); have n2_ := Aside0.mk (hbox); have n3_ := Aside0.mk ((by rw [hg]; exact (below_size (by repeat (first | (with_reducible first | exact HB.out | apply below_alloc | apply pw_below_drewN | apply below_drew1 | refine below_set ?_ GE177.out) | exact HB.out))) : w.heap.size ≤ gb178)); have n4_ := Aside0.mk ((by rw [hg]; exact (below_size (by repeat (first | (with_reducible first | exact HB.out | apply below_alloc | apply pw_below_drewN | apply below_drew1 | refine below_set ?_ GE177.out) | exact HB.out))) : w.heap.size ≤ gb178)); have n5_ := Aside0.mk ((by rw [hg]; exact Nat.ne_of_lt (blk_lt (g := gb177) (o := .cells pxAQ55_ 35 (0, 0)) (by (with_reducible repeat (first | refine blk_drewN ?_ _ | refine blk_drew ?_ | refine blk_alloc ?_ _)); exact BK177.out)) : gb177 ≠ gb178)); have n6_ := Aside0.mk ((by rw [hg]; exact Nat.ne_of_gt (blk_lt (g := gb177) (o := .cells pxAQ55_ 35 (0, 0)) (by (with_reducible repeat (first | refine blk_drewN ?_ _ | refine blk_drew ?_ | refine blk_alloc ?_ _)); exact BK177.out)) : gb178 ≠ gb177)); clear BK177; clear HB; have BK177 := n0_; have HB := n1_; have BK178 := n2_; have GW178 := n3_; have GE178 := n4_; have NB177_178 := n5_; have NB178_177 := n6_; clear n0_ n1_ n2_ n3_ n4_ n5_ n6_; clear hb hbox hg; have hnb16 := NB177_178.out; have hnc16 := NB178_177.out; pxhQ5_ hcz17_0 w15 gb177 0 (.int .i64 a0_0) BK177; pxhQ5_ hcz17_1 w15 gb177 1 (.int .i64 a0_1) BK177; pxhQ5_ hcz17_2 w15 gb177 2 (.int .i64 a0_2) BK177; pxhQ5_ hcz17_3 w15 gb177 3 (.int .i64 a0_3) BK177; pxhQ5_ hcz17_4 w15 gb177 4 (.string a0_4) BK177; pxhQ5_ hcz17_5 w15 gb177 5 (.slice A0_5 l0_5.length c0_5) BK177; pxfQ5_ hfz17_0 BK177 0; pxfQ5_ hfz17_1 BK177 1; pxfQ5_ hfz17_2 BK177 2; pxfQ5_ hfz17_3 BK177 3; pxfQ5_ hfz17_4 BK177 4; pxfQ5_ hfz17_5 BK177 5; pxhQ5_ hcz18_0 w15 gb178 0 (.int .i64 a1_0) BK178; pxhQ5_ hcz18_1 w15 gb178 1 (.int .i64 a1_1) BK178; pxhQ5_ hcz18_2 w15 gb178 2 (.int .i64 a1_2) BK178; pxhQ5_ hcz18_3 w15 gb178 3 (.int .i64 a1_3) BK178; pxhQ5_ hcz18_4 w15 gb178 4 (.string a1_4) BK178; pxhQ5_ hcz18_5 w15 gb178 5 (.slice A1_5 l1_5.length c1_5) BK178; pxfQ5_ hfz18_0 BK178 0; pxfQ5_ hfz18_1 BK178 1; pxfQ5_ hfz18_2 BK178 2; pxfQ5_ hfz18_3 BK178 3; pxfQ5_ hfz18_4 BK178 4; pxfQ5_ hfz18_5 BK178 5) | ((with_reducible refine gate_callee (f := 53) rfl ?_); refine goesL_ (some 10) rfl rfl Try.func53 (by kernel_rfl) rfl pxAQ57_ rfl (by (try simp only [List.map_toArray, List.map_cons, List.map_nil]); first | done | rfl | (simp only [List.length_drop, List.length_take]; rfl)) ?_; (with_reducible refine (copyholdref01_Strings.calls k _ _ l0_5 _ _ l1_5 true _ ?side1 ?side2 ?side3 ?side4 A3.out).mono ?_); (case side1 => repeat (first | exact (Kd.C_below HR0_5.out HB.out) | (with_reducible refine Kd.C_alloc ?_ _) | (with_reducible refine Kd.C_drewN ?_ _) | (with_reducible refine Kd.C_drew ?_))); (case side2 => exact HC0_5.out); (case side3 => repeat (first | exact (Kd.C_below HR1_5.out HB.out) | (with_reducible refine Kd.C_alloc ?_ _) | (with_reducible refine Kd.C_drewN ?_ _) | (with_reducible refine Kd.C_drew ?_))); (case side4 => exact HC1_5.out); rintro e w' ⟨rfl, ⟨nd, rfl⟩⟩; refine ⟨_, rfl, ?_⟩))
            go_ret
            pxLQ55_
        · rw [if_neg c7] at H
          have c7b0 : (a0_2 == a1_2) = false := beq_eq_false_iff_ne.mpr c7
          have c7b1 : (a0_2 != a1_2) = true := bne_iff_ne.mpr c7
          obtain rfl := Option.some.inj H
          go_enter Try.func30, Try.ntmps30
          go_wp2_with (first | ((with_reducible refine gate_dst (N := 2) rfl ?_); refine box_event ?hg (N := 2) ?hd (cs := pxAQ55_) (t := 35) ?hr ?_; (case hd => rfl); (case hg => rfl); (case hr => first | (go_simp; done) | (go_simp; rfl)); intro gb177 hg w19 hbox hb; have n0_ := Aside0.mk (below_step (by repeat (first | (with_reducible first | exact HB.out | apply below_alloc | apply pw_below_drewN | apply below_drew1) | exact HB.out)) hb); have n1_ := Aside0.mk (hbox); have n2_ := Aside0.mk ((by rw [hg]; exact (below_size (by repeat (first | (with_reducible first | exact HB.out | apply below_alloc | apply pw_below_drewN | apply below_drew1) | exact HB.out))) : w.heap.size ≤ gb177)); have n3_ := Aside0.mk ((by rw [hg]; exact (below_size (by repeat (first | (with_reducible first | exact HB.out | apply below_alloc | apply pw_below_drewN | apply below_drew1) | exact HB.out))) : w.heap.size ≤ gb177)); clear HB; have HB := n0_; have BK177 := n1_; have GW177 := n2_; have GE177 := n3_; clear n0_ n1_ n2_ n3_; clear hb hbox hg) | ((with_reducible refine gate_dst (N := 3) rfl ?_); refine box_event ?hg (N := 3) ?hd (cs := pxAQ56_) (t := 35) ?hr ?_; (case hd => rfl); (case hg => rfl); (case hr => first | (go_simp; done) | (go_simp; rfl)); intro gb178 hg w20 hbox hb; have n0_ := Aside0.mk (blk_below (g := gb177) (o := .cells pxAQ55_ 35 (0, 0)) (by (with_reducible repeat (first | refine blk_drewN ?_ _ | refine blk_drew ?_ | refine blk_alloc ?_ _)); exact BK177.out) hb); have n1_ := Aside0.mk (below_step (by repeat (first | (with_reducible first | exact HB.out | apply below_alloc | apply pw_below_drewN | apply below_drew1 | refine below_set ?_ GE177.out) | exact HB.out)) hb); have n2_ := Aside0.mk (hbox); have n3_ := Aside0.mk ((by rw [hg]; exact (below_size (by repeat (first | (with_reducible first | exact HB.out | apply below_alloc | apply pw_below_drewN | apply below_drew1 | refine below_set ?_ GE177.out) | exact HB.out))) : w.heap.size ≤ gb178)); have n4_ := Aside0.mk ((by rw [hg]; exact (below_size (by repeat (first | (with_reducible first | exact HB.out | apply below_alloc | apply pw_below_drewN | apply below_drew1 | refine below_set ?_ GE177.out) | exact HB.out))) : w.heap.size ≤ gb178)); have n5_ := Aside0.mk ((by rw [hg]; exact Nat.ne_of_lt (blk_lt (g := gb177) (o := .cells pxAQ55_ 35 (0, 0)) (by (with_reducible repeat (first | refine blk_drewN ?_ _ | refine blk_drew ?_ | refine blk_alloc ?_ _)); exact BK177.out)) : gb177 ≠ gb178)); have n6_ := Aside0.mk ((by rw [hg]; exact Nat.ne_of_gt (blk_lt (g := gb177) (o := .cells pxAQ55_ 35 (0, 0)) (by (with_reducible repeat (first | refine blk_drewN ?_ _ | refine blk_drew ?_ | refine blk_alloc ?_ _)); exact BK177.out)) : gb178 ≠ gb177)); clear BK177; clear HB; have BK177 := n0_; have HB := n1_; have BK178 := n2_; have GW178 := n3_; have GE178 := n4_; have NB177_178 := n5_; have NB178_177 := n6_; clear n0_ n1_ n2_ n3_ n4_ n5_ n6_; clear hb hbox hg; have hnb21 := NB177_178.out; have hnc21 := NB178_177.out; pxhQ5_ hcz22_0 w20 gb177 0 (.int .i64 a0_0) BK177; pxhQ5_ hcz22_1 w20 gb177 1 (.int .i64 a0_1) BK177; pxhQ5_ hcz22_2 w20 gb177 2 (.int .i64 a0_2) BK177; pxhQ5_ hcz22_3 w20 gb177 3 (.int .i64 a0_3) BK177; pxhQ5_ hcz22_4 w20 gb177 4 (.string a0_4) BK177; pxhQ5_ hcz22_5 w20 gb177 5 (.slice A0_5 l0_5.length c0_5) BK177; pxfQ5_ hfz22_0 BK177 0; pxfQ5_ hfz22_1 BK177 1; pxfQ5_ hfz22_2 BK177 2; pxfQ5_ hfz22_3 BK177 3; pxfQ5_ hfz22_4 BK177 4; pxfQ5_ hfz22_5 BK177 5; pxhQ5_ hcz23_0 w20 gb178 0 (.int .i64 a1_0) BK178; pxhQ5_ hcz23_1 w20 gb178 1 (.int .i64 a1_1) BK178; pxhQ5_ hcz23_2 w20 gb178 2 (.int .i64 a1_2) BK178; pxhQ5_ hcz23_3 w20 gb178 3 (.int .i64 a1_3) BK178; pxhQ5_ hcz23_4 w20 gb178 4 (.string a1_4) BK178; pxhQ5_ hcz23_5 w20 gb178 5 (.slice A1_5 l1_5.length c1_5) BK178; pxfQ5_ hfz23_0 BK178 0; pxfQ5_ hfz23_1 BK178 1; pxfQ5_ hfz23_2 BK178 2; pxfQ5_ hfz23_3 BK178 3; pxfQ5_ hfz23_4 BK178 4; pxfQ5_ hfz23_5 BK178 5) | ((with_reducible refine gate_callee (f := 53) rfl ?_); refine goesL_ (some 10) rfl rfl Try.func53 (by kernel_rfl) rfl pxAQ57_ rfl (by (try simp only [List.map_toArray, List.map_cons, List.map_nil]); first | done | rfl | (simp only [List.length_drop, List.length_take]; rfl)) ?_; (with_reducible refine (copyholdref01_Strings.calls k _ _ l0_5 _ _ l1_5 true _ ?side1 ?side2 ?side3 ?side4 A3.out).mono ?_); (case side1 => repeat (first | exact (Kd.C_below HR0_5.out HB.out) | (with_reducible refine Kd.C_alloc ?_ _) | (with_reducible refine Kd.C_drewN ?_ _) | (with_reducible refine Kd.C_drew ?_))); (case side2 => exact HC0_5.out); (case side3 => repeat (first | exact (Kd.C_below HR1_5.out HB.out) | (with_reducible refine Kd.C_alloc ?_ _) | (with_reducible refine Kd.C_drewN ?_ _) | (with_reducible refine Kd.C_drew ?_))); (case side4 => exact HC1_5.out); rintro e w' ⟨rfl, ⟨nd, rfl⟩⟩; refine ⟨_, rfl, ?_⟩))
          go_ret
          pxLQ55_
      · rw [if_neg c6] at H
        have c6b0 : (a0_1 == a1_1) = false := beq_eq_false_iff_ne.mpr c6
        have c6b1 : (a0_1 != a1_1) = true := bne_iff_ne.mpr c6
        obtain rfl := Option.some.inj H
        go_enter Try.func30, Try.ntmps30
        go_wp2_with (first | ((with_reducible refine gate_dst (N := 2) rfl ?_); refine box_event ?hg (N := 2) ?hd (cs := pxAQ55_) (t := 35) ?hr ?_; (case hd => rfl); (case hg => rfl); (case hr => first | (go_simp; done) | (go_simp; rfl)); intro gb177 hg w24 hbox hb; have n0_ := Aside0.mk (below_step (by repeat (first | (with_reducible first | exact HB.out | apply below_alloc | apply pw_below_drewN | apply below_drew1) | exact HB.out)) hb); have n1_ := Aside0.mk (hbox); have n2_ := Aside0.mk ((by rw [hg]; exact (below_size (by repeat (first | (with_reducible first | exact HB.out | apply below_alloc | apply pw_below_drewN | apply below_drew1) | exact HB.out))) : w.heap.size ≤ gb177)); have n3_ := Aside0.mk ((by rw [hg]; exact (below_size (by repeat (first | (with_reducible first | exact HB.out | apply below_alloc | apply pw_below_drewN | apply below_drew1) | exact HB.out))) : w.heap.size ≤ gb177)); clear HB; have HB := n0_; have BK177 := n1_; have GW177 := n2_; have GE177 := n3_; clear n0_ n1_ n2_ n3_; clear hb hbox hg) | ((with_reducible refine gate_dst (N := 3) rfl ?_); refine box_event ?hg (N := 3) ?hd (cs := pxAQ56_) (t := 35) ?hr ?_; (case hd => rfl); (case hg => rfl); (case hr => first | (go_simp; done) | (go_simp; rfl)); intro gb178 hg w25 hbox hb; have n0_ := Aside0.mk (blk_below (g := gb177) (o := .cells pxAQ55_ 35 (0, 0)) (by (with_reducible repeat (first | refine blk_drewN ?_ _ | refine blk_drew ?_ | refine blk_alloc ?_ _)); exact BK177.out) hb); have n1_ := Aside0.mk (below_step (by repeat (first | (with_reducible first | exact HB.out | apply below_alloc | apply pw_below_drewN | apply below_drew1 | refine below_set ?_ GE177.out) | exact HB.out)) hb); have n2_ := Aside0.mk (hbox); have n3_ := Aside0.mk ((by rw [hg]; exact (below_size (by repeat (first | (with_reducible first | exact HB.out | apply below_alloc | apply pw_below_drewN | apply below_drew1 | refine below_set ?_ GE177.out) | exact HB.out))) : w.heap.size ≤ gb178)); have n4_ := Aside0.mk ((by rw [hg]; exact (below_size (by repeat (first | (with_reducible first | exact HB.out | apply below_alloc | apply pw_below_drewN | apply below_drew1 | refine below_set ?_ GE177.out) | exact HB.out))) : w.heap.size ≤ gb178)); have n5_ := Aside0.mk ((by rw [hg]; exact Nat.ne_of_lt (blk_lt (g := gb177) (o := .cells pxAQ55_ 35 (0, 0)) (by (with_reducible repeat (first | refine blk_drewN ?_ _ | refine blk_drew ?_ | refine blk_alloc ?_ _)); exact BK177.out)) : gb177 ≠ gb178)); have n6_ := Aside0.mk ((by rw [hg]; exact Nat.ne_of_gt (blk_lt (g := gb177) (o := .cells pxAQ55_ 35 (0, 0)) (by (with_reducible repeat (first | refine blk_drewN ?_ _ | refine blk_drew ?_ | refine blk_alloc ?_ _)); exact BK177.out)) : gb178 ≠ gb177)); clear BK177; clear HB; have BK177 := n0_; have HB := n1_; have BK178 := n2_; have GW178 := n3_; have GE178 := n4_; have NB177_178 := n5_; have NB178_177 := n6_; clear n0_ n1_ n2_ n3_ n4_ n5_ n6_; clear hb hbox hg; have hnb26 := NB177_178.out; have hnc26 := NB178_177.out; pxhQ5_ hcz27_0 w25 gb177 0 (.int .i64 a0_0) BK177; pxhQ5_ hcz27_1 w25 gb177 1 (.int .i64 a0_1) BK177; pxhQ5_ hcz27_2 w25 gb177 2 (.int .i64 a0_2) BK177; pxhQ5_ hcz27_3 w25 gb177 3 (.int .i64 a0_3) BK177; pxhQ5_ hcz27_4 w25 gb177 4 (.string a0_4) BK177; pxhQ5_ hcz27_5 w25 gb177 5 (.slice A0_5 l0_5.length c0_5) BK177; pxfQ5_ hfz27_0 BK177 0; pxfQ5_ hfz27_1 BK177 1; pxfQ5_ hfz27_2 BK177 2; pxfQ5_ hfz27_3 BK177 3; pxfQ5_ hfz27_4 BK177 4; pxfQ5_ hfz27_5 BK177 5; pxhQ5_ hcz28_0 w25 gb178 0 (.int .i64 a1_0) BK178; pxhQ5_ hcz28_1 w25 gb178 1 (.int .i64 a1_1) BK178; pxhQ5_ hcz28_2 w25 gb178 2 (.int .i64 a1_2) BK178; pxhQ5_ hcz28_3 w25 gb178 3 (.int .i64 a1_3) BK178; pxhQ5_ hcz28_4 w25 gb178 4 (.string a1_4) BK178; pxhQ5_ hcz28_5 w25 gb178 5 (.slice A1_5 l1_5.length c1_5) BK178; pxfQ5_ hfz28_0 BK178 0; pxfQ5_ hfz28_1 BK178 1; pxfQ5_ hfz28_2 BK178 2; pxfQ5_ hfz28_3 BK178 3; pxfQ5_ hfz28_4 BK178 4; pxfQ5_ hfz28_5 BK178 5) | ((with_reducible refine gate_callee (f := 53) rfl ?_); refine goesL_ (some 10) rfl rfl Try.func53 (by kernel_rfl) rfl pxAQ57_ rfl (by (try simp only [List.map_toArray, List.map_cons, List.map_nil]); first | done | rfl | (simp only [List.length_drop, List.length_take]; rfl)) ?_; (with_reducible refine (copyholdref01_Strings.calls k _ _ l0_5 _ _ l1_5 true _ ?side1 ?side2 ?side3 ?side4 A3.out).mono ?_); (case side1 => repeat (first | exact (Kd.C_below HR0_5.out HB.out) | (with_reducible refine Kd.C_alloc ?_ _) | (with_reducible refine Kd.C_drewN ?_ _) | (with_reducible refine Kd.C_drew ?_))); (case side2 => exact HC0_5.out); (case side3 => repeat (first | exact (Kd.C_below HR1_5.out HB.out) | (with_reducible refine Kd.C_alloc ?_ _) | (with_reducible refine Kd.C_drewN ?_ _) | (with_reducible refine Kd.C_drew ?_))); (case side4 => exact HC1_5.out); rintro e w' ⟨rfl, ⟨nd, rfl⟩⟩; refine ⟨_, rfl, ?_⟩))
        go_ret
        pxLQ55_
    · rw [if_neg c5] at H
      have c5b0 : (a0_0 == a1_0) = false := beq_eq_false_iff_ne.mpr c5
      have c5b1 : (a0_0 != a1_0) = true := bne_iff_ne.mpr c5
      obtain rfl := Option.some.inj H
      go_enter Try.func30, Try.ntmps30
      go_wp2_with (first | ((with_reducible refine gate_dst (N := 2) rfl ?_); refine box_event ?hg (N := 2) ?hd (cs := pxAQ55_) (t := 35) ?hr ?_; (case hd => rfl); (case hg => rfl); (case hr => first | (go_simp; done) | (go_simp; rfl)); intro gb177 hg w29 hbox hb; have n0_ := Aside0.mk (below_step (by repeat (first | (with_reducible first | exact HB.out | apply below_alloc | apply pw_below_drewN | apply below_drew1) | exact HB.out)) hb); have n1_ := Aside0.mk (hbox); have n2_ := Aside0.mk ((by rw [hg]; exact (below_size (by repeat (first | (with_reducible first | exact HB.out | apply below_alloc | apply pw_below_drewN | apply below_drew1) | exact HB.out))) : w.heap.size ≤ gb177)); have n3_ := Aside0.mk ((by rw [hg]; exact (below_size (by repeat (first | (with_reducible first | exact HB.out | apply below_alloc | apply pw_below_drewN | apply below_drew1) | exact HB.out))) : w.heap.size ≤ gb177)); clear HB; have HB := n0_; have BK177 := n1_; have GW177 := n2_; have GE177 := n3_; clear n0_ n1_ n2_ n3_; clear hb hbox hg) | ((with_reducible refine gate_dst (N := 3) rfl ?_); refine box_event ?hg (N := 3) ?hd (cs := pxAQ56_) (t := 35) ?hr ?_; (case hd => rfl); (case hg => rfl); (case hr => first | (go_simp; done) | (go_simp; rfl)); intro gb178 hg w30 hbox hb; have n0_ := Aside0.mk (blk_below (g := gb177) (o := .cells pxAQ55_ 35 (0, 0)) (by (with_reducible repeat (first | refine blk_drewN ?_ _ | refine blk_drew ?_ | refine blk_alloc ?_ _)); exact BK177.out) hb); have n1_ := Aside0.mk (below_step (by repeat (first | (with_reducible first | exact HB.out | apply below_alloc | apply pw_below_drewN | apply below_drew1 | refine below_set ?_ GE177.out) | exact HB.out)) hb); have n2_ := Aside0.mk (hbox); have n3_ := Aside0.mk ((by rw [hg]; exact (below_size (by repeat (first | (with_reducible first | exact HB.out | apply below_alloc | apply pw_below_drewN | apply below_drew1 | refine below_set ?_ GE177.out) | exact HB.out))) : w.heap.size ≤ gb178)); have n4_ := Aside0.mk ((by rw [hg]; exact (below_size (by repeat (first | (with_reducible first | exact HB.out | apply below_alloc | apply pw_below_drewN | apply below_drew1 | refine below_set ?_ GE177.out) | exact HB.out))) : w.heap.size ≤ gb178)); have n5_ := Aside0.mk ((by rw [hg]; exact Nat.ne_of_lt (blk_lt (g := gb177) (o := .cells pxAQ55_ 35 (0, 0)) (by (with_reducible repeat (first | refine blk_drewN ?_ _ | refine blk_drew ?_ | refine blk_alloc ?_ _)); exact BK177.out)) : gb177 ≠ gb178)); have n6_ := Aside0.mk ((by rw [hg]; exact Nat.ne_of_gt (blk_lt (g := gb177) (o := .cells pxAQ55_ 35 (0, 0)) (by (with_reducible repeat (first | refine blk_drewN ?_ _ | refine blk_drew ?_ | refine blk_alloc ?_ _)); exact BK177.out)) : gb178 ≠ gb177)); clear BK177; clear HB; have BK177 := n0_; have HB := n1_; have BK178 := n2_; have GW178 := n3_; have GE178 := n4_; have NB177_178 := n5_; have NB178_177 := n6_; clear n0_ n1_ n2_ n3_ n4_ n5_ n6_; clear hb hbox hg; have hnb31 := NB177_178.out; have hnc31 := NB178_177.out; pxhQ5_ hcz32_0 w30 gb177 0 (.int .i64 a0_0) BK177; pxhQ5_ hcz32_1 w30 gb177 1 (.int .i64 a0_1) BK177; pxhQ5_ hcz32_2 w30 gb177 2 (.int .i64 a0_2) BK177; pxhQ5_ hcz32_3 w30 gb177 3 (.int .i64 a0_3) BK177; pxhQ5_ hcz32_4 w30 gb177 4 (.string a0_4) BK177; pxhQ5_ hcz32_5 w30 gb177 5 (.slice A0_5 l0_5.length c0_5) BK177; pxfQ5_ hfz32_0 BK177 0; pxfQ5_ hfz32_1 BK177 1; pxfQ5_ hfz32_2 BK177 2; pxfQ5_ hfz32_3 BK177 3; pxfQ5_ hfz32_4 BK177 4; pxfQ5_ hfz32_5 BK177 5; pxhQ5_ hcz33_0 w30 gb178 0 (.int .i64 a1_0) BK178; pxhQ5_ hcz33_1 w30 gb178 1 (.int .i64 a1_1) BK178; pxhQ5_ hcz33_2 w30 gb178 2 (.int .i64 a1_2) BK178; pxhQ5_ hcz33_3 w30 gb178 3 (.int .i64 a1_3) BK178; pxhQ5_ hcz33_4 w30 gb178 4 (.string a1_4) BK178; pxhQ5_ hcz33_5 w30 gb178 5 (.slice A1_5 l1_5.length c1_5) BK178; pxfQ5_ hfz33_0 BK178 0; pxfQ5_ hfz33_1 BK178 1; pxfQ5_ hfz33_2 BK178 2; pxfQ5_ hfz33_3 BK178 3; pxfQ5_ hfz33_4 BK178 4; pxfQ5_ hfz33_5 BK178 5) | ((with_reducible refine gate_callee (f := 53) rfl ?_); refine goesL_ (some 10) rfl rfl Try.func53 (by kernel_rfl) rfl pxAQ57_ rfl (by (try simp only [List.map_toArray, List.map_cons, List.map_nil]); first | done | rfl | (simp only [List.length_drop, List.length_take]; rfl)) ?_; (with_reducible refine (copyholdref01_Strings.calls k _ _ l0_5 _ _ l1_5 true _ ?side1 ?side2 ?side3 ?side4 A3.out).mono ?_); (case side1 => repeat (first | exact (Kd.C_below HR0_5.out HB.out) | (with_reducible refine Kd.C_alloc ?_ _) | (with_reducible refine Kd.C_drewN ?_ _) | (with_reducible refine Kd.C_drew ?_))); (case side2 => exact HC0_5.out); (case side3 => repeat (first | exact (Kd.C_below HR1_5.out HB.out) | (with_reducible refine Kd.C_alloc ?_ _) | (with_reducible refine Kd.C_drewN ?_ _) | (with_reducible refine Kd.C_drew ?_))); (case side4 => exact HC1_5.out); rintro e w' ⟨rfl, ⟨nd, rfl⟩⟩; refine ⟨_, rfl, ?_⟩))
      go_ret
      pxLQ55_
  · replace c4 := Bool.eq_false_iff.mpr c4
    subst c4
    pxLQ56_
    clear H
    have H := H1
    clear H1
    obtain rfl := Option.some.inj H
    go_enter Try.func30, Try.ntmps30
    go_wp2_with (first | ((with_reducible refine gate_dst (N := 2) rfl ?_); refine box_event ?hg (N := 2) ?hd (cs := pxAQ55_) (t := 35) ?hr ?_; (case hd => rfl); (case hg => rfl); (case hr => first | (go_simp; done) | (go_simp; rfl)); intro gb177 hg w34 hbox hb; have n0_ := Aside0.mk (below_step (by repeat (first | (with_reducible first | exact HB.out | apply below_alloc | apply pw_below_drewN | apply below_drew1) | exact HB.out)) hb); have n1_ := Aside0.mk (hbox); have n2_ := Aside0.mk ((by rw [hg]; exact (below_size (by repeat (first | (with_reducible first | exact HB.out | apply below_alloc | apply pw_below_drewN | apply below_drew1) | exact HB.out))) : w.heap.size ≤ gb177)); have n3_ := Aside0.mk ((by rw [hg]; exact (below_size (by repeat (first | (with_reducible first | exact HB.out | apply below_alloc | apply pw_below_drewN | apply below_drew1) | exact HB.out))) : w.heap.size ≤ gb177)); clear HB; have HB := n0_; have BK177 := n1_; have GW177 := n2_; have GE177 := n3_; clear n0_ n1_ n2_ n3_; clear hb hbox hg) | ((with_reducible refine gate_dst (N := 3) rfl ?_); refine box_event ?hg (N := 3) ?hd (cs := pxAQ56_) (t := 35) ?hr ?_; (case hd => rfl); (case hg => rfl); (case hr => first | (go_simp; done) | (go_simp; rfl)); intro gb178 hg w35 hbox hb; have n0_ := Aside0.mk (blk_below (g := gb177) (o := .cells pxAQ55_ 35 (0, 0)) (by (with_reducible repeat (first | refine blk_drewN ?_ _ | refine blk_drew ?_ | refine blk_alloc ?_ _)); exact BK177.out) hb); have n1_ := Aside0.mk (below_step (by repeat (first | (with_reducible first | exact HB.out | apply below_alloc | apply pw_below_drewN | apply below_drew1 | refine below_set ?_ GE177.out) | exact HB.out)) hb); have n2_ := Aside0.mk (hbox); have n3_ := Aside0.mk ((by rw [hg]; exact (below_size (by repeat (first | (with_reducible first | exact HB.out | apply below_alloc | apply pw_below_drewN | apply below_drew1 | refine below_set ?_ GE177.out) | exact HB.out))) : w.heap.size ≤ gb178)); have n4_ := Aside0.mk ((by rw [hg]; exact (below_size (by repeat (first | (with_reducible first | exact HB.out | apply below_alloc | apply pw_below_drewN | apply below_drew1 | refine below_set ?_ GE177.out) | exact HB.out))) : w.heap.size ≤ gb178)); have n5_ := Aside0.mk ((by rw [hg]; exact Nat.ne_of_lt (blk_lt (g := gb177) (o := .cells pxAQ55_ 35 (0, 0)) (by (with_reducible repeat (first | refine blk_drewN ?_ _ | refine blk_drew ?_ | refine blk_alloc ?_ _)); exact BK177.out)) : gb177 ≠ gb178)); have n6_ := Aside0.mk ((by rw [hg]; exact Nat.ne_of_gt (blk_lt (g := gb177) (o := .cells pxAQ55_ 35 (0, 0)) (by (with_reducible repeat (first | refine blk_drewN ?_ _ | refine blk_drew ?_ | refine blk_alloc ?_ _)); exact BK177.out)) : gb178 ≠ gb177)); clear BK177; clear HB; have BK177 := n0_; have HB := n1_; have BK178 := n2_; have GW178 := n3_; have GE178 := n4_; have NB177_178 := n5_; have NB178_177 := n6_; clear n0_ n1_ n2_ n3_ n4_ n5_ n6_; clear hb hbox hg; have hnb36 := NB177_178.out; have hnc36 := NB178_177.out; pxhQ5_ hcz37_0 w35 gb177 0 (.int .i64 a0_0) BK177; pxhQ5_ hcz37_1 w35 gb177 1 (.int .i64 a0_1) BK177; pxhQ5_ hcz37_2 w35 gb177 2 (.int .i64 a0_2) BK177; pxhQ5_ hcz37_3 w35 gb177 3 (.int .i64 a0_3) BK177; pxhQ5_ hcz37_4 w35 gb177 4 (.string a0_4) BK177; pxhQ5_ hcz37_5 w35 gb177 5 (.slice A0_5 l0_5.length c0_5) BK177; pxfQ5_ hfz37_0 BK177 0; pxfQ5_ hfz37_1 BK177 1; pxfQ5_ hfz37_2 BK177 2; pxfQ5_ hfz37_3 BK177 3; pxfQ5_ hfz37_4 BK177 4; pxfQ5_ hfz37_5 BK177 5; pxhQ5_ hcz38_0 w35 gb178 0 (.int .i64 a1_0) BK178; pxhQ5_ hcz38_1 w35 gb178 1 (.int .i64 a1_1) BK178; pxhQ5_ hcz38_2 w35 gb178 2 (.int .i64 a1_2) BK178; pxhQ5_ hcz38_3 w35 gb178 3 (.int .i64 a1_3) BK178; pxhQ5_ hcz38_4 w35 gb178 4 (.string a1_4) BK178; pxhQ5_ hcz38_5 w35 gb178 5 (.slice A1_5 l1_5.length c1_5) BK178; pxfQ5_ hfz38_0 BK178 0; pxfQ5_ hfz38_1 BK178 1; pxfQ5_ hfz38_2 BK178 2; pxfQ5_ hfz38_3 BK178 3; pxfQ5_ hfz38_4 BK178 4; pxfQ5_ hfz38_5 BK178 5) | ((with_reducible refine gate_callee (f := 53) rfl ?_); refine goesL_ (some 10) rfl rfl Try.func53 (by kernel_rfl) rfl pxAQ57_ rfl (by (try simp only [List.map_toArray, List.map_cons, List.map_nil]); first | done | rfl | (simp only [List.length_drop, List.length_take]; rfl)) ?_; (with_reducible refine (copyholdref01_Strings.calls k _ _ l0_5 _ _ l1_5 false _ ?side1 ?side2 ?side3 ?side4 A3.out).mono ?_); (case side1 => repeat (first | exact (Kd.C_below HR0_5.out HB.out) | (with_reducible refine Kd.C_alloc ?_ _) | (with_reducible refine Kd.C_drewN ?_ _) | (with_reducible refine Kd.C_drew ?_))); (case side2 => exact HC0_5.out); (case side3 => repeat (first | exact (Kd.C_below HR1_5.out HB.out) | (with_reducible refine Kd.C_alloc ?_ _) | (with_reducible refine Kd.C_drewN ?_ _) | (with_reducible refine Kd.C_drew ?_))); (case side4 => exact HC1_5.out); rintro e w' ⟨rfl, ⟨nd, rfl⟩⟩; refine ⟨_, rfl, ?_⟩))
    go_ret
    pxLQ55_

/-! ### copyholdref15_Same: function 14 -/
def copyholdref15_Same.f (k : Nat) (a0_0 : Int) (a0_1 : Int) (a0_2 : Int) (a0_3 : Int) (a0_4 : Int) (a0_5 : Int) (a0_6 : Int) (a0_7 : Int) (a0_8 : Int) (a0_9 : ByteArray) (l0_10 : List ByteArray) (a1_0 : Int) (a1_1 : Int) (a1_2 : Int) (a1_3 : Int) (a1_4 : Int) (a1_5 : Int) (a1_6 : Int) (a1_7 : Int) (a1_8 : Int) (a1_9 : ByteArray) (l1_10 : List ByteArray) : Option (Bool) := (copyholdref11_Same.f k a0_5 a0_6 a0_7 a0_8 a0_9 l0_10 a1_5 a1_6 a1_7 a1_8 a1_9 l1_10).bind fun t182 => (if t182 = true then (if a0_0 = a1_0 then (if a0_1 = a1_1 then (if a0_2 = a1_2 then (if a0_3 = a1_3 then (some (a0_4 == a1_4)) else (some false)) else (some false)) else (some false)) else (some false)) else (some false))
theorem copyholdref15_Same.mono : ∀ a0 a1 a2 a3 a4 a5 a6 a7 a8 a9 a10 a11 a12 a13 a14 a15 a16 a17 a18 a19 a20 a21 k, LeO (copyholdref15_Same.f k a0 a1 a2 a3 a4 a5 a6 a7 a8 a9 a10 a11 a12 a13 a14 a15 a16 a17 a18 a19 a20 a21) (copyholdref15_Same.f (k + 1) a0 a1 a2 a3 a4 a5 a6 a7 a8 a9 a10 a11 a12 a13 a14 a15 a16 a17 a18 a19 a20 a21) := by
  intro a0 a1 a2 a3 a4 a5 a6 a7 a8 a9 a10 a11 a12 a13 a14 a15 a16 a17 a18 a19 a20 a21 k
  unfold copyholdref15_Same.f
  repeat' first
      | (with_reducible exact copyholdref11_Same.mono _ _ _ _ _ _ _ _ _ _ _ _ _)
      | (with_reducible exact LeO.refl _)
      | (with_reducible exact LeO.none _)
      | (with_reducible refine LeO.ite ?_ ?_)
      | (with_reducible refine LeO.bind ?_ (fun _ => ?_))
      | exact copyholdref11_Same.mono _ _ _ _ _ _ _ _ _ _ _ _ _
      | exact LeO.none _
      | refine LeO.ite ?_ ?_
      | refine LeO.bind ?_ (fun _ => ?_)
set_option maxHeartbeats 8000000 in
set_option maxRecDepth 100000 in
theorem copyholdref15_Same.calls (k : Nat) (a0_0 : Int) (a0_1 : Int) (a0_2 : Int) (a0_3 : Int) (a0_4 : Int) (a0_5 : Int) (a0_6 : Int) (a0_7 : Int) (a0_8 : Int) (a0_9 : ByteArray) (A0_10 : Option Addr) (c0_10 : Nat) (l0_10 : List ByteArray) (a1_0 : Int) (a1_1 : Int) (a1_2 : Int) (a1_3 : Int) (a1_4 : Int) (a1_5 : Int) (a1_6 : Int) (a1_7 : Int) (a1_8 : Int) (a1_9 : ByteArray) (A1_10 : Option Addr) (c1_10 : Nat) (l1_10 : List ByteArray) (r : Bool) (w : World) (hr0_10 : Kd.C Kd.string w A0_10 l0_10.length l0_10) (hc0_10 : l0_10.length ≤ c0_10) (hr1_10 : Kd.C Kd.string w A1_10 l1_10.length l1_10) (hc1_10 : l1_10.length ≤ c1_10) (h : copyholdref15_Same.f k a0_0 a0_1 a0_2 a0_3 a0_4 a0_5 a0_6 a0_7 a0_8 a0_9 l0_10 a1_0 a1_1 a1_2 a1_3 a1_4 a1_5 a1_6 a1_7 a1_8 a1_9 l1_10 = some r) :
    Calls Try.prog 14 #[.agg pxAQ51_, .agg pxAQ52_] w fun e w' => e = .returned (.bool r) ∧ Below w.heap.size w w' := by
  have hu37 := Try.underlying37
  have hu35 := Try.underlying35
  have HR0_10 := Aside0.mk hr0_10
  have HC0_10 := Aside0.mk hc0_10
  clear hr0_10 hc0_10
  have HR1_10 := Aside0.mk hr1_10
  have HC1_10 := Aside0.mk hc1_10
  clear hr1_10 hc1_10
  have HB := Aside0.mk (Below.refl w.heap.size w)
  have H : ((copyholdref11_Same.f k a0_5 a0_6 a0_7 a0_8 a0_9 l0_10 a1_5 a1_6 a1_7 a1_8 a1_9 l1_10).bind fun t182 => (if t182 = true then (if a0_0 = a1_0 then (if a0_1 = a1_1 then (if a0_2 = a1_2 then (if a0_3 = a1_3 then (some (a0_4 == a1_4)) else (some false)) else (some false)) else (some false)) else (some false)) else (some false))) = some r := h
  clear h
  replace H := Option.bind_eq_some_iff.mp H
  obtain ⟨t182, A30, H⟩ := H
  replace H : (if t182 = true then (if a0_0 = a1_0 then (if a0_1 = a1_1 then (if a0_2 = a1_2 then (if a0_3 = a1_3 then (some (a0_4 == a1_4)) else (some false)) else (some false)) else (some false)) else (some false)) else (some false)) = some r := H
  have A3 := Aside0.mk A30
  clear A30
  by_cases c4 : t182 = true
  · subst c4
    have H1 : (if a0_0 = a1_0 then (if a0_1 = a1_1 then (if a0_2 = a1_2 then (if a0_3 = a1_3 then (some (a0_4 == a1_4)) else (some false)) else (some false)) else (some false)) else (some false)) = some r := by rw [if_pos rfl] at H; exact H
    clear H
    have H := H1
    clear H1
    by_cases c5 : a0_0 = a1_0
    · rw [if_pos c5] at H
      have c5b0 : (a0_0 == a1_0) = true := beq_iff_eq.mpr c5
      have c5b1 : (a0_0 != a1_0) = false := bne_eq_false_iff_eq.mpr c5
      clear c5
      by_cases c6 : a0_1 = a1_1
      · rw [if_pos c6] at H
        have c6b0 : (a0_1 == a1_1) = true := beq_iff_eq.mpr c6
        have c6b1 : (a0_1 != a1_1) = false := bne_eq_false_iff_eq.mpr c6
        clear c6
        by_cases c7 : a0_2 = a1_2
        · rw [if_pos c7] at H
          have c7b0 : (a0_2 == a1_2) = true := beq_iff_eq.mpr c7
          have c7b1 : (a0_2 != a1_2) = false := bne_eq_false_iff_eq.mpr c7
          clear c7
          by_cases c8 : a0_3 = a1_3
          · rw [if_pos c8] at H
            have c8b0 : (a0_3 == a1_3) = true := beq_iff_eq.mpr c8
            have c8b1 : (a0_3 != a1_3) = false := bne_eq_false_iff_eq.mpr c8
            clear c8
            obtain rfl := Option.some.inj H
            go_enter Try.func14, Try.ntmps14
            go_wp2_with (first | ((with_reducible refine gate_dst (N := 2) rfl ?_); refine box_event ?hg (N := 2) ?hd (cs := pxAQ51_) (t := 37) ?hr ?_; (case hd => rfl); (case hg => rfl); (case hr => first | (go_simp; done) | (go_simp; rfl)); intro gb180 hg w9 hbox hb; have n0_ := Aside0.mk (below_step (by repeat (first | (with_reducible first | exact HB.out | apply below_alloc | apply pw_below_drewN | apply below_drew1) | exact HB.out)) hb); have n1_ := Aside0.mk (hbox); have n2_ := Aside0.mk ((by rw [hg]; exact (below_size (by repeat (first | (with_reducible first | exact HB.out | apply below_alloc | apply pw_below_drewN | apply below_drew1) | exact HB.out))) : w.heap.size ≤ gb180)); have n3_ := Aside0.mk ((by rw [hg]; exact (below_size (by repeat (first | (with_reducible first | exact HB.out | apply below_alloc | apply pw_below_drewN | apply below_drew1) | exact HB.out))) : w.heap.size ≤ gb180)); clear HB; have HB := n0_; have BK180 := n1_; have GW180 := n2_; have GE180 := n3_; clear n0_ n1_ n2_ n3_; clear hb hbox hg) | ((with_reducible refine gate_dst (N := 3) rfl ?_); refine box_event ?hg (N := 3) ?hd (cs := pxAQ52_) (t := 37) ?hr ?_; (case hd => rfl); (case hg => rfl); (case hr => first | (go_simp; done) | (go_simp; rfl)); intro gb181 hg w10 hbox hb; have n0_ := Aside0.mk (blk_below (g := gb180) (o := .cells pxAQ51_ 37 (0, 0)) (by (with_reducible repeat (first | refine blk_drewN ?_ _ | refine blk_drew ?_ | refine blk_alloc ?_ _)); exact BK180.out) hb); have n1_ := Aside0.mk (below_step (by repeat (first | (with_reducible first | exact HB.out | apply below_alloc | apply pw_below_drewN | apply below_drew1 | refine below_set ?_ GE180.out) | exact HB.out)) hb); have n2_ := Aside0.mk (hbox); have n3_ := Aside0.mk ((by rw [hg]; exact (below_size (by repeat (first | (with_reducible first | exact HB.out | apply below_alloc | apply pw_below_drewN | apply below_drew1 | refine below_set ?_ GE180.out) | exact HB.out))) : w.heap.size ≤ gb181)); have n4_ := Aside0.mk ((by rw [hg]; exact (below_size (by repeat (first | (with_reducible first | exact HB.out | apply below_alloc | apply pw_below_drewN | apply below_drew1 | refine below_set ?_ GE180.out) | exact HB.out))) : w.heap.size ≤ gb181)); have n5_ := Aside0.mk ((by rw [hg]; exact Nat.ne_of_lt (blk_lt (g := gb180) (o := .cells pxAQ51_ 37 (0, 0)) (by (with_reducible repeat (first | refine blk_drewN ?_ _ | refine blk_drew ?_ | refine blk_alloc ?_ _)); exact BK180.out)) : gb180 ≠ gb181)); have n6_ := Aside0.mk ((by rw [hg]; exact Nat.ne_of_gt (blk_lt (g := gb180) (o := .cells pxAQ51_ 37 (0, 0)) (by (with_reducible repeat (first | refine blk_drewN ?_ _ | refine blk_drew ?_ | refine blk_alloc ?_ _)); exact BK180.out)) : gb181 ≠ gb180)); clear BK180; clear HB; have BK180 := n0_; have HB := n1_; have BK181 := n2_; have GW181 := n3_; have GE181 := n4_; have NB180_181 := n5_; have NB181_180 := n6_; clear n0_ n1_ n2_ n3_ n4_ n5_ n6_; clear hb hbox hg; have hnb11 := NB180_181.out; have hnc11 := NB181_180.out; pxhQ5_ hcz12_0 w10 gb180 0 (.int .i64 a0_0) BK180; pxhQ5_ hcz12_1 w10 gb180 1 (.int .i64 a0_1) BK180; pxhQ5_ hcz12_2 w10 gb180 2 (.int .i64 a0_2) BK180; pxhQ5_ hcz12_3 w10 gb180 3 (.int .i64 a0_3) BK180; pxhQ5_ hcz12_4 w10 gb180 4 (.int .i64 a0_4) BK180; pxhQ5_ hcz12_5 w10 gb180 5 (.int .i64 a0_5) BK180; pxhQ5_ hcz12_6 w10 gb180 6 (.int .i64 a0_6) BK180; pxhQ5_ hcz12_7 w10 gb180 7 (.int .i64 a0_7) BK180; pxhQ5_ hcz12_8 w10 gb180 8 (.int .i64 a0_8) BK180; pxhQ5_ hcz12_9 w10 gb180 9 (.string a0_9) BK180; pxhQ5_ hcz12_10 w10 gb180 10 (.slice A0_10 l0_10.length c0_10) BK180; pxfQ5_ hfz12_0 BK180 0; pxfQ5_ hfz12_1 BK180 1; pxfQ5_ hfz12_2 BK180 2; pxfQ5_ hfz12_3 BK180 3; pxfQ5_ hfz12_4 BK180 4; pxfQ5_ hfz12_5 BK180 5; pxfQ5_ hfz12_6 BK180 6; pxfQ5_ hfz12_7 BK180 7; pxfQ5_ hfz12_8 BK180 8; pxfQ5_ hfz12_9 BK180 9; pxfQ5_ hfz12_10 BK180 10; pxhQ5_ hcz13_0 w10 gb181 0 (.int .i64 a1_0) BK181; pxhQ5_ hcz13_1 w10 gb181 1 (.int .i64 a1_1) BK181; pxhQ5_ hcz13_2 w10 gb181 2 (.int .i64 a1_2) BK181; pxhQ5_ hcz13_3 w10 gb181 3 (.int .i64 a1_3) BK181; pxhQ5_ hcz13_4 w10 gb181 4 (.int .i64 a1_4) BK181; pxhQ5_ hcz13_5 w10 gb181 5 (.int .i64 a1_5) BK181; pxhQ5_ hcz13_6 w10 gb181 6 (.int .i64 a1_6) BK181; pxhQ5_ hcz13_7 w10 gb181 7 (.int .i64 a1_7) BK181; pxhQ5_ hcz13_8 w10 gb181 8 (.int .i64 a1_8) BK181; pxhQ5_ hcz13_9 w10 gb181 9 (.string a1_9) BK181; pxhQ5_ hcz13_10 w10 gb181 10 (.slice A1_10 l1_10.length c1_10) BK181; pxfQ5_ hfz13_0 BK181 0; pxfQ5_ hfz13_1 BK181 1; pxfQ5_ hfz13_2 BK181 2; pxfQ5_ hfz13_3 BK181 3; pxfQ5_ hfz13_4 BK181 4; pxfQ5_ hfz13_5 BK181 5; pxfQ5_ hfz13_6 BK181 6; pxfQ5_ hfz13_7 BK181 7; pxfQ5_ hfz13_8 BK181 8; pxfQ5_ hfz13_9 BK181 9; pxfQ5_ hfz13_10 BK181 10) | ((with_reducible refine gate_callee (f := 30) rfl ?_); refine goesL_ (some 10) rfl rfl Try.func30 (by kernel_rfl) rfl pxAQ50_ rfl (by (try simp only [List.map_toArray, List.map_cons, List.map_nil]); first | done | rfl | (simp only [List.length_drop, List.length_take]; rfl)) ?_; (with_reducible refine (copyholdref11_Same.calls k a0_5 a0_6 a0_7 a0_8 a0_9 _ _ l0_10 a1_5 a1_6 a1_7 a1_8 a1_9 _ _ l1_10 true _ ?side1 ?side2 ?side3 ?side4 A3.out).mono ?_); (case side1 => repeat (first | exact (Kd.C_below HR0_10.out HB.out) | (with_reducible refine Kd.C_alloc ?_ _) | (with_reducible refine Kd.C_drewN ?_ _) | (with_reducible refine Kd.C_drew ?_))); (case side2 => exact HC0_10.out); (case side3 => repeat (first | exact (Kd.C_below HR1_10.out HB.out) | (with_reducible refine Kd.C_alloc ?_ _) | (with_reducible refine Kd.C_drewN ?_ _) | (with_reducible refine Kd.C_drew ?_))); (case side4 => exact HC1_10.out); rintro e w14 ⟨rfl, hb⟩; refine ⟨_, rfl, ?_⟩; have n0_ := Aside0.mk (blk_below (g := gb180) (o := .cells pxAQ51_ 37 (0, 0)) (by (with_reducible repeat (first | refine blk_drewN ?_ _ | refine blk_drew ?_ | refine blk_alloc ?_ _)); exact BK180.out) hb); have n1_ := Aside0.mk (blk_below (g := gb181) (o := .cells pxAQ52_ 37 (0, 0)) (by (with_reducible repeat (first | refine blk_drewN ?_ _ | refine blk_drew ?_ | refine blk_alloc ?_ _)); exact BK181.out) hb); have n2_ := Aside0.mk (below_step (by repeat (first | (with_reducible first | exact HB.out | apply below_alloc | apply pw_below_drewN | apply below_drew1 | refine below_set ?_ GE180.out | refine below_set ?_ GE181.out) | exact HB.out)) hb); clear BK180; clear BK181; clear HB; have BK180 := n0_; have BK181 := n1_; have HB := n2_; clear n0_ n1_ n2_; (try clear hb); (try clear hb2); (try clear hk); (try clear hi); pxhQ5_ hcz15_0 w14 gb180 0 (.int .i64 a0_0) BK180; pxhQ5_ hcz15_1 w14 gb180 1 (.int .i64 a0_1) BK180; pxhQ5_ hcz15_2 w14 gb180 2 (.int .i64 a0_2) BK180; pxhQ5_ hcz15_3 w14 gb180 3 (.int .i64 a0_3) BK180; pxhQ5_ hcz15_4 w14 gb180 4 (.int .i64 a0_4) BK180; pxhQ5_ hcz15_5 w14 gb180 5 (.int .i64 a0_5) BK180; pxhQ5_ hcz15_6 w14 gb180 6 (.int .i64 a0_6) BK180; pxhQ5_ hcz15_7 w14 gb180 7 (.int .i64 a0_7) BK180; pxhQ5_ hcz15_8 w14 gb180 8 (.int .i64 a0_8) BK180; pxhQ5_ hcz15_9 w14 gb180 9 (.string a0_9) BK180; pxhQ5_ hcz15_10 w14 gb180 10 (.slice A0_10 l0_10.length c0_10) BK180; pxfQ5_ hfz15_0 BK180 0; pxfQ5_ hfz15_1 BK180 1; pxfQ5_ hfz15_2 BK180 2; pxfQ5_ hfz15_3 BK180 3; pxfQ5_ hfz15_4 BK180 4; pxfQ5_ hfz15_5 BK180 5; pxfQ5_ hfz15_6 BK180 6; pxfQ5_ hfz15_7 BK180 7; pxfQ5_ hfz15_8 BK180 8; pxfQ5_ hfz15_9 BK180 9; pxfQ5_ hfz15_10 BK180 10; pxhQ5_ hcz16_0 w14 gb181 0 (.int .i64 a1_0) BK181; pxhQ5_ hcz16_1 w14 gb181 1 (.int .i64 a1_1) BK181; pxhQ5_ hcz16_2 w14 gb181 2 (.int .i64 a1_2) BK181; pxhQ5_ hcz16_3 w14 gb181 3 (.int .i64 a1_3) BK181; pxhQ5_ hcz16_4 w14 gb181 4 (.int .i64 a1_4) BK181; pxhQ5_ hcz16_5 w14 gb181 5 (.int .i64 a1_5) BK181; pxhQ5_ hcz16_6 w14 gb181 6 (.int .i64 a1_6) BK181; pxhQ5_ hcz16_7 w14 gb181 7 (.int .i64 a1_7) BK181; pxhQ5_ hcz16_8 w14 gb181 8 (.int .i64 a1_8) BK181; pxhQ5_ hcz16_9 w14 gb181 9 (.string a1_9) BK181; pxhQ5_ hcz16_10 w14 gb181 10 (.slice A1_10 l1_10.length c1_10) BK181; pxfQ5_ hfz16_0 BK181 0; pxfQ5_ hfz16_1 BK181 1; pxfQ5_ hfz16_2 BK181 2; pxfQ5_ hfz16_3 BK181 3; pxfQ5_ hfz16_4 BK181 4; pxfQ5_ hfz16_5 BK181 5; pxfQ5_ hfz16_6 BK181 6; pxfQ5_ hfz16_7 BK181 7; pxfQ5_ hfz16_8 BK181 8; pxfQ5_ hfz16_9 BK181 9; pxfQ5_ hfz16_10 BK181 10))
            go_ret
            pxLQ57_
          · rw [if_neg c8] at H
            have c8b0 : (a0_3 == a1_3) = false := beq_eq_false_iff_ne.mpr c8
            have c8b1 : (a0_3 != a1_3) = true := bne_iff_ne.mpr c8
            obtain rfl := Option.some.inj H
            go_enter Try.func14, Try.ntmps14
            go_wp2_with (first | ((with_reducible refine gate_dst (N := 2) rfl ?_); refine box_event ?hg (N := 2) ?hd (cs := pxAQ51_) (t := 37) ?hr ?_; (case hd => rfl); (case hg => rfl); (case hr => first | (go_simp; done) | (go_simp; rfl)); intro gb180 hg w17 hbox hb; have n0_ := Aside0.mk (below_step (by repeat (first | (with_reducible first | exact HB.out | apply below_alloc | apply pw_below_drewN | apply below_drew1) | exact HB.out)) hb); have n1_ := Aside0.mk (hbox); have n2_ := Aside0.mk ((by rw [hg]; exact (below_size (by repeat (first | (with_reducible first | exact HB.out | apply below_alloc | apply pw_below_drewN | apply below_drew1) | exact HB.out))) : w.heap.size ≤ gb180)); have n3_ := Aside0.mk ((by rw [hg]; exact (below_size (by repeat (first | (with_reducible first | exact HB.out | apply below_alloc | apply pw_below_drewN | apply below_drew1) | exact HB.out))) : w.heap.size ≤ gb180)); clear HB; have HB := n0_; have BK180 := n1_; have GW180 := n2_; have GE180 := n3_; clear n0_ n1_ n2_ n3_; clear hb hbox hg) | ((with_reducible refine gate_dst (N := 3) rfl ?_); refine box_event ?hg (N := 3) ?hd (cs := pxAQ52_) (t := 37) ?hr ?_; (case hd => rfl); (case hg => rfl); (case hr => first | (go_simp; done) | (go_simp; rfl)); intro gb181 hg w18 hbox hb; have n0_ := Aside0.mk (blk_below (g := gb180) (o := .cells pxAQ51_ 37 (0, 0)) (by (with_reducible repeat (first | refine blk_drewN ?_ _ | refine blk_drew ?_ | refine blk_alloc ?_ _)); exact BK180.out) hb); have n1_ := Aside0.mk (below_step (by repeat (first | (with_reducible first | exact HB.out | apply below_alloc | apply pw_below_drewN | apply below_drew1 | refine below_set ?_ GE180.out) | exact HB.out)) hb); have n2_ := Aside0.mk (hbox); have n3_ := Aside0.mk ((by rw [hg]; exact (below_size (by repeat (first | (with_reducible first | exact HB.out | apply below_alloc | apply pw_below_drewN | apply below_drew1 | refine below_set ?_ GE180.out) | exact HB.out))) : w.heap.size ≤ gb181)); have n4_ := Aside0.mk ((by rw [hg]; exact (below_size (by repeat (first | (with_reducible first | exact HB.out | apply below_alloc | apply pw_below_drewN | apply below_drew1 | refine below_set ?_ GE180.out) | exact HB.out))) : w.heap.size ≤ gb181)); have n5_ := Aside0.mk ((by rw [hg]; exact Nat.ne_of_lt (blk_lt (g := gb180) (o := .cells pxAQ51_ 37 (0, 0)) (by (with_reducible repeat (first | refine blk_drewN ?_ _ | refine blk_drew ?_ | refine blk_alloc ?_ _)); exact BK180.out)) : gb180 ≠ gb181)); have n6_ := Aside0.mk ((by rw [hg]; exact Nat.ne_of_gt (blk_lt (g := gb180) (o := .cells pxAQ51_ 37 (0, 0)) (by (with_reducible repeat (first | refine blk_drewN ?_ _ | refine blk_drew ?_ | refine blk_alloc ?_ _)); exact BK180.out)) : gb181 ≠ gb180)); clear BK180; clear HB; have BK180 := n0_; have HB := n1_; have BK181 := n2_; have GW181 := n3_; have GE181 := n4_; have NB180_181 := n5_; have NB181_180 := n6_; clear n0_ n1_ n2_ n3_ n4_ n5_ n6_; clear hb hbox hg; have hnb19 := NB180_181.out; have hnc19 := NB181_180.out; pxhQ5_ hcz20_0 w18 gb180 0 (.int .i64 a0_0) BK180; pxhQ5_ hcz20_1 w18 gb180 1 (.int .i64 a0_1) BK180; pxhQ5_ hcz20_2 w18 gb180 2 (.int .i64 a0_2) BK180; pxhQ5_ hcz20_3 w18 gb180 3 (.int .i64 a0_3) BK180; pxhQ5_ hcz20_4 w18 gb180 4 (.int .i64 a0_4) BK180; pxhQ5_ hcz20_5 w18 gb180 5 (.int .i64 a0_5) BK180; pxhQ5_ hcz20_6 w18 gb180 6 (.int .i64 a0_6) BK180; pxhQ5_ hcz20_7 w18 gb180 7 (.int .i64 a0_7) BK180; pxhQ5_ hcz20_8 w18 gb180 8 (.int .i64 a0_8) BK180; pxhQ5_ hcz20_9 w18 gb180 9 (.string a0_9) BK180; pxhQ5_ hcz20_10 w18 gb180 10 (.slice A0_10 l0_10.length c0_10) BK180; pxfQ5_ hfz20_0 BK180 0; pxfQ5_ hfz20_1 BK180 1; pxfQ5_ hfz20_2 BK180 2; pxfQ5_ hfz20_3 BK180 3; pxfQ5_ hfz20_4 BK180 4; pxfQ5_ hfz20_5 BK180 5; pxfQ5_ hfz20_6 BK180 6; pxfQ5_ hfz20_7 BK180 7; pxfQ5_ hfz20_8 BK180 8; pxfQ5_ hfz20_9 BK180 9; pxfQ5_ hfz20_10 BK180 10; pxhQ5_ hcz21_0 w18 gb181 0 (.int .i64 a1_0) BK181; pxhQ5_ hcz21_1 w18 gb181 1 (.int .i64 a1_1) BK181; pxhQ5_ hcz21_2 w18 gb181 2 (.int .i64 a1_2) BK181; pxhQ5_ hcz21_3 w18 gb181 3 (.int .i64 a1_3) BK181; pxhQ5_ hcz21_4 w18 gb181 4 (.int .i64 a1_4) BK181; pxhQ5_ hcz21_5 w18 gb181 5 (.int .i64 a1_5) BK181; pxhQ5_ hcz21_6 w18 gb181 6 (.int .i64 a1_6) BK181; pxhQ5_ hcz21_7 w18 gb181 7 (.int .i64 a1_7) BK181; pxhQ5_ hcz21_8 w18 gb181 8 (.int .i64 a1_8) BK181; pxhQ5_ hcz21_9 w18 gb181 9 (.string a1_9) BK181; pxhQ5_ hcz21_10 w18 gb181 10 (.slice A1_10 l1_10.length c1_10) BK181; pxfQ5_ hfz21_0 BK181 0; pxfQ5_ hfz21_1 BK181 1; pxfQ5_ hfz21_2 BK181 2; pxfQ5_ hfz21_3 BK181 3; pxfQ5_ hfz21_4 BK181 4; pxfQ5_ hfz21_5 BK181 5; pxfQ5_ hfz21_6 BK181 6; pxfQ5_ hfz21_7 BK181 7; pxfQ5_ hfz21_8 BK181 8; pxfQ5_ hfz21_9 BK181 9; pxfQ5_ hfz21_10 BK181 10) | ((with_reducible refine gate_callee (f := 30) rfl ?_); refine goesL_ (some 10) rfl rfl Try.func30 (by kernel_rfl) rfl pxAQ50_ rfl (by (try simp only [List.map_toArray, List.map_cons, List.map_nil]); first | done | rfl | (simp only [List.length_drop, List.length_take]; rfl)) ?_; (with_reducible refine (copyholdref11_Same.calls k a0_5 a0_6 a0_7 a0_8 a0_9 _ _ l0_10 a1_5 a1_6 a1_7 a1_8 a1_9 _ _ l1_10 true _ ?side1 ?side2 ?side3 ?side4 A3.out).mono ?_); (case side1 => repeat (first | exact (Kd.C_below HR0_10.out HB.out) | (with_reducible refine Kd.C_alloc ?_ _) | (with_reducible refine Kd.C_drewN ?_ _) | (with_reducible refine Kd.C_drew ?_))); (case side2 => exact HC0_10.out); (case side3 => repeat (first | exact (Kd.C_below HR1_10.out HB.out) | (with_reducible refine Kd.C_alloc ?_ _) | (with_reducible refine Kd.C_drewN ?_ _) | (with_reducible refine Kd.C_drew ?_))); (case side4 => exact HC1_10.out); rintro e w22 ⟨rfl, hb⟩; refine ⟨_, rfl, ?_⟩; have n0_ := Aside0.mk (blk_below (g := gb180) (o := .cells pxAQ51_ 37 (0, 0)) (by (with_reducible repeat (first | refine blk_drewN ?_ _ | refine blk_drew ?_ | refine blk_alloc ?_ _)); exact BK180.out) hb); have n1_ := Aside0.mk (blk_below (g := gb181) (o := .cells pxAQ52_ 37 (0, 0)) (by (with_reducible repeat (first | refine blk_drewN ?_ _ | refine blk_drew ?_ | refine blk_alloc ?_ _)); exact BK181.out) hb); have n2_ := Aside0.mk (below_step (by repeat (first | (with_reducible first | exact HB.out | apply below_alloc | apply pw_below_drewN | apply below_drew1 | refine below_set ?_ GE180.out | refine below_set ?_ GE181.out) | exact HB.out)) hb); clear BK180; clear BK181; clear HB; have BK180 := n0_; have BK181 := n1_; have HB := n2_; clear n0_ n1_ n2_; (try clear hb); (try clear hb2); (try clear hk); (try clear hi); pxhQ5_ hcz23_0 w22 gb180 0 (.int .i64 a0_0) BK180; pxhQ5_ hcz23_1 w22 gb180 1 (.int .i64 a0_1) BK180; pxhQ5_ hcz23_2 w22 gb180 2 (.int .i64 a0_2) BK180; pxhQ5_ hcz23_3 w22 gb180 3 (.int .i64 a0_3) BK180; pxhQ5_ hcz23_4 w22 gb180 4 (.int .i64 a0_4) BK180; pxhQ5_ hcz23_5 w22 gb180 5 (.int .i64 a0_5) BK180; pxhQ5_ hcz23_6 w22 gb180 6 (.int .i64 a0_6) BK180; pxhQ5_ hcz23_7 w22 gb180 7 (.int .i64 a0_7) BK180; pxhQ5_ hcz23_8 w22 gb180 8 (.int .i64 a0_8) BK180; pxhQ5_ hcz23_9 w22 gb180 9 (.string a0_9) BK180; pxhQ5_ hcz23_10 w22 gb180 10 (.slice A0_10 l0_10.length c0_10) BK180; pxfQ5_ hfz23_0 BK180 0; pxfQ5_ hfz23_1 BK180 1; pxfQ5_ hfz23_2 BK180 2; pxfQ5_ hfz23_3 BK180 3; pxfQ5_ hfz23_4 BK180 4; pxfQ5_ hfz23_5 BK180 5; pxfQ5_ hfz23_6 BK180 6; pxfQ5_ hfz23_7 BK180 7; pxfQ5_ hfz23_8 BK180 8; pxfQ5_ hfz23_9 BK180 9; pxfQ5_ hfz23_10 BK180 10; pxhQ5_ hcz24_0 w22 gb181 0 (.int .i64 a1_0) BK181; pxhQ5_ hcz24_1 w22 gb181 1 (.int .i64 a1_1) BK181; pxhQ5_ hcz24_2 w22 gb181 2 (.int .i64 a1_2) BK181; pxhQ5_ hcz24_3 w22 gb181 3 (.int .i64 a1_3) BK181; pxhQ5_ hcz24_4 w22 gb181 4 (.int .i64 a1_4) BK181; pxhQ5_ hcz24_5 w22 gb181 5 (.int .i64 a1_5) BK181; pxhQ5_ hcz24_6 w22 gb181 6 (.int .i64 a1_6) BK181; pxhQ5_ hcz24_7 w22 gb181 7 (.int .i64 a1_7) BK181; pxhQ5_ hcz24_8 w22 gb181 8 (.int .i64 a1_8) BK181; pxhQ5_ hcz24_9 w22 gb181 9 (.string a1_9) BK181; pxhQ5_ hcz24_10 w22 gb181 10 (.slice A1_10 l1_10.length c1_10) BK181; pxfQ5_ hfz24_0 BK181 0; pxfQ5_ hfz24_1 BK181 1; pxfQ5_ hfz24_2 BK181 2; pxfQ5_ hfz24_3 BK181 3; pxfQ5_ hfz24_4 BK181 4; pxfQ5_ hfz24_5 BK181 5; pxfQ5_ hfz24_6 BK181 6; pxfQ5_ hfz24_7 BK181 7; pxfQ5_ hfz24_8 BK181 8; pxfQ5_ hfz24_9 BK181 9; pxfQ5_ hfz24_10 BK181 10))
            go_ret
            pxLQ57_
        · rw [if_neg c7] at H
          have c7b0 : (a0_2 == a1_2) = false := beq_eq_false_iff_ne.mpr c7
          have c7b1 : (a0_2 != a1_2) = true := bne_iff_ne.mpr c7
          obtain rfl := Option.some.inj H
          go_enter Try.func14, Try.ntmps14
          go_wp2_with (first | ((with_reducible refine gate_dst (N := 2) rfl ?_); refine box_event ?hg (N := 2) ?hd (cs := pxAQ51_) (t := 37) ?hr ?_; (case hd => rfl); (case hg => rfl); (case hr => first | (go_simp; done) | (go_simp; rfl)); intro gb180 hg w25 hbox hb; have n0_ := Aside0.mk (below_step (by repeat (first | (with_reducible first | exact HB.out | apply below_alloc | apply pw_below_drewN | apply below_drew1) | exact HB.out)) hb); have n1_ := Aside0.mk (hbox); have n2_ := Aside0.mk ((by rw [hg]; exact (below_size (by repeat (first | (with_reducible first | exact HB.out | apply below_alloc | apply pw_below_drewN | apply below_drew1) | exact HB.out))) : w.heap.size ≤ gb180)); have n3_ := Aside0.mk ((by rw [hg]; exact (below_size (by repeat (first | (with_reducible first | exact HB.out | apply below_alloc | apply pw_below_drewN | apply below_drew1) | exact HB.out))) : w.heap.size ≤ gb180)); clear HB; have HB := n0_; have BK180 := n1_; have GW180 := n2_; have GE180 := n3_; clear n0_ n1_ n2_ n3_; clear hb hbox hg) | ((with_reducible refine gate_dst (N := 3) rfl ?_); refine box_event ?hg (N := 3) ?hd (cs := pxAQ52_) (t := 37) ?hr ?_; (case hd => rfl); (case hg => rfl); (case hr => first | (go_simp; done) | (go_simp; rfl)); intro gb181 hg w26 hbox hb; have n0_ := Aside0.mk (blk_below (g := gb180) (o := .cells pxAQ51_ 37 (0, 0)) (by (with_reducible repeat (first | refine blk_drewN ?_ _ | refine blk_drew ?_ | refine blk_alloc ?_ _)); exact BK180.out) hb); have n1_ := Aside0.mk (below_step (by repeat (first | (with_reducible first | exact HB.out | apply below_alloc | apply pw_below_drewN | apply below_drew1 | refine below_set ?_ GE180.out) | exact HB.out)) hb); have n2_ := Aside0.mk (hbox); have n3_ := Aside0.mk ((by rw [hg]; exact (below_size (by repeat (first | (with_reducible first | exact HB.out | apply below_alloc | apply pw_below_drewN | apply below_drew1 | refine below_set ?_ GE180.out) | exact HB.out))) : w.heap.size ≤ gb181)); have n4_ := Aside0.mk ((by rw [hg]; exact (below_size (by repeat (first | (with_reducible first | exact HB.out | apply below_alloc | apply pw_below_drewN | apply below_drew1 | refine below_set ?_ GE180.out) | exact HB.out))) : w.heap.size ≤ gb181)); have n5_ := Aside0.mk ((by rw [hg]; exact Nat.ne_of_lt (blk_lt (g := gb180) (o := .cells pxAQ51_ 37 (0, 0)) (by (with_reducible repeat (first | refine blk_drewN ?_ _ | refine blk_drew ?_ | refine blk_alloc ?_ _)); exact BK180.out)) : gb180 ≠ gb181)); have n6_ := Aside0.mk ((by rw [hg]; exact Nat.ne_of_gt (blk_lt (g := gb180) (o := .cells pxAQ51_ 37 (0, 0)) (by (with_reducible repeat (first | refine blk_drewN ?_ _ | refine blk_drew ?_ | refine blk_alloc ?_ _)); exact BK180.out)) : gb181 ≠ gb180)); clear BK180; clear HB; have BK180 := n0_; have HB := n1_; have BK181 := n2_; have GW181 := n3_; have GE181 := n4_; have NB180_181 := n5_; have NB181_180 := n6_; clear n0_ n1_ n2_ n3_ n4_ n5_ n6_; clear hb hbox hg; have hnb27 := NB180_181.out; have hnc27 := NB181_180.out; pxhQ5_ hcz28_0 w26 gb180 0 (.int .i64 a0_0) BK180; pxhQ5_ hcz28_1 w26 gb180 1 (.int .i64 a0_1) BK180; pxhQ5_ hcz28_2 w26 gb180 2 (.int .i64 a0_2) BK180; pxhQ5_ hcz28_3 w26 gb180 3 (.int .i64 a0_3) BK180; pxhQ5_ hcz28_4 w26 gb180 4 (.int .i64 a0_4) BK180; pxhQ5_ hcz28_5 w26 gb180 5 (.int .i64 a0_5) BK180; pxhQ5_ hcz28_6 w26 gb180 6 (.int .i64 a0_6) BK180; pxhQ5_ hcz28_7 w26 gb180 7 (.int .i64 a0_7) BK180; pxhQ5_ hcz28_8 w26 gb180 8 (.int .i64 a0_8) BK180; pxhQ5_ hcz28_9 w26 gb180 9 (.string a0_9) BK180; pxhQ5_ hcz28_10 w26 gb180 10 (.slice A0_10 l0_10.length c0_10) BK180; pxfQ5_ hfz28_0 BK180 0; pxfQ5_ hfz28_1 BK180 1; pxfQ5_ hfz28_2 BK180 2; pxfQ5_ hfz28_3 BK180 3; pxfQ5_ hfz28_4 BK180 4; pxfQ5_ hfz28_5 BK180 5; pxfQ5_ hfz28_6 BK180 6; pxfQ5_ hfz28_7 BK180 7; pxfQ5_ hfz28_8 BK180 8; pxfQ5_ hfz28_9 BK180 9; pxfQ5_ hfz28_10 BK180 10; pxhQ5_ hcz29_0 w26 gb181 0 (.int .i64 a1_0) BK181; pxhQ5_ hcz29_1 w26 gb181 1 (.int .i64 a1_1) BK181; pxhQ5_ hcz29_2 w26 gb181 2 (.int .i64 a1_2) BK181; pxhQ5_ hcz29_3 w26 gb181 3 (.int .i64 a1_3) BK181; pxhQ5_ hcz29_4 w26 gb181 4 (.int .i64 a1_4) BK181; pxhQ5_ hcz29_5 w26 gb181 5 (.int .i64 a1_5) BK181; pxhQ5_ hcz29_6 w26 gb181 6 (.int .i64 a1_6) BK181; pxhQ5_ hcz29_7 w26 gb181 7 (.int .i64 a1_7) BK181; pxhQ5_ hcz29_8 w26 gb181 8 (.int .i64 a1_8) BK181; pxhQ5_ hcz29_9 w26 gb181 9 (.string a1_9) BK181; pxhQ5_ hcz29_10 w26 gb181 10 (.slice A1_10 l1_10.length c1_10) BK181; pxfQ5_ hfz29_0 BK181 0; pxfQ5_ hfz29_1 BK181 1; pxfQ5_ hfz29_2 BK181 2; pxfQ5_ hfz29_3 BK181 3; pxfQ5_ hfz29_4 BK181 4; pxfQ5_ hfz29_5 BK181 5; pxfQ5_ hfz29_6 BK181 6; pxfQ5_ hfz29_7 BK181 7; pxfQ5_ hfz29_8 BK181 8; pxfQ5_ hfz29_9 BK181 9; pxfQ5_ hfz29_10 BK181 10) | ((with_reducible refine gate_callee (f := 30) rfl ?_); refine goesL_ (some 10) rfl rfl Try.func30 (by kernel_rfl) rfl pxAQ50_ rfl (by (try simp only [List.map_toArray, List.map_cons, List.map_nil]); first | done | rfl | (simp only [List.length_drop, List.length_take]; rfl)) ?_; (with_reducible refine (copyholdref11_Same.calls k a0_5 a0_6 a0_7 a0_8 a0_9 _ _ l0_10 a1_5 a1_6 a1_7 a1_8 a1_9 _ _ l1_10 true _ ?side1 ?side2 ?side3 ?side4 A3.out).mono ?_); (case side1 => repeat (first | exact (Kd.C_below HR0_10.out HB.out) | (with_reducible refine Kd.C_alloc ?_ _) | (with_reducible refine Kd.C_drewN ?_ _) | (with_reducible refine Kd.C_drew ?_))); (case side2 => exact HC0_10.out); (case side3 => repeat (first | exact (Kd.C_below HR1_10.out HB.out) | (with_reducible refine Kd.C_alloc ?_ _) | (with_reducible refine Kd.C_drewN ?_ _) | (with_reducible refine Kd.C_drew ?_))); (case side4 => exact HC1_10.out); rintro e w30 ⟨rfl, hb⟩; refine ⟨_, rfl, ?_⟩; have n0_ := Aside0.mk (blk_below (g := gb180) (o := .cells pxAQ51_ 37 (0, 0)) (by (with_reducible repeat (first | refine blk_drewN ?_ _ | refine blk_drew ?_ | refine blk_alloc ?_ _)); exact BK180.out) hb); have n1_ := Aside0.mk (blk_below (g := gb181) (o := .cells pxAQ52_ 37 (0, 0)) (by (with_reducible repeat (first | refine blk_drewN ?_ _ | refine blk_drew ?_ | refine blk_alloc ?_ _)); exact BK181.out) hb); have n2_ := Aside0.mk (below_step (by repeat (first | (with_reducible first | exact HB.out | apply below_alloc | apply pw_below_drewN | apply below_drew1 | refine below_set ?_ GE180.out | refine below_set ?_ GE181.out) | exact HB.out)) hb); clear BK180; clear BK181; clear HB; have BK180 := n0_; have BK181 := n1_; have HB := n2_; clear n0_ n1_ n2_; (try clear hb); (try clear hb2); (try clear hk); (try clear hi); pxhQ5_ hcz31_0 w30 gb180 0 (.int .i64 a0_0) BK180; pxhQ5_ hcz31_1 w30 gb180 1 (.int .i64 a0_1) BK180; pxhQ5_ hcz31_2 w30 gb180 2 (.int .i64 a0_2) BK180; pxhQ5_ hcz31_3 w30 gb180 3 (.int .i64 a0_3) BK180; pxhQ5_ hcz31_4 w30 gb180 4 (.int .i64 a0_4) BK180; pxhQ5_ hcz31_5 w30 gb180 5 (.int .i64 a0_5) BK180; pxhQ5_ hcz31_6 w30 gb180 6 (.int .i64 a0_6) BK180; pxhQ5_ hcz31_7 w30 gb180 7 (.int .i64 a0_7) BK180; pxhQ5_ hcz31_8 w30 gb180 8 (.int .i64 a0_8) BK180; pxhQ5_ hcz31_9 w30 gb180 9 (.string a0_9) BK180; pxhQ5_ hcz31_10 w30 gb180 10 (.slice A0_10 l0_10.length c0_10) BK180; pxfQ5_ hfz31_0 BK180 0; pxfQ5_ hfz31_1 BK180 1; pxfQ5_ hfz31_2 BK180 2; pxfQ5_ hfz31_3 BK180 3; pxfQ5_ hfz31_4 BK180 4; pxfQ5_ hfz31_5 BK180 5; pxfQ5_ hfz31_6 BK180 6; pxfQ5_ hfz31_7 BK180 7; pxfQ5_ hfz31_8 BK180 8; pxfQ5_ hfz31_9 BK180 9; pxfQ5_ hfz31_10 BK180 10; pxhQ5_ hcz32_0 w30 gb181 0 (.int .i64 a1_0) BK181; pxhQ5_ hcz32_1 w30 gb181 1 (.int .i64 a1_1) BK181; pxhQ5_ hcz32_2 w30 gb181 2 (.int .i64 a1_2) BK181; pxhQ5_ hcz32_3 w30 gb181 3 (.int .i64 a1_3) BK181; pxhQ5_ hcz32_4 w30 gb181 4 (.int .i64 a1_4) BK181; pxhQ5_ hcz32_5 w30 gb181 5 (.int .i64 a1_5) BK181; pxhQ5_ hcz32_6 w30 gb181 6 (.int .i64 a1_6) BK181; pxhQ5_ hcz32_7 w30 gb181 7 (.int .i64 a1_7) BK181; pxhQ5_ hcz32_8 w30 gb181 8 (.int .i64 a1_8) BK181; pxhQ5_ hcz32_9 w30 gb181 9 (.string a1_9) BK181; pxhQ5_ hcz32_10 w30 gb181 10 (.slice A1_10 l1_10.length c1_10) BK181; pxfQ5_ hfz32_0 BK181 0; pxfQ5_ hfz32_1 BK181 1; pxfQ5_ hfz32_2 BK181 2; pxfQ5_ hfz32_3 BK181 3; pxfQ5_ hfz32_4 BK181 4; pxfQ5_ hfz32_5 BK181 5; pxfQ5_ hfz32_6 BK181 6; pxfQ5_ hfz32_7 BK181 7; pxfQ5_ hfz32_8 BK181 8; pxfQ5_ hfz32_9 BK181 9; pxfQ5_ hfz32_10 BK181 10))
          go_ret
          pxLQ57_
      · rw [if_neg c6] at H
        have c6b0 : (a0_1 == a1_1) = false := beq_eq_false_iff_ne.mpr c6
        have c6b1 : (a0_1 != a1_1) = true := bne_iff_ne.mpr c6
        obtain rfl := Option.some.inj H
        go_enter Try.func14, Try.ntmps14
        go_wp2_with (first | ((with_reducible refine gate_dst (N := 2) rfl ?_); refine box_event ?hg (N := 2) ?hd (cs := pxAQ51_) (t := 37) ?hr ?_; (case hd => rfl); (case hg => rfl); (case hr => first | (go_simp; done) | (go_simp; rfl)); intro gb180 hg w33 hbox hb; have n0_ := Aside0.mk (below_step (by repeat (first | (with_reducible first | exact HB.out | apply below_alloc | apply pw_below_drewN | apply below_drew1) | exact HB.out)) hb); have n1_ := Aside0.mk (hbox); have n2_ := Aside0.mk ((by rw [hg]; exact (below_size (by repeat (first | (with_reducible first | exact HB.out | apply below_alloc | apply pw_below_drewN | apply below_drew1) | exact HB.out))) : w.heap.size ≤ gb180)); have n3_ := Aside0.mk ((by rw [hg]; exact (below_size (by repeat (first | (with_reducible first | exact HB.out | apply below_alloc | apply pw_below_drewN | apply below_drew1) | exact HB.out))) : w.heap.size ≤ gb180)); clear HB; have HB := n0_; have BK180 := n1_; have GW180 := n2_; have GE180 := n3_; clear n0_ n1_ n2_ n3_; clear hb hbox hg) | ((with_reducible refine gate_dst (N := 3) rfl ?_); refine box_event ?hg (N := 3) ?hd (cs := pxAQ52_) (t := 37) ?hr ?_; (case hd => rfl); (case hg => rfl); (case hr => first | (go_simp; done) | (go_simp; rfl)); intro gb181 hg w34 hbox hb; have n0_ := Aside0.mk (blk_below (g := gb180) (o := .cells pxAQ51_ 37 (0, 0)) (by (with_reducible repeat (first | refine blk_drewN ?_ _ | refine blk_drew ?_ | refine blk_alloc ?_ _)); exact BK180.out) hb); have n1_ := Aside0.mk (below_step (by repeat (first | (with_reducible first | exact HB.out | apply below_alloc | apply pw_below_drewN | apply below_drew1 | refine below_set ?_ GE180.out) | exact HB.out)) hb); have n2_ := Aside0.mk (hbox); have n3_ := Aside0.mk ((by rw [hg]; exact (below_size (by repeat (first | (with_reducible first | exact HB.out | apply below_alloc | apply pw_below_drewN | apply below_drew1 | refine below_set ?_ GE180.out) | exact HB.out))) : w.heap.size ≤ gb181)); have n4_ := Aside0.mk ((by rw [hg]; exact (below_size (by repeat (first | (with_reducible first | exact HB.out | apply below_alloc | apply pw_below_drewN | apply below_drew1 | refine below_set ?_ GE180.out) | exact HB.out))) : w.heap.size ≤ gb181)); have n5_ := Aside0.mk ((by rw [hg]; exact Nat.ne_of_lt (blk_lt (g := gb180) (o := .cells pxAQ51_ 37 (0, 0)) (by (with_reducible repeat (first | refine blk_drewN ?_ _ | refine blk_drew ?_ | refine blk_alloc ?_ _)); exact BK180.out)) : gb180 ≠ gb181)); have n6_ := Aside0.mk ((by rw [hg]; exact Nat.ne_of_gt (blk_lt (g := gb180) (o := .cells pxAQ51_ 37 (0, 0)) (by (with_reducible repeat (first | refine blk_drewN ?_ _ | refine blk_drew ?_ | refine blk_alloc ?_ _)); exact BK180.out)) : gb181 ≠ gb180)); clear BK180; clear HB; have BK180 := n0_; have HB := n1_; have BK181 := n2_; have GW181 := n3_; have GE181 := n4_; have NB180_181 := n5_; have NB181_180 := n6_; clear n0_ n1_ n2_ n3_ n4_ n5_ n6_; clear hb hbox hg; have hnb35 := NB180_181.out; have hnc35 := NB181_180.out; pxhQ5_ hcz36_0 w34 gb180 0 (.int .i64 a0_0) BK180; pxhQ5_ hcz36_1 w34 gb180 1 (.int .i64 a0_1) BK180; pxhQ5_ hcz36_2 w34 gb180 2 (.int .i64 a0_2) BK180; pxhQ5_ hcz36_3 w34 gb180 3 (.int .i64 a0_3) BK180; pxhQ5_ hcz36_4 w34 gb180 4 (.int .i64 a0_4) BK180; pxhQ5_ hcz36_5 w34 gb180 5 (.int .i64 a0_5) BK180; pxhQ5_ hcz36_6 w34 gb180 6 (.int .i64 a0_6) BK180; pxhQ5_ hcz36_7 w34 gb180 7 (.int .i64 a0_7) BK180; pxhQ5_ hcz36_8 w34 gb180 8 (.int .i64 a0_8) BK180; pxhQ5_ hcz36_9 w34 gb180 9 (.string a0_9) BK180; pxhQ5_ hcz36_10 w34 gb180 10 (.slice A0_10 l0_10.length c0_10) BK180; pxfQ5_ hfz36_0 BK180 0; pxfQ5_ hfz36_1 BK180 1; pxfQ5_ hfz36_2 BK180 2; pxfQ5_ hfz36_3 BK180 3; pxfQ5_ hfz36_4 BK180 4; pxfQ5_ hfz36_5 BK180 5; pxfQ5_ hfz36_6 BK180 6; pxfQ5_ hfz36_7 BK180 7; pxfQ5_ hfz36_8 BK180 8; pxfQ5_ hfz36_9 BK180 9; pxfQ5_ hfz36_10 BK180 10; pxhQ5_ hcz37_0 w34 gb181 0 (.int .i64 a1_0) BK181; pxhQ5_ hcz37_1 w34 gb181 1 (.int .i64 a1_1) BK181; pxhQ5_ hcz37_2 w34 gb181 2 (.int .i64 a1_2) BK181; pxhQ5_ hcz37_3 w34 gb181 3 (.int .i64 a1_3) BK181; pxhQ5_ hcz37_4 w34 gb181 4 (.int .i64 a1_4) BK181; pxhQ5_ hcz37_5 w34 gb181 5 (.int .i64 a1_5) BK181; pxhQ5_ hcz37_6 w34 gb181 6 (.int .i64 a1_6) BK181; pxhQ5_ hcz37_7 w34 gb181 7 (.int .i64 a1_7) BK181; pxhQ5_ hcz37_8 w34 gb181 8 (.int .i64 a1_8) BK181; pxhQ5_ hcz37_9 w34 gb181 9 (.string a1_9) BK181; pxhQ5_ hcz37_10 w34 gb181 10 (.slice A1_10 l1_10.length c1_10) BK181; pxfQ5_ hfz37_0 BK181 0; pxfQ5_ hfz37_1 BK181 1; pxfQ5_ hfz37_2 BK181 2; pxfQ5_ hfz37_3 BK181 3; pxfQ5_ hfz37_4 BK181 4; pxfQ5_ hfz37_5 BK181 5; pxfQ5_ hfz37_6 BK181 6; pxfQ5_ hfz37_7 BK181 7; pxfQ5_ hfz37_8 BK181 8; pxfQ5_ hfz37_9 BK181 9; pxfQ5_ hfz37_10 BK181 10) | ((with_reducible refine gate_callee (f := 30) rfl ?_); refine goesL_ (some 10) rfl rfl Try.func30 (by kernel_rfl) rfl pxAQ50_ rfl (by (try simp only [List.map_toArray, List.map_cons, List.map_nil]); first | done | rfl | (simp only [List.length_drop, List.length_take]; rfl)) ?_; (with_reducible refine (copyholdref11_Same.calls k a0_5 a0_6 a0_7 a0_8 a0_9 _ _ l0_10 a1_5 a1_6 a1_7 a1_8 a1_9 _ _ l1_10 true _ ?side1 ?side2 ?side3 ?side4 A3.out).mono ?_); (case side1 => repeat (first | exact (Kd.C_below HR0_10.out HB.out) | (with_reducible refine Kd.C_alloc ?_ _) | (with_reducible refine Kd.C_drewN ?_ _) | (with_reducible refine Kd.C_drew ?_))); (case side2 => exact HC0_10.out); (case side3 => repeat (first | exact (Kd.C_below HR1_10.out HB.out) | (with_reducible refine Kd.C_alloc ?_ _) | (with_reducible refine Kd.C_drewN ?_ _) | (with_reducible refine Kd.C_drew ?_))); (case side4 => exact HC1_10.out); rintro e w38 ⟨rfl, hb⟩; refine ⟨_, rfl, ?_⟩; have n0_ := Aside0.mk (blk_below (g := gb180) (o := .cells pxAQ51_ 37 (0, 0)) (by (with_reducible repeat (first | refine blk_drewN ?_ _ | refine blk_drew ?_ | refine blk_alloc ?_ _)); exact BK180.out) hb); have n1_ := Aside0.mk (blk_below (g := gb181) (o := .cells pxAQ52_ 37 (0, 0)) (by (with_reducible repeat (first | refine blk_drewN ?_ _ | refine blk_drew ?_ | refine blk_alloc ?_ _)); exact BK181.out) hb); have n2_ := Aside0.mk (below_step (by repeat (first | (with_reducible first | exact HB.out | apply below_alloc | apply pw_below_drewN | apply below_drew1 | refine below_set ?_ GE180.out | refine below_set ?_ GE181.out) | exact HB.out)) hb); clear BK180; clear BK181; clear HB; have BK180 := n0_; have BK181 := n1_; have HB := n2_; clear n0_ n1_ n2_; (try clear hb); (try clear hb2); (try clear hk); (try clear hi); pxhQ5_ hcz39_0 w38 gb180 0 (.int .i64 a0_0) BK180; pxhQ5_ hcz39_1 w38 gb180 1 (.int .i64 a0_1) BK180; pxhQ5_ hcz39_2 w38 gb180 2 (.int .i64 a0_2) BK180; pxhQ5_ hcz39_3 w38 gb180 3 (.int .i64 a0_3) BK180; pxhQ5_ hcz39_4 w38 gb180 4 (.int .i64 a0_4) BK180; pxhQ5_ hcz39_5 w38 gb180 5 (.int .i64 a0_5) BK180; pxhQ5_ hcz39_6 w38 gb180 6 (.int .i64 a0_6) BK180; pxhQ5_ hcz39_7 w38 gb180 7 (.int .i64 a0_7) BK180; pxhQ5_ hcz39_8 w38 gb180 8 (.int .i64 a0_8) BK180; pxhQ5_ hcz39_9 w38 gb180 9 (.string a0_9) BK180; pxhQ5_ hcz39_10 w38 gb180 10 (.slice A0_10 l0_10.length c0_10) BK180; pxfQ5_ hfz39_0 BK180 0; pxfQ5_ hfz39_1 BK180 1; pxfQ5_ hfz39_2 BK180 2; pxfQ5_ hfz39_3 BK180 3; pxfQ5_ hfz39_4 BK180 4; pxfQ5_ hfz39_5 BK180 5; pxfQ5_ hfz39_6 BK180 6; pxfQ5_ hfz39_7 BK180 7; pxfQ5_ hfz39_8 BK180 8; pxfQ5_ hfz39_9 BK180 9; pxfQ5_ hfz39_10 BK180 10; pxhQ5_ hcz40_0 w38 gb181 0 (.int .i64 a1_0) BK181; pxhQ5_ hcz40_1 w38 gb181 1 (.int .i64 a1_1) BK181; pxhQ5_ hcz40_2 w38 gb181 2 (.int .i64 a1_2) BK181; pxhQ5_ hcz40_3 w38 gb181 3 (.int .i64 a1_3) BK181; pxhQ5_ hcz40_4 w38 gb181 4 (.int .i64 a1_4) BK181; pxhQ5_ hcz40_5 w38 gb181 5 (.int .i64 a1_5) BK181; pxhQ5_ hcz40_6 w38 gb181 6 (.int .i64 a1_6) BK181; pxhQ5_ hcz40_7 w38 gb181 7 (.int .i64 a1_7) BK181; pxhQ5_ hcz40_8 w38 gb181 8 (.int .i64 a1_8) BK181; pxhQ5_ hcz40_9 w38 gb181 9 (.string a1_9) BK181; pxhQ5_ hcz40_10 w38 gb181 10 (.slice A1_10 l1_10.length c1_10) BK181; pxfQ5_ hfz40_0 BK181 0; pxfQ5_ hfz40_1 BK181 1; pxfQ5_ hfz40_2 BK181 2; pxfQ5_ hfz40_3 BK181 3; pxfQ5_ hfz40_4 BK181 4; pxfQ5_ hfz40_5 BK181 5; pxfQ5_ hfz40_6 BK181 6; pxfQ5_ hfz40_7 BK181 7; pxfQ5_ hfz40_8 BK181 8; pxfQ5_ hfz40_9 BK181 9; pxfQ5_ hfz40_10 BK181 10))
        go_ret
        pxLQ57_
    · rw [if_neg c5] at H
      have c5b0 : (a0_0 == a1_0) = false := beq_eq_false_iff_ne.mpr c5
      have c5b1 : (a0_0 != a1_0) = true := bne_iff_ne.mpr c5
      obtain rfl := Option.some.inj H
      go_enter Try.func14, Try.ntmps14
      go_wp2_with (first | ((with_reducible refine gate_dst (N := 2) rfl ?_); refine box_event ?hg (N := 2) ?hd (cs := pxAQ51_) (t := 37) ?hr ?_; (case hd => rfl); (case hg => rfl); (case hr => first | (go_simp; done) | (go_simp; rfl)); intro gb180 hg w41 hbox hb; have n0_ := Aside0.mk (below_step (by repeat (first | (with_reducible first | exact HB.out | apply below_alloc | apply pw_below_drewN | apply below_drew1) | exact HB.out)) hb); have n1_ := Aside0.mk (hbox); have n2_ := Aside0.mk ((by rw [hg]; exact (below_size (by repeat (first | (with_reducible first | exact HB.out | apply below_alloc | apply pw_below_drewN | apply below_drew1) | exact HB.out))) : w.heap.size ≤ gb180)); have n3_ := Aside0.mk ((by rw [hg]; exact (below_size (by repeat (first | (with_reducible first | exact HB.out | apply below_alloc | apply pw_below_drewN | apply below_drew1) | exact HB.out))) : w.heap.size ≤ gb180)); clear HB; have HB := n0_; have BK180 := n1_; have GW180 := n2_; have GE180 := n3_; clear n0_ n1_ n2_ n3_; clear hb hbox hg) | ((with_reducible refine gate_dst (N := 3) rfl ?_); refine box_event ?hg (N := 3) ?hd (cs := pxAQ52_) (t := 37) ?hr ?_; (case hd => rfl); (case hg => rfl); (case hr => first | (go_simp; done) | (go_simp; rfl)); intro gb181 hg w42 hbox hb; have n0_ := Aside0.mk (blk_below (g := gb180) (o := .cells pxAQ51_ 37 (0, 0)) (by (with_reducible repeat (first | refine blk_drewN ?_ _ | refine blk_drew ?_ | refine blk_alloc ?_ _)); exact BK180.out) hb); have n1_ := Aside0.mk (below_step (by repeat (first | (with_reducible first | exact HB.out | apply below_alloc | apply pw_below_drewN | apply below_drew1 | refine below_set ?_ GE180.out) | exact HB.out)) hb); have n2_ := Aside0.mk (hbox); have n3_ := Aside0.mk ((by rw [hg]; exact (below_size (by repeat (first | (with_reducible first | exact HB.out | apply below_alloc | apply pw_below_drewN | apply below_drew1 | refine below_set ?_ GE180.out) | exact HB.out))) : w.heap.size ≤ gb181)); have n4_ := Aside0.mk ((by rw [hg]; exact (below_size (by repeat (first | (with_reducible first | exact HB.out | apply below_alloc | apply pw_below_drewN | apply below_drew1 | refine below_set ?_ GE180.out) | exact HB.out))) : w.heap.size ≤ gb181)); have n5_ := Aside0.mk ((by rw [hg]; exact Nat.ne_of_lt (blk_lt (g := gb180) (o := .cells pxAQ51_ 37 (0, 0)) (by (with_reducible repeat (first | refine blk_drewN ?_ _ | refine blk_drew ?_ | refine blk_alloc ?_ _)); exact BK180.out)) : gb180 ≠ gb181)); have n6_ := Aside0.mk ((by rw [hg]; exact Nat.ne_of_gt (blk_lt (g := gb180) (o := .cells pxAQ51_ 37 (0, 0)) (by (with_reducible repeat (first | refine blk_drewN ?_ _ | refine blk_drew ?_ | refine blk_alloc ?_ _)); exact BK180.out)) : gb181 ≠ gb180)); clear BK180; clear HB; have BK180 := n0_; have HB := n1_; have BK181 := n2_; have GW181 := n3_; have GE181 := n4_; have NB180_181 := n5_; have NB181_180 := n6_; clear n0_ n1_ n2_ n3_ n4_ n5_ n6_; clear hb hbox hg; have hnb43 := NB180_181.out; have hnc43 := NB181_180.out; pxhQ5_ hcz44_0 w42 gb180 0 (.int .i64 a0_0) BK180; pxhQ5_ hcz44_1 w42 gb180 1 (.int .i64 a0_1) BK180; pxhQ5_ hcz44_2 w42 gb180 2 (.int .i64 a0_2) BK180; pxhQ5_ hcz44_3 w42 gb180 3 (.int .i64 a0_3) BK180; pxhQ5_ hcz44_4 w42 gb180 4 (.int .i64 a0_4) BK180; pxhQ5_ hcz44_5 w42 gb180 5 (.int .i64 a0_5) BK180; pxhQ5_ hcz44_6 w42 gb180 6 (.int .i64 a0_6) BK180; pxhQ5_ hcz44_7 w42 gb180 7 (.int .i64 a0_7) BK180; pxhQ5_ hcz44_8 w42 gb180 8 (.int .i64 a0_8) BK180; pxhQ5_ hcz44_9 w42 gb180 9 (.string a0_9) BK180; pxhQ5_ hcz44_10 w42 gb180 10 (.slice A0_10 l0_10.length c0_10) BK180; pxfQ5_ hfz44_0 BK180 0; pxfQ5_ hfz44_1 BK180 1; pxfQ5_ hfz44_2 BK180 2; pxfQ5_ hfz44_3 BK180 3; pxfQ5_ hfz44_4 BK180 4; pxfQ5_ hfz44_5 BK180 5; pxfQ5_ hfz44_6 BK180 6; pxfQ5_ hfz44_7 BK180 7; pxfQ5_ hfz44_8 BK180 8; pxfQ5_ hfz44_9 BK180 9; pxfQ5_ hfz44_10 BK180 10; pxhQ5_ hcz45_0 w42 gb181 0 (.int .i64 a1_0) BK181; pxhQ5_ hcz45_1 w42 gb181 1 (.int .i64 a1_1) BK181; pxhQ5_ hcz45_2 w42 gb181 2 (.int .i64 a1_2) BK181; pxhQ5_ hcz45_3 w42 gb181 3 (.int .i64 a1_3) BK181; pxhQ5_ hcz45_4 w42 gb181 4 (.int .i64 a1_4) BK181; pxhQ5_ hcz45_5 w42 gb181 5 (.int .i64 a1_5) BK181; pxhQ5_ hcz45_6 w42 gb181 6 (.int .i64 a1_6) BK181; pxhQ5_ hcz45_7 w42 gb181 7 (.int .i64 a1_7) BK181; pxhQ5_ hcz45_8 w42 gb181 8 (.int .i64 a1_8) BK181; pxhQ5_ hcz45_9 w42 gb181 9 (.string a1_9) BK181; pxhQ5_ hcz45_10 w42 gb181 10 (.slice A1_10 l1_10.length c1_10) BK181; pxfQ5_ hfz45_0 BK181 0; pxfQ5_ hfz45_1 BK181 1; pxfQ5_ hfz45_2 BK181 2; pxfQ5_ hfz45_3 BK181 3; pxfQ5_ hfz45_4 BK181 4; pxfQ5_ hfz45_5 BK181 5; pxfQ5_ hfz45_6 BK181 6; pxfQ5_ hfz45_7 BK181 7; pxfQ5_ hfz45_8 BK181 8; pxfQ5_ hfz45_9 BK181 9; pxfQ5_ hfz45_10 BK181 10) | ((with_reducible refine gate_callee (f := 30) rfl ?_); refine goesL_ (some 10) rfl rfl Try.func30 (by kernel_rfl) rfl pxAQ50_ rfl (by (try simp only [List.map_toArray, List.map_cons, List.map_nil]); first | done | rfl | (simp only [List.length_drop, List.length_take]; rfl)) ?_; (with_reducible refine (copyholdref11_Same.calls k a0_5 a0_6 a0_7 a0_8 a0_9 _ _ l0_10 a1_5 a1_6 a1_7 a1_8 a1_9 _ _ l1_10 true _ ?side1 ?side2 ?side3 ?side4 A3.out).mono ?_); (case side1 => repeat (first | exact (Kd.C_below HR0_10.out HB.out) | (with_reducible refine Kd.C_alloc ?_ _) | (with_reducible refine Kd.C_drewN ?_ _) | (with_reducible refine Kd.C_drew ?_))); (case side2 => exact HC0_10.out); (case side3 => repeat (first | exact (Kd.C_below HR1_10.out HB.out) | (with_reducible refine Kd.C_alloc ?_ _) | (with_reducible refine Kd.C_drewN ?_ _) | (with_reducible refine Kd.C_drew ?_))); (case side4 => exact HC1_10.out); rintro e w46 ⟨rfl, hb⟩; refine ⟨_, rfl, ?_⟩; have n0_ := Aside0.mk (blk_below (g := gb180) (o := .cells pxAQ51_ 37 (0, 0)) (by (with_reducible repeat (first | refine blk_drewN ?_ _ | refine blk_drew ?_ | refine blk_alloc ?_ _)); exact BK180.out) hb); have n1_ := Aside0.mk (blk_below (g := gb181) (o := .cells pxAQ52_ 37 (0, 0)) (by (with_reducible repeat (first | refine blk_drewN ?_ _ | refine blk_drew ?_ | refine blk_alloc ?_ _)); exact BK181.out) hb); have n2_ := Aside0.mk (below_step (by repeat (first | (with_reducible first | exact HB.out | apply below_alloc | apply pw_below_drewN | apply below_drew1 | refine below_set ?_ GE180.out | refine below_set ?_ GE181.out) | exact HB.out)) hb); clear BK180; clear BK181; clear HB; have BK180 := n0_; have BK181 := n1_; have HB := n2_; clear n0_ n1_ n2_; (try clear hb); (try clear hb2); (try clear hk); (try clear hi); pxhQ5_ hcz47_0 w46 gb180 0 (.int .i64 a0_0) BK180; pxhQ5_ hcz47_1 w46 gb180 1 (.int .i64 a0_1) BK180; pxhQ5_ hcz47_2 w46 gb180 2 (.int .i64 a0_2) BK180; pxhQ5_ hcz47_3 w46 gb180 3 (.int .i64 a0_3) BK180; pxhQ5_ hcz47_4 w46 gb180 4 (.int .i64 a0_4) BK180; pxhQ5_ hcz47_5 w46 gb180 5 (.int .i64 a0_5) BK180; pxhQ5_ hcz47_6 w46 gb180 6 (.int .i64 a0_6) BK180; pxhQ5_ hcz47_7 w46 gb180 7 (.int .i64 a0_7) BK180; pxhQ5_ hcz47_8 w46 gb180 8 (.int .i64 a0_8) BK180; pxhQ5_ hcz47_9 w46 gb180 9 (.string a0_9) BK180; pxhQ5_ hcz47_10 w46 gb180 10 (.slice A0_10 l0_10.length c0_10) BK180; pxfQ5_ hfz47_0 BK180 0; pxfQ5_ hfz47_1 BK180 1; pxfQ5_ hfz47_2 BK180 2; pxfQ5_ hfz47_3 BK180 3; pxfQ5_ hfz47_4 BK180 4; pxfQ5_ hfz47_5 BK180 5; pxfQ5_ hfz47_6 BK180 6; pxfQ5_ hfz47_7 BK180 7; pxfQ5_ hfz47_8 BK180 8; pxfQ5_ hfz47_9 BK180 9; pxfQ5_ hfz47_10 BK180 10; pxhQ5_ hcz48_0 w46 gb181 0 (.int .i64 a1_0) BK181; pxhQ5_ hcz48_1 w46 gb181 1 (.int .i64 a1_1) BK181; pxhQ5_ hcz48_2 w46 gb181 2 (.int .i64 a1_2) BK181; pxhQ5_ hcz48_3 w46 gb181 3 (.int .i64 a1_3) BK181; pxhQ5_ hcz48_4 w46 gb181 4 (.int .i64 a1_4) BK181; pxhQ5_ hcz48_5 w46 gb181 5 (.int .i64 a1_5) BK181; pxhQ5_ hcz48_6 w46 gb181 6 (.int .i64 a1_6) BK181; pxhQ5_ hcz48_7 w46 gb181 7 (.int .i64 a1_7) BK181; pxhQ5_ hcz48_8 w46 gb181 8 (.int .i64 a1_8) BK181; pxhQ5_ hcz48_9 w46 gb181 9 (.string a1_9) BK181; pxhQ5_ hcz48_10 w46 gb181 10 (.slice A1_10 l1_10.length c1_10) BK181; pxfQ5_ hfz48_0 BK181 0; pxfQ5_ hfz48_1 BK181 1; pxfQ5_ hfz48_2 BK181 2; pxfQ5_ hfz48_3 BK181 3; pxfQ5_ hfz48_4 BK181 4; pxfQ5_ hfz48_5 BK181 5; pxfQ5_ hfz48_6 BK181 6; pxfQ5_ hfz48_7 BK181 7; pxfQ5_ hfz48_8 BK181 8; pxfQ5_ hfz48_9 BK181 9; pxfQ5_ hfz48_10 BK181 10))
      go_ret
      pxLQ57_
  · replace c4 := Bool.eq_false_iff.mpr c4
    subst c4
    pxLQ56_
    clear H
    have H := H1
    clear H1
    obtain rfl := Option.some.inj H
    go_enter Try.func14, Try.ntmps14
    go_wp2_with (first | ((with_reducible refine gate_dst (N := 2) rfl ?_); refine box_event ?hg (N := 2) ?hd (cs := pxAQ51_) (t := 37) ?hr ?_; (case hd => rfl); (case hg => rfl); (case hr => first | (go_simp; done) | (go_simp; rfl)); intro gb180 hg w49 hbox hb; have n0_ := Aside0.mk (below_step (by repeat (first | (with_reducible first | exact HB.out | apply below_alloc | apply pw_below_drewN | apply below_drew1) | exact HB.out)) hb); have n1_ := Aside0.mk (hbox); have n2_ := Aside0.mk ((by rw [hg]; exact (below_size (by repeat (first | (with_reducible first | exact HB.out | apply below_alloc | apply pw_below_drewN | apply below_drew1) | exact HB.out))) : w.heap.size ≤ gb180)); have n3_ := Aside0.mk ((by rw [hg]; exact (below_size (by repeat (first | (with_reducible first | exact HB.out | apply below_alloc | apply pw_below_drewN | apply below_drew1) | exact HB.out))) : w.heap.size ≤ gb180)); clear HB; have HB := n0_; have BK180 := n1_; have GW180 := n2_; have GE180 := n3_; clear n0_ n1_ n2_ n3_; clear hb hbox hg) | ((with_reducible refine gate_dst (N := 3) rfl ?_); refine box_event ?hg (N := 3) ?hd (cs := pxAQ52_) (t := 37) ?hr ?_; (case hd => rfl); (case hg => rfl); (case hr => first | (go_simp; done) | (go_simp; rfl)); intro gb181 hg w50 hbox hb; have n0_ := Aside0.mk (blk_below (g := gb180) (o := .cells pxAQ51_ 37 (0, 0)) (by (with_reducible repeat (first | refine blk_drewN ?_ _ | refine blk_drew ?_ | refine blk_alloc ?_ _)); exact BK180.out) hb); have n1_ := Aside0.mk (below_step (by repeat (first | (with_reducible first | exact HB.out | apply below_alloc | apply pw_below_drewN | apply below_drew1 | refine below_set ?_ GE180.out) | exact HB.out)) hb); have n2_ := Aside0.mk (hbox); have n3_ := Aside0.mk ((by rw [hg]; exact (below_size (by repeat (first | (with_reducible first | exact HB.out | apply below_alloc | apply pw_below_drewN | apply below_drew1 | refine below_set ?_ GE180.out) | exact HB.out))) : w.heap.size ≤ gb181)); have n4_ := Aside0.mk ((by rw [hg]; exact (below_size (by repeat (first | (with_reducible first | exact HB.out | apply below_alloc | apply pw_below_drewN | apply below_drew1 | refine below_set ?_ GE180.out) | exact HB.out))) : w.heap.size ≤ gb181)); have n5_ := Aside0.mk ((by rw [hg]; exact Nat.ne_of_lt (blk_lt (g := gb180) (o := .cells pxAQ51_ 37 (0, 0)) (by (with_reducible repeat (first | refine blk_drewN ?_ _ | refine blk_drew ?_ | refine blk_alloc ?_ _)); exact BK180.out)) : gb180 ≠ gb181)); have n6_ := Aside0.mk ((by rw [hg]; exact Nat.ne_of_gt (blk_lt (g := gb180) (o := .cells pxAQ51_ 37 (0, 0)) (by (with_reducible repeat (first | refine blk_drewN ?_ _ | refine blk_drew ?_ | refine blk_alloc ?_ _)); exact BK180.out)) : gb181 ≠ gb180)); clear BK180; clear HB; have BK180 := n0_; have HB := n1_; have BK181 := n2_; have GW181 := n3_; have GE181 := n4_; have NB180_181 := n5_; have NB181_180 := n6_; clear n0_ n1_ n2_ n3_ n4_ n5_ n6_; clear hb hbox hg; have hnb51 := NB180_181.out; have hnc51 := NB181_180.out; pxhQ5_ hcz52_0 w50 gb180 0 (.int .i64 a0_0) BK180; pxhQ5_ hcz52_1 w50 gb180 1 (.int .i64 a0_1) BK180; pxhQ5_ hcz52_2 w50 gb180 2 (.int .i64 a0_2) BK180; pxhQ5_ hcz52_3 w50 gb180 3 (.int .i64 a0_3) BK180; pxhQ5_ hcz52_4 w50 gb180 4 (.int .i64 a0_4) BK180; pxhQ5_ hcz52_5 w50 gb180 5 (.int .i64 a0_5) BK180; pxhQ5_ hcz52_6 w50 gb180 6 (.int .i64 a0_6) BK180; pxhQ5_ hcz52_7 w50 gb180 7 (.int .i64 a0_7) BK180; pxhQ5_ hcz52_8 w50 gb180 8 (.int .i64 a0_8) BK180; pxhQ5_ hcz52_9 w50 gb180 9 (.string a0_9) BK180; pxhQ5_ hcz52_10 w50 gb180 10 (.slice A0_10 l0_10.length c0_10) BK180; pxfQ5_ hfz52_0 BK180 0; pxfQ5_ hfz52_1 BK180 1; pxfQ5_ hfz52_2 BK180 2; pxfQ5_ hfz52_3 BK180 3; pxfQ5_ hfz52_4 BK180 4; pxfQ5_ hfz52_5 BK180 5; pxfQ5_ hfz52_6 BK180 6; pxfQ5_ hfz52_7 BK180 7; pxfQ5_ hfz52_8 BK180 8; pxfQ5_ hfz52_9 BK180 9; pxfQ5_ hfz52_10 BK180 10; pxhQ5_ hcz53_0 w50 gb181 0 (.int .i64 a1_0) BK181; pxhQ5_ hcz53_1 w50 gb181 1 (.int .i64 a1_1) BK181; pxhQ5_ hcz53_2 w50 gb181 2 (.int .i64 a1_2) BK181; pxhQ5_ hcz53_3 w50 gb181 3 (.int .i64 a1_3) BK181; pxhQ5_ hcz53_4 w50 gb181 4 (.int .i64 a1_4) BK181; pxhQ5_ hcz53_5 w50 gb181 5 (.int .i64 a1_5) BK181; pxhQ5_ hcz53_6 w50 gb181 6 (.int .i64 a1_6) BK181; pxhQ5_ hcz53_7 w50 gb181 7 (.int .i64 a1_7) BK181; pxhQ5_ hcz53_8 w50 gb181 8 (.int .i64 a1_8) BK181; pxhQ5_ hcz53_9 w50 gb181 9 (.string a1_9) BK181; pxhQ5_ hcz53_10 w50 gb181 10 (.slice A1_10 l1_10.length c1_10) BK181; pxfQ5_ hfz53_0 BK181 0; pxfQ5_ hfz53_1 BK181 1; pxfQ5_ hfz53_2 BK181 2; pxfQ5_ hfz53_3 BK181 3; pxfQ5_ hfz53_4 BK181 4; pxfQ5_ hfz53_5 BK181 5; pxfQ5_ hfz53_6 BK181 6; pxfQ5_ hfz53_7 BK181 7; pxfQ5_ hfz53_8 BK181 8; pxfQ5_ hfz53_9 BK181 9; pxfQ5_ hfz53_10 BK181 10) | ((with_reducible refine gate_callee (f := 30) rfl ?_); refine goesL_ (some 10) rfl rfl Try.func30 (by kernel_rfl) rfl pxAQ50_ rfl (by (try simp only [List.map_toArray, List.map_cons, List.map_nil]); first | done | rfl | (simp only [List.length_drop, List.length_take]; rfl)) ?_; (with_reducible refine (copyholdref11_Same.calls k a0_5 a0_6 a0_7 a0_8 a0_9 _ _ l0_10 a1_5 a1_6 a1_7 a1_8 a1_9 _ _ l1_10 false _ ?side1 ?side2 ?side3 ?side4 A3.out).mono ?_); (case side1 => repeat (first | exact (Kd.C_below HR0_10.out HB.out) | (with_reducible refine Kd.C_alloc ?_ _) | (with_reducible refine Kd.C_drewN ?_ _) | (with_reducible refine Kd.C_drew ?_))); (case side2 => exact HC0_10.out); (case side3 => repeat (first | exact (Kd.C_below HR1_10.out HB.out) | (with_reducible refine Kd.C_alloc ?_ _) | (with_reducible refine Kd.C_drewN ?_ _) | (with_reducible refine Kd.C_drew ?_))); (case side4 => exact HC1_10.out); rintro e w54 ⟨rfl, hb⟩; refine ⟨_, rfl, ?_⟩; have n0_ := Aside0.mk (blk_below (g := gb180) (o := .cells pxAQ51_ 37 (0, 0)) (by (with_reducible repeat (first | refine blk_drewN ?_ _ | refine blk_drew ?_ | refine blk_alloc ?_ _)); exact BK180.out) hb); have n1_ := Aside0.mk (blk_below (g := gb181) (o := .cells pxAQ52_ 37 (0, 0)) (by (with_reducible repeat (first | refine blk_drewN ?_ _ | refine blk_drew ?_ | refine blk_alloc ?_ _)); exact BK181.out) hb); have n2_ := Aside0.mk (below_step (by repeat (first | (with_reducible first | exact HB.out | apply below_alloc | apply pw_below_drewN | apply below_drew1 | refine below_set ?_ GE180.out | refine below_set ?_ GE181.out) | exact HB.out)) hb); clear BK180; clear BK181; clear HB; have BK180 := n0_; have BK181 := n1_; have HB := n2_; clear n0_ n1_ n2_; (try clear hb); (try clear hb2); (try clear hk); (try clear hi)))
    go_ret
    pxLQ57_

-- GIVEN: function 32 (octet_List): its Lean function and its contract stand in a text of this session's

/-! ### wire_Rsp: function 16 -/
def wire_Rsp.f (a0_0 : Int) (a0_1 : Int) (a0_2 : Int) (a0_3 : Int) (a0_4 : Int) (a0_5 : Int) (a0_6 : Int) (a0_7 : Int) (a0_8 : Int) (a0_9 : ByteArray) (l0_10 : List ByteArray) : Option (ByteArray) := (wire_nums.f (([a0_0, a0_1, a0_2, a0_3, a0_4, a0_5, a0_6, a0_7, a0_8] : List Int))).bind fun t187 => (if 1 + t187.size ≤ 9223372036854775807 then ((octet_Text.f a0_9).bind fun t188 => (if ((⟨#[114]⟩ : ByteArray) ++ t187).size + t188.size ≤ 9223372036854775807 then ((octet_List.f l0_10).bind fun t189 => (if (((⟨#[114]⟩ : ByteArray) ++ t187) ++ t188).size + t189.size ≤ 9223372036854775807 then ((seal_Put.f ((((⟨#[114]⟩ : ByteArray) ++ t187) ++ t188) ++ t189)).bind fun t190 => (some t190)) else (none))) else (none))) else (none))
def wire_Rsp.T2 : Bool × List (List Nat × List Nat) := (true, [([], []), ([0], [0]), ([], []), ([2], [2]), ([3], [3]), ([4], [4]), ([1, 5], [1, 5]), ([], []), ([7], [7]), ([8], [8]), ([9, 5], [9]), ([6, 10], [6, 10]), ([11, 10], [11]), ([12, 12, 0, 1, 2, 3, 4, 5, 6, 7, 8, 9, 10, 11, 12], [12])])
def wire_Rsp.B2 : List Nat := [0, 1, 0, 4, 12, 28, 63, 0, 128, 384, 956, 2047, 4095, 8191]
theorem wire_Rsp.tab2 : rtab .any (opsOf Try.f16 2) = wire_Rsp.T2 := by kernel_rfl
theorem wire_Rsp.bits2 : waitsOk wire_Rsp.T2.2 wire_Rsp.B2 = true := by kernel_rfl
set_option maxHeartbeats 8000000 in
set_option maxRecDepth 100000 in
theorem wire_Rsp.calls (a0_0 : Int) (a0_1 : Int) (a0_2 : Int) (a0_3 : Int) (a0_4 : Int) (a0_5 : Int) (a0_6 : Int) (a0_7 : Int) (a0_8 : Int) (a0_9 : ByteArray) (A0_10 : Option Addr) (c0_10 : Nat) (l0_10 : List ByteArray) (r : ByteArray) (w : World) (hr0_10 : Kd.C Kd.string w A0_10 l0_10.length l0_10) (hc0_10 : l0_10.length ≤ c0_10) (h : wire_Rsp.f a0_0 a0_1 a0_2 a0_3 a0_4 a0_5 a0_6 a0_7 a0_8 a0_9 l0_10 = some r) :
    Calls Try.prog 16 #[.agg pxAQ51_] w fun e w' => e = .returned (.string r) ∧ Below w.heap.size w w' := by
  have hu37 := Try.underlying37
  have HR0_10 := Aside0.mk hr0_10
  have HC0_10 := Aside0.mk hc0_10
  clear hr0_10 hc0_10
  have HB := Aside0.mk (Below.refl w.heap.size w)
  have H : ((wire_nums.f (([a0_0, a0_1, a0_2, a0_3, a0_4, a0_5, a0_6, a0_7, a0_8] : List Int))).bind fun t187 => (if 1 + t187.size ≤ 9223372036854775807 then ((octet_Text.f a0_9).bind fun t188 => (if ((⟨#[114]⟩ : ByteArray) ++ t187).size + t188.size ≤ 9223372036854775807 then ((octet_List.f l0_10).bind fun t189 => (if (((⟨#[114]⟩ : ByteArray) ++ t187) ++ t188).size + t189.size ≤ 9223372036854775807 then ((seal_Put.f ((((⟨#[114]⟩ : ByteArray) ++ t187) ++ t188) ++ t189)).bind fun t190 => (some t190)) else (none))) else (none))) else (none))) = some r := h
  clear h
  obtain ⟨y184, hy184⟩ : ∃ y_ : List Int, y_ = (([a0_0, a0_1, a0_2, a0_3, a0_4, a0_5, a0_6, a0_7, a0_8] : List Int)) := ⟨_, rfl⟩
  replace H : ((wire_nums.f y184).bind fun t187 => (if 1 + t187.size ≤ 9223372036854775807 then ((octet_Text.f a0_9).bind fun t188 => (if ((⟨#[114]⟩ : ByteArray) ++ t187).size + t188.size ≤ 9223372036854775807 then ((octet_List.f l0_10).bind fun t189 => (if (((⟨#[114]⟩ : ByteArray) ++ t187) ++ t188).size + t189.size ≤ 9223372036854775807 then ((seal_Put.f ((((⟨#[114]⟩ : ByteArray) ++ t187) ++ t188) ++ t189)).bind fun t190 => (some t190)) else (none))) else (none))) else (none))) = some r := by first | (rw [hy184]; with_reducible exact H) | (have H2_ := (Option.bind_some _ _).symm.trans H; rw [hy184]; with_reducible exact H2_) | (have H2_ := (Option.bind_some _ _).symm.trans H; with_reducible exact H2_) | with_reducible exact H | (rw [hy184]; exact H) | exact H
  have Ny184 := Aside0.mk hy184
  clear hy184
  replace H := Option.bind_eq_some_iff.mp H
  obtain ⟨t187, A20, H⟩ := H
  replace H : (if 1 + t187.size ≤ 9223372036854775807 then ((octet_Text.f a0_9).bind fun t188 => (if ((⟨#[114]⟩ : ByteArray) ++ t187).size + t188.size ≤ 9223372036854775807 then ((octet_List.f l0_10).bind fun t189 => (if (((⟨#[114]⟩ : ByteArray) ++ t187) ++ t188).size + t189.size ≤ 9223372036854775807 then ((seal_Put.f ((((⟨#[114]⟩ : ByteArray) ++ t187) ++ t188) ++ t189)).bind fun t190 => (some t190)) else (none))) else (none))) else (none)) = some r := H
  have A2 := Aside0.mk A20
  clear A20
  by_cases c3 : 1 + t187.size ≤ 9223372036854775807
  · rw [if_pos c3] at H
    have c3b0 := eq_true c3
    have c3b1 : decide (1 + t187.size ≤ 9223372036854775807) = true := decide_eq_true c3
    try have c3b2 : (9223372036854775807 < 1 + t187.size) = False := eq_false (Nat.not_lt.2 c3)
    replace H := Option.bind_eq_some_iff.mp H
    obtain ⟨t188, A40, H⟩ := H
    replace H : (if ((⟨#[114]⟩ : ByteArray) ++ t187).size + t188.size ≤ 9223372036854775807 then ((octet_List.f l0_10).bind fun t189 => (if (((⟨#[114]⟩ : ByteArray) ++ t187) ++ t188).size + t189.size ≤ 9223372036854775807 then ((seal_Put.f ((((⟨#[114]⟩ : ByteArray) ++ t187) ++ t188) ++ t189)).bind fun t190 => (some t190)) else (none))) else (none)) = some r := H
    have A4 := Aside0.mk A40
    clear A40
    by_cases c5 : ((⟨#[114]⟩ : ByteArray) ++ t187).size + t188.size ≤ 9223372036854775807
    · rw [if_pos c5] at H
      have c5b0 := eq_true c5
      have c5b1 : decide (((⟨#[114]⟩ : ByteArray) ++ t187).size + t188.size ≤ 9223372036854775807) = true := decide_eq_true c5
      try have c5b2 : (9223372036854775807 < ((⟨#[114]⟩ : ByteArray) ++ t187).size + t188.size) = False := eq_false (Nat.not_lt.2 c5)
      try have c5b2_ : (9223372036854775807 < 1 + t187.size + t188.size) = False := (by have h_ := c5b2; simp only [ByteArray.size_append] at h_; exact h_)
      replace H := Option.bind_eq_some_iff.mp H
      obtain ⟨t189, A60, H⟩ := H
      replace H : (if (((⟨#[114]⟩ : ByteArray) ++ t187) ++ t188).size + t189.size ≤ 9223372036854775807 then ((seal_Put.f ((((⟨#[114]⟩ : ByteArray) ++ t187) ++ t188) ++ t189)).bind fun t190 => (some t190)) else (none)) = some r := H
      have A6 := Aside0.mk A60
      clear A60
      by_cases c7 : (((⟨#[114]⟩ : ByteArray) ++ t187) ++ t188).size + t189.size ≤ 9223372036854775807
      · rw [if_pos c7] at H
        have c7b0 := eq_true c7
        have c7b1 : decide ((((⟨#[114]⟩ : ByteArray) ++ t187) ++ t188).size + t189.size ≤ 9223372036854775807) = true := decide_eq_true c7
        try have c7b2 : (9223372036854775807 < (((⟨#[114]⟩ : ByteArray) ++ t187) ++ t188).size + t189.size) = False := eq_false (Nat.not_lt.2 c7)
        try have c7b2_ : (9223372036854775807 < 1 + t187.size + t188.size + t189.size) = False := (by have h_ := c7b2; simp only [ByteArray.size_append] at h_; exact h_)
        replace H := Option.bind_eq_some_iff.mp H
        obtain ⟨t190, A80, H⟩ := H
        replace H : (some t190) = some r := H
        have A8 := Aside0.mk A80
        clear A80
        obtain rfl := Option.some.inj H
        go_enter Try.func16, Try.ntmps16
        try go_wp2_with (first | ((with_reducible refine gate_dst (N := 1) rfl ?_); refine box_event ?hg (N := 1) ?hd (cs := pxAQ51_) (t := 37) ?hr ?_; (case hd => rfl); (case hg => rfl); (case hr => first | (go_simp; done) | (go_simp; rfl)); intro gb183 hg w9 hbox hb; have n0_ := Aside0.mk (below_step (by repeat (first | (with_reducible first | exact HB.out | apply below_alloc | apply pw_below_drewN | apply below_drew1) | exact HB.out)) hb); have n1_ := Aside0.mk (hbox); have n2_ := Aside0.mk ((by rw [hg]; exact (below_size (by repeat (first | (with_reducible first | exact HB.out | apply below_alloc | apply pw_below_drewN | apply below_drew1) | exact HB.out))) : w.heap.size ≤ gb183)); have n3_ := Aside0.mk ((by rw [hg]; exact (below_size (by repeat (first | (with_reducible first | exact HB.out | apply below_alloc | apply pw_below_drewN | apply below_drew1) | exact HB.out))) : w.heap.size ≤ gb183)); clear HB; have HB := n0_; have BK183 := n1_; have GW183 := n2_; have GE183 := n3_; clear n0_ n1_ n2_ n3_; clear hb hbox hg; pxhQ5_ hcz10_0 w9 gb183 0 (.int .i64 a0_0) BK183; pxhQ5_ hcz10_1 w9 gb183 1 (.int .i64 a0_1) BK183; pxhQ5_ hcz10_2 w9 gb183 2 (.int .i64 a0_2) BK183; pxhQ5_ hcz10_3 w9 gb183 3 (.int .i64 a0_3) BK183; pxhQ5_ hcz10_4 w9 gb183 4 (.int .i64 a0_4) BK183; pxhQ5_ hcz10_5 w9 gb183 5 (.int .i64 a0_5) BK183; pxhQ5_ hcz10_6 w9 gb183 6 (.int .i64 a0_6) BK183; pxhQ5_ hcz10_7 w9 gb183 7 (.int .i64 a0_7) BK183; pxhQ5_ hcz10_8 w9 gb183 8 (.int .i64 a0_8) BK183; pxhQ5_ hcz10_9 w9 gb183 9 (.string a0_9) BK183; pxhQ5_ hcz10_10 w9 gb183 10 (.slice A0_10 l0_10.length c0_10) BK183; pxfQ5_ hfz10_0 BK183 0; pxfQ5_ hfz10_1 BK183 1; pxfQ5_ hfz10_2 BK183 2; pxfQ5_ hfz10_3 BK183 3; pxfQ5_ hfz10_4 BK183 4; pxfQ5_ hfz10_5 BK183 5; pxfQ5_ hfz10_6 BK183 6; pxfQ5_ hfz10_7 BK183 7; pxfQ5_ hfz10_8 BK183 8; pxfQ5_ hfz10_9 BK183 9; pxfQ5_ hfz10_10 BK183 10) | ((with_reducible refine gate_dst (N := 26) rfl ?_); refine Kd.R_lit (Kd.int .i64) _ 3 ?hg (N := 26) ?hd (xs := ([a0_0, a0_1, a0_2, a0_3, a0_4, a0_5, a0_6, a0_7, a0_8] : List Int)) (inner := [.int .i64 a0_0, .int .i64 a0_1, .int .i64 a0_2, .int .i64 a0_3, .int .i64 a0_4, .int .i64 a0_5, .int .i64 a0_6, .int .i64 a0_7, .int .i64 a0_8]) (ok := fun _ => True) (okp := fun _ => True) ?hr ?hp (fun _ hk => hk) trivial (Below.refl _ _) (Nat.le_refl _) (by simp) ?_; (case hd => rfl); (case hg => rfl); (case hr => first | (go_simp; done) | (go_simp; rfl)); (case hp => exact (Reps.one (show Kd.M (Kd.int .i64) _ _ _ a0_0 [.int .i64 a0_0] from rfl) (Reps.one (show Kd.M (Kd.int .i64) _ _ _ a0_1 [.int .i64 a0_1] from rfl) (Reps.one (show Kd.M (Kd.int .i64) _ _ _ a0_2 [.int .i64 a0_2] from rfl) (Reps.one (show Kd.M (Kd.int .i64) _ _ _ a0_3 [.int .i64 a0_3] from rfl) (Reps.one (show Kd.M (Kd.int .i64) _ _ _ a0_4 [.int .i64 a0_4] from rfl) (Reps.one (show Kd.M (Kd.int .i64) _ _ _ a0_5 [.int .i64 a0_5] from rfl) (Reps.one (show Kd.M (Kd.int .i64) _ _ _ a0_6 [.int .i64 a0_6] from rfl) (Reps.one (show Kd.M (Kd.int .i64) _ _ _ a0_7 [.int .i64 a0_7] from rfl) (Reps.one (show Kd.M (Kd.int .i64) _ _ _ a0_8 [.int .i64 a0_8] from rfl) (Reps.none _ _))))))))))); intro v185 w11 ho12 hb hg_ hnew_; clear hg_ hnew_; (first | rw [← Ny184.out] at ho12 | (simp only [Int.reduceToNat] at ho12; rw [← Ny184.out] at ho12)); have n0_ := Aside0.mk (Kd.R_lower ho12 (below_size (by repeat (first | (with_reducible first | exact HB.out | apply below_alloc | apply pw_below_drewN | apply below_drew1 | refine below_set ?_ GE183.out) | exact HB.out)))); have n1_ := Aside0.mk (blk_below (g := gb183) (o := .cells pxAQ51_ 37 (0, 0)) (by (with_reducible repeat (first | refine blk_drewN ?_ _ | refine blk_drew ?_ | refine blk_alloc ?_ _)); exact BK183.out) hb); have n2_ := Aside0.mk (below_step (by repeat (first | (with_reducible first | exact HB.out | apply below_alloc | apply pw_below_drewN | apply below_drew1 | refine below_set ?_ GE183.out) | exact HB.out)) hb); clear BK183; clear HB; have HO186 := n0_; have BK183 := n1_; have HB := n2_; clear n0_ n1_ n2_; clear hb ho12; obtain ⟨Ao13, co13, eo13⟩ := Kd.R_slice HO186.out; subst eo13) | ((with_reducible refine gate_callee (f := 27) rfl ?_); refine goesL_ (some 27) rfl rfl Try.func27 (by kernel_rfl) rfl #[.slice Ao13 y184.length co13] rfl (by (try simp only [List.map_toArray, List.map_cons, List.map_nil]); first | done | rfl | (simp only [List.length_drop, List.length_take]; rfl)) ?_; (with_reducible refine (wire_nums.calls _ _ y184 t187 _ ?side1 ?side2 A2.out).mono ?_); (case side1 => repeat (first | exact (Kd.R_reads' HO186.out).2.2 | (with_reducible refine Kd.C_alloc ?_ _) | (with_reducible refine Kd.C_drewN ?_ _) | (with_reducible refine Kd.C_drew ?_))); (case side2 => exact (Kd.R_reads' HO186.out).2.1); rintro e w14 ⟨rfl, hb⟩; refine ⟨_, rfl, ?_⟩; have n0_ := Aside0.mk (Kd.R_below (by (with_reducible repeat (first | apply Kd.R_alloc | apply Kd.R_drewN | apply Kd.R_drew)); exact HO186.out) hb); have n1_ := Aside0.mk (blk_below (g := gb183) (o := .cells pxAQ51_ 37 (0, 0)) (by (with_reducible repeat (first | refine blk_drewN ?_ _ | refine blk_drew ?_ | refine blk_alloc ?_ _)); exact BK183.out) hb); have n2_ := Aside0.mk (below_step (by repeat (first | (with_reducible first | exact HB.out | apply below_alloc | apply pw_below_drewN | apply below_drew1 | refine below_set ?_ GE183.out) | exact HB.out)) hb); clear HO186; clear BK183; clear HB; have HO186 := n0_; have BK183 := n1_; have HB := n2_; clear n0_ n1_ n2_; (try clear hb); (try clear hb2); (try clear hk); (try clear hi)))
        have n0_ := Aside0.mk (Kd.R_drew HO186.out)
        have n1_ := Aside0.mk (blk_drew BK183.out)
        have n2_ := Aside0.mk (below_drew1 HB.out)
        (clear HO186; clear BK183; clear HB; have HO186 := n0_; have BK183 := n1_; have HB := n2_; clear n0_ n1_ n2_)
        refine start_ (n := 14) (S := fun w' => w'.cell? ⟨gb183, 0, none⟩ = some (.int .i64 a0_0) ∧ w'.cell? ⟨gb183, 1, none⟩ = some (.int .i64 a0_1) ∧ w'.cell? ⟨gb183, 2, none⟩ = some (.int .i64 a0_2) ∧ w'.cell? ⟨gb183, 3, none⟩ = some (.int .i64 a0_3) ∧ w'.cell? ⟨gb183, 4, none⟩ = some (.int .i64 a0_4) ∧ w'.cell? ⟨gb183, 5, none⟩ = some (.int .i64 a0_5) ∧ w'.cell? ⟨gb183, 6, none⟩ = some (.int .i64 a0_6) ∧ w'.cell? ⟨gb183, 7, none⟩ = some (.int .i64 a0_7) ∧ w'.cell? ⟨gb183, 8, none⟩ = some (.int .i64 a0_8) ∧ w'.cell? ⟨gb183, 9, none⟩ = some (.string a0_9) ∧ w'.cell? ⟨gb183, 10, none⟩ = some (.slice A0_10 l0_10.length c0_10)) (ds := []) #[false, false, false, false, false, false, false, false, false, false, false, false, false, false] (by kernel_rfl) rfl rfl ⟨pxkQ5_ BK183 0, pxkQ5_ BK183 1, pxkQ5_ BK183 2, pxkQ5_ BK183 3, pxkQ5_ BK183 4, pxkQ5_ BK183 5, pxkQ5_ BK183 6, pxkQ5_ BK183 7, pxkQ5_ BK183 8, pxkQ5_ BK183 9, pxkQ5_ BK183 10⟩ (fun hHeld => ?_); refine with_tabW wire_Rsp.tab2 wire_Rsp.bits2 (fun HT_ HW_ => ?_)
        generalize w14.drew = w15 at HO186 BK183 HB hHeld ⊢
        refine pure_ (i := 0) (N := some 28) (v := ?_) (a' := ?_) #[true, false, false, false, false, false, false, false, false, false, false, false, false, false] rfl rfl (any_of HT_.out (by kernel_rfl)) (fun _ _ _ h => h) (Or.inl ⟨by rfl, ?_⟩) ?_ ?_
        rotate_left
        · intro w'
          go_simp
          with_reducible rfl
        rotate_left
        · simp only [Act.put, List.setIfInBounds_toArray, List.set_cons_zero, List.set_cons_succ, i64_w, i32_w]
          rfl
        refine pure_ (i := 1) (N := some 29) (v := ?_) (a' := ?_) #[true, true, false, false, false, false, false, false, false, false, false, false, false, false] rfl rfl (any_of HT_.out (by kernel_rfl)) (fun _ _ _ h => h) (Or.inl ⟨by rfl, ?_⟩) ?_ ?_
        rotate_left
        · intro w'
          go_simp
          with_reducible rfl
        rotate_left
        · simp only [Act.put, List.setIfInBounds_toArray, List.set_cons_zero, List.set_cons_succ, i64_w, i32_w]
          rfl
        refine pure_ (i := 2) (N := some 30) (v := ?_) (a' := ?_) #[true, true, true, false, false, false, false, false, false, false, false, false, false, false] rfl rfl (any_of HT_.out (by kernel_rfl)) (fun _ _ _ h => h) (Or.inl ⟨by rfl, ?_⟩) ?_ ?_
        rotate_left
        · intro w'
          go_simp
          with_reducible rfl
        rotate_left
        · simp only [Act.put, List.setIfInBounds_toArray, List.set_cons_zero, List.set_cons_succ, i64_w, i32_w]
          rfl
        refine pure_ (i := 3) (N := some 31) (v := ?_) (a' := ?_) #[true, true, true, true, false, false, false, false, false, false, false, false, false, false] rfl rfl (any_of HT_.out (by kernel_rfl)) (fun _ _ _ h => h) (Or.inl ⟨by rfl, ?_⟩) ?_ ?_
        rotate_left
        · intro w'
          go_simp
          with_reducible rfl
        rotate_left
        · simp only [Act.put, List.setIfInBounds_toArray, List.set_cons_zero, List.set_cons_succ, i64_w, i32_w]
          rfl
        refine pure_ (i := 7) (N := some 35) (v := ?_) (a' := ?_) #[true, true, true, true, false, false, false, true, false, false, false, false, false, false] rfl rfl (any_of HT_.out (by kernel_rfl)) (fun _ _ _ h => h) (Or.inl ⟨by rfl, ?_⟩) ?_ ?_
        rotate_left
        · intro w'
          go_simp
          with_reducible rfl
        rotate_left
        · simp only [Act.put, List.setIfInBounds_toArray, List.set_cons_zero, List.set_cons_succ, i64_w, i32_w]
          rfl
        refine pure_ (i := 8) (N := some 36) (v := ?_) (a' := ?_) #[true, true, true, true, false, false, false, true, true, false, false, false, false, false] rfl rfl (any_of HT_.out (by kernel_rfl)) (fun _ _ _ h => h) (Or.inl ⟨by rfl, ?_⟩) ?_ ?_
        rotate_left
        · intro w'
          go_simp
          with_reducible rfl
        rotate_left
        · simp only [Act.put, List.setIfInBounds_toArray, List.set_cons_zero, List.set_cons_succ, i64_w, i32_w]
          rfl
        refine take_ (i := 4) (N := some 32) (v := ?_) (a' := ?_) #[true, true, true, true, true, false, false, true, true, false, false, false, false, false] rfl rfl (take_ofW HT_.out HW_.out (by kernel_rfl)) (fun _ _ _ h => h) (Or.inl ⟨by rfl, ?_⟩) hHeld ?_ ?_
        rotate_left
        · rintro w' ⟨s0, s1, s2, s3, s4, s5, s6, s7, s8, s9, s10⟩
          go_simp
          with_reducible rfl
        rotate_left
        · simp only [Act.put, List.setIfInBounds_toArray, List.set_cons_zero, List.set_cons_succ, i64_w, i32_w]
          rfl
        refine take_ (i := 9) (N := some 37) (v := ?_) (a' := ?_) #[true, true, true, true, true, false, false, true, true, true, false, false, false, false] rfl rfl (take_ofW HT_.out HW_.out (by kernel_rfl)) (fun _ _ _ h => h) (Or.inl ⟨by rfl, ?_⟩) hHeld ?_ ?_
        rotate_left
        · rintro w' ⟨s0, s1, s2, s3, s4, s5, s6, s7, s8, s9, s10⟩
          go_simp
          with_reducible rfl
        rotate_left
        · simp only [Act.put, List.setIfInBounds_toArray, List.set_cons_zero, List.set_cons_succ, i64_w, i32_w]
          rfl
        refine one_ (i := 5) (N := some 33) #[true, true, true, true, true, true, false, true, true, true, false, false, false, false] rfl rfl (one_of HT_.out (by kernel_rfl)) (by decide) (fun K hK => ?_)
        refine goes_ Try.func28 (by kernel_rfl) rfl #[.string a0_9] (by rfl) rfl rfl (by (try simp only [List.map_toArray, List.map_cons, List.map_nil]); first | done | rfl | (simp only [List.length_drop, List.length_take]; rfl)) ?_
        with_reducible refine (octet_Text.calls a0_9 t188 _ A4.out).mono ?_
        rintro e w16 ⟨rfl, hb⟩
        refine ⟨_, rfl, ?_⟩
        pxLQ58_
        pxLQ59_
        pxLQ510_
        pxLQ511_
        pxLQ512_
        clear hK K
        refine norm_ (a' := ?_) ?_ ?_
        rotate_left
        · show Act.put _ (some 33) _ = _
          pxLQ513_
          rfl
        refine pure_ (i := 6) (N := some 34) (v := ?_) (a' := ?_) #[true, true, true, true, true, true, true, true, true, true, false, false, false, false] rfl rfl (any_of HT_.out (by kernel_rfl)) (fun _ _ _ h => h) (Or.inl ⟨by rfl, ?_⟩) ?_ ?_
        rotate_left
        · intro w'
          go_simp
          with_reducible rfl
        rotate_left
        · simp only [Act.put, List.setIfInBounds_toArray, List.set_cons_zero, List.set_cons_succ, i64_w, i32_w]
          rfl
        refine one_ (i := 10) (N := some 38) #[true, true, true, true, true, true, true, true, true, true, true, false, false, false] rfl rfl (one_of HT_.out (by kernel_rfl)) (by decide) (fun K hK => ?_)
        refine goes_ Try.func32 (by kernel_rfl) rfl #[.slice A0_10 l0_10.length c0_10] (by rfl) rfl rfl (by (try simp only [List.map_toArray, List.map_cons, List.map_nil]); first | done | rfl | (simp only [List.length_drop, List.length_take]; rfl)) ?_
        with_reducible refine (octet_List.calls _ _ l0_10 t189 _ ?side1 ?side2 A6.out).mono ?_
        (case side1 => repeat (first | exact (Kd.C_below HR0_10.out HB.out) | (with_reducible refine Kd.C_alloc ?_ _) | (with_reducible refine Kd.C_drewN ?_ _) | (with_reducible refine Kd.C_drew ?_)))
        (case side2 => exact HC0_10.out)
        rintro e w17 ⟨rfl, hb⟩
        refine ⟨_, rfl, ?_⟩
        pxLQ58_
        pxLQ59_
        pxLQ510_
        pxLQ511_
        pxLQ512_
        clear hK K
        refine norm_ (a' := ?_) ?_ ?_
        rotate_left
        · show Act.put _ (some 38) _ = _
          pxLQ513_
          rfl
        refine pure_ (i := 11) (N := some 39) (v := ?_) (a' := ?_) #[true, true, true, true, true, true, true, true, true, true, true, true, false, false] rfl rfl (any_of HT_.out (by kernel_rfl)) (fun _ _ _ h => h) (Or.inl ⟨by rfl, ?_⟩) ?_ ?_
        rotate_left
        · intro w'
          go_simp
          with_reducible rfl
        rotate_left
        · simp only [Act.put, List.setIfInBounds_toArray, List.set_cons_zero, List.set_cons_succ, i64_w, i32_w]
          rfl
        refine one_ (i := 12) (N := some 40) #[true, true, true, true, true, true, true, true, true, true, true, true, true, false] rfl rfl (one_of HT_.out (by kernel_rfl)) (by decide) (fun K hK => ?_)
        refine goes_ Try.func31 (by kernel_rfl) rfl #[.string ((((⟨#[114]⟩ : ByteArray) ++ t187) ++ t188) ++ t189)] (by rfl) rfl rfl (by (try simp only [List.map_toArray, List.map_cons, List.map_nil]); first | done | rfl | (simp only [List.length_drop, List.length_take]; rfl)) ?_
        with_reducible refine (seal_Put.calls ((((⟨#[114]⟩ : ByteArray) ++ t187) ++ t188) ++ t189) t190 _ A8.out).mono ?_
        rintro e w18 ⟨rfl, hb⟩
        refine ⟨_, rfl, ?_⟩
        pxLQ58_
        pxLQ59_
        pxLQ510_
        pxLQ511_
        pxLQ512_
        clear hK K
        refine norm_ (a' := ?_) ?_ ?_
        rotate_left
        · show Act.put _ (some 40) _ = _
          pxLQ513_
          rfl
        refine pure_ (i := 13) (N := some 2) (v := ?_) (a' := ?_) #[true, true, true, true, true, true, true, true, true, true, true, true, true, true] rfl rfl (any_of HT_.out (by kernel_rfl)) (fun _ _ _ h => h) (Or.inl ⟨by rfl, ?_⟩) ?_ ?_
        rotate_left
        · intro w'
          go_simp
          with_reducible rfl
        rotate_left
        · simp only [Act.put, List.setIfInBounds_toArray, List.set_cons_zero, List.set_cons_succ, i64_w, i32_w]
          rfl
        refine done_ (done_of HT_.out (by kernel_rfl)) ?_
        try go_wp2
        go_ret
        exact ⟨by first | rfl | (simp [errW_none, errW_some] <;> rfl) | (simp [*, errW_none, errW_some] <;> rfl), by repeat (first | (with_reducible first | exact HB.out | apply below_alloc | apply pw_below_drewN | apply below_drew1 | refine below_set ?_ GE183.out) | exact HB.out)⟩
      · rw [if_neg c7] at H
        exact absurd H (by simp)
    · rw [if_neg c5] at H
      exact absurd H (by simp)
  · rw [if_neg c3] at H
    exact absurd H (by simp)

-- NOT PRINTED: function 4 (copyholdlaw15_WireApart)

/-! ### copyholdref01_Long: function 17 -/
def copyholdref01_Long.l0 : Nat → List ByteArray → Int → Int → Option (Int)
  | 0, _, _, _ => none
  | k + 1, x0, x3, x4 => if x4 < (x0.length : Int) then (if 0 ≤ x4 then (copyholdref01_Long.l0 k x0 (wrap64 (x3 + ((rdOf ByteArray.empty x0 x4).size : Int))) (wrap64 (x4 + 1))) else (none)) else (some x3)
def copyholdref01_Long.f (k : Nat) (l0 : List ByteArray) : Option (Int) := copyholdref01_Long.l0 k l0 (l0.length : Int) 0
theorem copyholdref01_Long.mono_l : ∀ k, (∀ y0 y1 y2, LeO (copyholdref01_Long.l0 k y0 y1 y2) (copyholdref01_Long.l0 (k + 1) y0 y1 y2))
  | 0 => fun _ _ _ r h => by simp [copyholdref01_Long.l0] at h
  | k + 1 => by
    have ih0 := copyholdref01_Long.mono_l k
    · intro y0 y1 y2
      unfold copyholdref01_Long.l0
      repeat' first
      | (with_reducible exact ih0 _ _ _)
      | (with_reducible exact LeO.refl _)
      | (with_reducible exact LeO.none _)
      | (with_reducible refine LeO.ite ?_ ?_)
      | (with_reducible refine LeO.bind ?_ (fun _ => ?_))
      | exact ih0 _ _ _
      | exact LeO.none _
      | refine LeO.ite ?_ ?_
      | refine LeO.bind ?_ (fun _ => ?_)
theorem copyholdref01_Long.mono : ∀ a0 k, LeO (copyholdref01_Long.f k a0) (copyholdref01_Long.f (k + 1) a0) := by
  intro a0 k
  have ih0 := copyholdref01_Long.mono_l k
  unfold copyholdref01_Long.f
  repeat' first
      | (with_reducible exact ih0 _ _ _)
      | (with_reducible exact LeO.refl _)
      | (with_reducible exact LeO.none _)
      | (with_reducible refine LeO.ite ?_ ?_)
      | (with_reducible refine LeO.bind ?_ (fun _ => ?_))
      | exact ih0 _ _ _
      | exact LeO.none _
      | refine LeO.ite ?_ ?_
      | refine LeO.bind ?_ (fun _ => ?_)
set_option maxHeartbeats 8000000 in
set_option maxRecDepth 100000 in
theorem copyholdref01_Long.calls (k : Nat) (A0 : Option Addr) (c0 : Nat) (l0 : List ByteArray) (r : Int) (w : World) (hr0 : Kd.C Kd.string w A0 l0.length l0) (hc0 : l0.length ≤ c0) (h : copyholdref01_Long.f k l0 = some r) :
    Calls Try.prog 17 #[.slice A0 l0.length c0] w fun e w' => e = .returned (.int .i64 r) ∧ Drawn0 w w' := by
  have HR0 := Aside0.mk hr0
  have HC0 := Aside0.mk hc0
  clear hr0 hc0
  have H : (copyholdref01_Long.l0 k l0 (l0.length : Int) 0) = some r := h
  clear h
  have H' := Aside0.mk H
  clear H
  go_enter Try.func17, Try.ntmps17
  go_wp2
  go_loopg [3, 4] k (fun kq v3 v4 w' => ∃ (x3_1 : Int) (x4_1 : Int), v3 = .int .i64 x3_1 ∧ v4 = .int .i64 x4_1 ∧ Aside0 (copyholdref01_Long.l0 kq l0 x3_1 x4_1 = some r) ∧ Aside0 (kq ≤ k) ∧ Drawn0 w w')
  case atStart => exact ⟨((l0.length : Int)), (0), (by first | rfl | (simp; done) | (simp [*]; done)), (by first | rfl | (simp; done) | (simp [*]; done)), H', ⟨Nat.le_refl _⟩, by repeat (first | exact Drawn0.refl _ | apply Drawn0.step)⟩
  case round =>
    clear H'
    try clear c1
    obtain ⟨x3_1, x4_1, rfl, rfl, HA, HK1, ⟨m1, rfl⟩⟩ := hrel
    cases gk with
    | zero => exact absurd HA.out (by simp [copyholdref01_Long.l0])
    | succ k1 =>
      have H := HA.out
      clear HA
      simp only [copyholdref01_Long.l0] at H
      by_cases c2 : x4_1 < (l0.length : Int)
      · rw [if_pos c2] at H
        have c2b0 : decide (x4_1 < (l0.length : Int)) = true := decide_eq_true c2
        clear c2
        by_cases c3 : 0 ≤ x4_1
        · rw [if_pos c3] at H
          have c3b0 : decide (0 ≤ x4_1) = true := decide_eq_true c3
          clear c3
          have H' := Aside0.mk H
          clear H
          have p206 : 0 ≤ (x4_1 : Int) := of_decide_eq_true (by first | (with_reducible assumption) | assumption)
          have q206 : x4_1 < (l0.length : Int) := of_decide_eq_true (by first | (with_reducible assumption) | assumption)
          obtain ⟨ad206, e206, hx206_0⟩ := Kd.at_string HR0.out x4_1 p206 q206
          cases e206
          replace p206 := eq_true p206
          replace q206 := eq_true q206
          go_wp2
          go_roundg k1
          case measure => have := HK1.out; omega
          case rel => exact ⟨(wrap64 (x3_1 + ((rdOf ByteArray.empty l0 x4_1).size : Int))), (wrap64 (x4_1 + 1)), (by first | rfl | (simp; done) | (simp [*]; done)), (by first | rfl | (simp; done) | (simp [*]; done)), H', ⟨by have := HK1.out; omega⟩, by repeat (first | exact Drawn0.refl _ | apply Drawn0.step)⟩
        · rw [if_neg c3] at H
          exact absurd H (by simp)
      · rw [if_neg c2] at H
        have c2b0 : decide (x4_1 < (l0.length : Int)) = false := decide_eq_false c2
        clear c2
        obtain rfl := Option.some.inj H
        go_wp2
        go_ret
        pxLQ54_

end Go.Proofs.Ytgnmhbkialgeaaa.Q
end
