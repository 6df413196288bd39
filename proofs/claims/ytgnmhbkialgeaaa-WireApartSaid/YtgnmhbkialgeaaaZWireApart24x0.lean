import Derived.Test.YtgnmhbkialgeaaaZWireApart23
import Derived.Shelf.Abstract
import Derived.ScopeJumps
import Derived.Test.YtgnmhbkialgeaaaProg
import Derived.Below
import Derived.Deep.Draws
import Derived.Deep.AppendLies
import Derived.Maps.AppendAt
import Derived.OwnWalk
import Derived.Laws.BytesArg
import Derived.Laws.MakeOwn
import Derived.Laws.OwnMore
import Derived.Deep.OwnRows
import Derived.Tactics
import Derived.Lib.ConvBytes
import Derived.Laws.Slices
import Derived.WalkKit
import Derived.KernelRfl
import Derived.RowKit3
import Derived.Deep.LoopGhost
import Derived.Deep.QuietTactic
import Derived.BigQuiet
import Derived.WideLaws
import Derived.Deep.DeepCutAuto
import Derived.Deep.CutBlock
import Derived.Deep.RegionHeld3
import Derived.Laws.Rows
import Derived.Lib.AppendStr
import Derived.ArgAppend
import Derived.Laws.IdiomCopy
import Derived.OrdersHeld
import Derived.Laws.BitsLemmas
import Derived.RowKit
import Derived.Test.YtgnmhbkialgeaaaZWireApart0
import Derived.Test.YtgnmhbkialgeaaaZWireApart1
import Derived.Test.YtgnmhbkialgeaaaZWireApart3
import Derived.Test.YtgnmhbkialgeaaaZWireApart4
import Derived.Test.YtgnmhbkialgeaaaZWireApart5
import Derived.Test.YtgnmhbkialgeaaaZWireApart6
import Derived.Test.YtgnmhbkialgeaaaZWireApart7
import Derived.Test.YtgnmhbkialgeaaaZWireApart8
import Derived.Test.YtgnmhbkialgeaaaZWireApart9
import Derived.Test.YtgnmhbkialgeaaaZWireApart10
import Derived.Test.YtgnmhbkialgeaaaZWireApart11
import Derived.Test.YtgnmhbkialgeaaaZWireApart12
import Derived.Test.YtgnmhbkialgeaaaZWireApart13
import Derived.Test.YtgnmhbkialgeaaaZWireApart14
import Derived.Test.YtgnmhbkialgeaaaZWireApart15
import Derived.Test.YtgnmhbkialgeaaaZWireApart16
import Derived.Test.YtgnmhbkialgeaaaZWireApart17
import Derived.Test.YtgnmhbkialgeaaaZWireApart18
import Derived.Test.YtgnmhbkialgeaaaZWireApart19
import Derived.Test.YtgnmhbkialgeaaaZWireApart20
import Derived.Test.YtgnmhbkialgeaaaZWireApart21
import Derived.Test.YtgnmhbkialgeaaaZWireApart22
section
/- Layer 15, walked: opened: the sum, a letter, and what parts there are. (Written by net/wireg.py.) -/
set_option linter.unusedVariables false
set_option linter.unusedSimpArgs false
namespace Go.Proofs.Ytgnmhbkialgeaaa
open Go.RowKit Go.Shelf Go.Proofs.YtgnmhbkialgeaaaW.PrintWords Go.Proofs.YtgnmhbkialgeaaaW.PrintLast Go.Proofs.YtgnmhbkialgeaaaW.PrintMore Math

/-- Why a text is not taken, its sum, its letter, and its parts (F: what they leave) being asked. -/
def openE (letter : UInt8) (F : List UInt8 → List UInt8 × Int) (s : ByteArray) : Int :=
  if (takeS s).2 = 0 then
    match (takeS s).1.data.toList with
    | [] => 3
    | c :: r => if c = letter then (if (F r).2 = 0 then (if (F r).1 = [] then 0 else 3) else (F r).2) else 3
  else (takeS s).2
theorem arr_eq (s : ByteArray) (l : List UInt8) (h : s.data.toList = l) : s = ⟨l.toArray⟩ := by apply inj; exact h
theorem G2.grown {b k : Nat} {w V W : World} (hB : Below w.heap.size w V) (hb : w.heap.size ≤ b) (h : G2 b k V W) : w.grownBy W (some k) :=
  ⟨h.os.trans hB.os, h.tape.trans hB.tape, h.output.trans hB.output, Nat.le_trans hB.size h.size, fun i hi hr => (h.block i (Nat.lt_of_lt_of_le hi hB.size) (by omega) (fun e => hr (by rw [e]))).trans (hB.block i hi)⟩
theorem TB.pute {W : World} {b : Nat} {s : List UInt8} {e e' : Int} (h : TB W b s e) : TB (W.setCell ⟨b, 1, none⟩ (.int .i64 e')) b s e' := blk_put h 1 _ rfl
theorem TB.put0 {W : World} {b : Nat} {s s' : List UInt8} {e : Int} (h : TB W b s e) : TB (W.setCell ⟨b, 0, none⟩ (.string ⟨s'.toArray⟩)) b s' e := blk_put h 0 _ rfl
theorem idx0 (T : ByteArray) (c : UInt8) (r : List UInt8) (hT : T.data.toList = c :: r) (W : World) : (Instr.index 9 (.string T) (.int .i64 0)).run Try.prog W = .ok (.int .u8 (c.toNat : Int)) W := by
  have hs : 0 < T.size := by rw [sz, hT]; simp
  have hb := bt_at_ T 0 (by rw [hT]; simp)
  have hb2 : (T[0]'hs).toNat = c.toNat := by
    unfold bt at hb
    rw [dif_pos (by simpa using hs)] at hb
    simp only [hT, List.getElem_cons_zero] at hb
    exact Int.ofNat_inj.1 hb
  rw [run_index_string W 9 T .i64 0 Try.underlying9]
  simp [hs, hb2]
/-- A frame of 85 slots, written out. -/
theorem frame85 (l : List Value) (h : l.length = 85) : ∃ u : Nat → Value, l = [u 0, u 1, u 2, u 3, u 4, u 5, u 6, u 7, u 8, u 9, u 10, u 11, u 12, u 13, u 14, u 15, u 16, u 17, u 18, u 19, u 20, u 21, u 22, u 23, u 24, u 25, u 26, u 27, u 28, u 29, u 30, u 31, u 32, u 33, u 34, u 35, u 36, u 37, u 38, u 39, u 40, u 41, u 42, u 43, u 44, u 45, u 46, u 47, u 48, u 49, u 50, u 51, u 52, u 53, u 54, u 55, u 56, u 57, u 58, u 59, u 60, u 61, u 62, u 63, u 64, u 65, u 66, u 67, u 68, u 69, u 70, u 71, u 72, u 73, u 74, u 75, u 76, u 77, u 78, u 79, u 80, u 81, u 82, u 83, u 84] ∧ ∀ i, u i = l.getD i undef := by
  refine ⟨fun i => l.getD i undef, ?_, fun _ => rfl⟩
  show l = (List.range 85).map (fun i => l.getD i undef)
  apply List.ext_getElem?
  intro i
  rw [List.getElem?_map]
  by_cases hi : i < 85
  · rw [List.getElem?_range hi, List.getElem?_eq_getElem (show i < l.length by omega)]
    simp only [Option.map_some, List.getD_eq_getElem?_getD]
    rw [List.getElem?_eq_getElem (show i < l.length by omega)]; rfl
  · rw [List.getElem?_eq_none (by omega), List.getElem?_eq_none (by rw [List.length_range]; omega)]; rfl
/-- The box that opened lays. -/
theorem tb_new (w : World) : TB (w.alloc (.cells #[.string ⟨#[]⟩, .int .i64 0] 68)) w.heap.size [] 0 := heap_alloc_new _ _
set_option maxHeartbeats 4000000 in
set_option maxRecDepth 1000000 in
theorem opened_stay (s : ByteArray) (hs : s.size ≤ 8000000000000) (letter : UInt8) (g : FuncId) (lb : Array Value) (w : World) (t : List UInt8) (e0 ee : Int) (ht : takeS s = (⟨t.toArray⟩, e0))
    (hcase : (e0 ≠ 0 ∧ ee = e0) ∨ (e0 = 0 ∧ ee = 3 ∧ (t = [] ∨ ∃ c r, t = c :: r ∧ c ≠ letter))) :
    Calls Try.prog 40 #[.string s, .int .u8 letter.toNat, .func (.func g) #[] lb] w fun x w' => x = .returned (.int .i64 ee) ∧ Below w.heap.size w w' := by
  have HS := Lib.hid (fun V => U.seal_Take.calls s ⟨t.toArray⟩ e0 V (by rw [seal_Take_eq s (by omega), ht]))
  have HT0 := Lib.hid (tb_new w)
  have HB0 := Lib.hid ((Below.refl w.heap.size w).alloc (Nat.le_refl _) (.cells #[.string ⟨#[]⟩, .int .i64 0] 68))
  have HZ0 : Hid (w.heap.size < (w.alloc (.cells #[.string ⟨#[]⟩, .int .i64 0] 68)).heap.size) := Lib.hid (by rw [World.size_alloc]; omega)
  have HCS := Lib.hid hcase
  clear hcase ht
  go_enter Try.func40, Try.ntmps40
  go_wp2_with fail
  refine wp_scope_jumps 0 (fun a' w' => a'.tmps.size = 85 ∧ a'.tmps.getD 7 undef = .pointer (some ⟨w.heap.size, 0, none⟩) ∧ a'.defers = [] ∧ ∃ (st : List UInt8) (e' : Int), Hid (TB w' w.heap.size st e') ∧ Hid (e' = ee ∧ Below w.heap.size w w')) (fun _ _ => 0) rfl ?_ ?_
  · go_wp2_with fail
    refine (HS.out _).mono ?_
    rintro x w1 ⟨rfl, hb⟩
    have HT1 := Lib.hid (HT0.out.below hb)
    have HB1 := Lib.hid (HB0.out.trans (hb.mono (by have := HZ0.out; omega)))
    have c0 := HT1.out.c0; have c1 := HT1.out.c1; have f0 := HT1.out.f 0; have f1 := HT1.out.f 1
    have HT2 := Lib.hid (HT1.out.put (s' := t) (e' := e0))
    have HB2 := Lib.hid (bset (j := 1) (u := .int .i64 e0) (Nat.le_refl _) (bset (j := 0) (u := .string ⟨t.toArray⟩) (Nat.le_refl _) HB1.out))
    clear hb
    rcases HCS.out with ⟨he, hee⟩ | ⟨he, hee, hc⟩
    · have heb : (e0 != 0) = true := by simpa using he
      have HEE := Lib.hid hee
      clear he hee HCS
      go_wp2_with fail
      go_step3
      exact ⟨rfl, rfl, rfl, rfl, _, _, HT2, Lib.hid ⟨HEE.out.symm, HB2.out⟩⟩
    · obtain rfl := he
      have HEE := Lib.hid hee
      rcases hc with rfl | ⟨c, r, rfl, hc⟩
      · have hT0 : ((⟨#[]⟩ : ByteArray).toList == []) = true := by decide +kernel
        have HT3 := Lib.hid (HT2.out.pute (e' := 3))
        have HB3 := Lib.hid (bset (j := 1) (u := .int .i64 3) (Nat.le_refl _) HB2.out)
        clear hee HCS
        go_wp2_with fail
        go_step3
        exact ⟨rfl, rfl, rfl, rfl, _, _, HT3, Lib.hid ⟨HEE.out.symm, HB3.out⟩⟩
      · have HT3 := Lib.hid (HT2.out.pute (e' := 3))
        have HB3 := Lib.hid (bset (j := 1) (u := .int .i64 3) (Nat.le_refl _) HB2.out)
        have hix := fun W => idx0 ⟨(c :: r).toArray⟩ c r rfl W
        have hne : ¬ ((⟨(c :: r).toArray⟩ : ByteArray).toList = []) := by rw [tl]; exact List.cons_ne_nil _ _
        have hnb : ((⟨(c :: r).toArray⟩ : ByteArray).toList == []) = false := by rw [tl]; rfl
        have hcl : ((c.toNat : Int) != (letter.toNat : Int)) = true := by
          simp only [bne_iff_ne, ne_eq]; intro h; exact hc (UInt8.toNat_inj.1 (by omega))
        clear hee HCS
        go_wp2_with fail
        go_step3
        exact ⟨rfl, rfl, rfl, rfl, _, _, HT3, Lib.hid ⟨HEE.out.symm, HB3.out⟩⟩
  · rintro ⟨⟨l⟩, d⟩ W ⟨h1, h2, h3, st, e', HT, HE⟩
    have c0 := HT.out.c0; have c1 := HT.out.c1
    obtain ⟨u, hl, hu⟩ := frame85 l (by simpa using h1)
    have h7 : u 7 = .pointer (some ⟨w.heap.size, 0, none⟩) := by rw [hu]; simpa using h2
    obtain rfl : d = [] := h3
    clear h1 h2 hu
    subst hl
    go_wp2_with fail
    simp only [Exit.jump]
    go_ret
    rw [HE.out.1]
    exact ⟨rfl, HE.out.2⟩
theorem sl1 (c : UInt8) (r : List UInt8) (W : World) : (Instr.slice 9 (.string ⟨(c :: r).toArray⟩) (some (.int .i64 1)) none none).run Try.prog W = .ok (.string ⟨r.toArray⟩) W := by
  rw [run_slice_string_l W 9 _ Try.underlying9 .i64 1 (by decide) (by rw [mk_size, List.length_cons]; omega)]
  congr 2
  apply inj
  rw [ext_, List.take_of_length_le (by rw [mk_size]; exact Nat.le_refl _)]; rfl
set_option maxHeartbeats 4000000 in
set_option maxRecDepth 1000000 in
theorem opened_parts (s : ByteArray) (hs : s.size ≤ 8000000000000) (letter : UInt8) (g : FuncId) (lb : Array Value) (k : Nat) (w : World) (r : List UInt8) (ht : takeS s = (⟨(letter :: r).toArray⟩, 0)) (F : List UInt8 × Int) (Q : Nat → World → Prop)
    (eg : ∀ args W, (callFunc g args).run Try.prog W = .ok (.enter g args) W)
    (HP : ∀ V b, Below w.heap.size w V → w.heap.size ≤ b → TB V b r 0 → Calls Try.prog g (#[.pointer (some ⟨b, 0, none⟩)] ++ lb) V fun x V' => x = .returned (.tuple #[]) ∧ TB V' b F.1 F.2 ∧ Q b V' ∧ G2 b k V V')
    (hQ : ∀ b V j u, Q b V → Q b (V.setCell ⟨b, j, none⟩ u)) :
    Calls Try.prog 40 #[.string s, .int .u8 letter.toNat, .func (.func g) #[] lb] w fun x w' => x = .returned (.int .i64 (if F.2 = 0 then (if F.1 = [] then 0 else 3) else F.2)) ∧ Q w.heap.size w' ∧ w.grownBy w' (some k) := by
  have HS := Lib.hid (fun V => U.seal_Take.calls s ⟨(letter :: r).toArray⟩ 0 V (by rw [seal_Take_eq s (by omega), ht]))
  have HT0 := Lib.hid (tb_new w)
  have HB0 := Lib.hid ((Below.refl w.heap.size w).alloc (Nat.le_refl _) (.cells #[.string ⟨#[]⟩, .int .i64 0] 68))
  have HZ0 : Hid (w.heap.size < (w.alloc (.cells #[.string ⟨#[]⟩, .int .i64 0] 68)).heap.size) := Lib.hid (by rw [World.size_alloc]; omega)
  have HPP := Lib.hid HP; have HQ := Lib.hid hQ
  clear HP hQ ht
  go_enter Try.func40, Try.ntmps40
  go_wp2_with fail
  refine wp_scope_jumps 0 (fun _ _ => False) (fun _ _ => 0) rfl ?_ (fun _ _ h => h.elim)
  go_wp2_with fail
  refine (HS.out _).mono ?_
  rintro x w1 ⟨rfl, hb⟩
  have HT1 := Lib.hid (HT0.out.below hb)
  have HB1 := Lib.hid (HB0.out.trans (hb.mono (by have := HZ0.out; omega)))
  have c0 := HT1.out.c0; have c1 := HT1.out.c1; have f0 := HT1.out.f 0; have f1 := HT1.out.f 1
  have HT3 := Lib.hid (TB.put0 (s' := r) (HT1.out.put (s' := letter :: r) (e' := 0)))
  have HB3 := Lib.hid (bset (j := 0) (u := .string ⟨r.toArray⟩) (Nat.le_refl _) (bset (j := 1) (u := .int .i64 0) (Nat.le_refl _) (bset (j := 0) (u := .string ⟨(letter :: r).toArray⟩) (Nat.le_refl _) HB1.out)))
  have HC := Lib.hid (HPP.out _ w.heap.size HB3.out (Nat.le_refl _) HT3.out)
  have hix := fun W => idx0 ⟨(letter :: r).toArray⟩ letter r rfl W
  have hsl := fun W => sl1 letter r W
  have hne : ¬ ((⟨(letter :: r).toArray⟩ : ByteArray).toList = []) := by rw [tl]; exact List.cons_ne_nil _ _
  have hnb : ((⟨(letter :: r).toArray⟩ : ByteArray).toList == []) = false := by rw [tl]; rfl
  have hcl : ((letter.toNat : Int) != (letter.toNat : Int)) = false := by simp
  clear hb
  go_wp2_with fail
  refine HC.out.mono ?_
  rintro x w4 ⟨rfl, ht4, hq4, hg4⟩
  obtain ⟨rest, e⟩ := F
  dsimp only at ht4 ⊢
  have HT4 := Lib.hid ht4; have HQ4 := Lib.hid hq4; have HG4 := Lib.hid (hg4.grown HB3.out (Nat.le_refl _))
  have HQ5 := Lib.hid (HQ.out _ _ 1 (.int .i64 3) hq4)
  have HG5 := Lib.hid (gn (k := w.heap.size) (j := 1) (u := .int .i64 3) (Nat.le_refl _) HG4.out)
  have c0 := HT4.out.c0; have c1 := HT4.out.c1; have f0 := HT4.out.f 0; have f1 := HT4.out.f 1
  clear ht4 hq4 hg4 hix hsl hne hnb hcl
  by_cases he : e = 0
  · subst he
    by_cases hr : rest = []
    · subst hr
      have hxx : ((⟨([] : List UInt8).toArray⟩ : ByteArray).toList != []) = false := by rw [tl]; rfl
      go_wp2_with fail
      go_step3
      go_wp2_with fail
      simp only [Exit.jump]
      go_ret
      exact ⟨rfl, HQ4.out, HG4.out⟩
    · have hxx : ((⟨rest.toArray⟩ : ByteArray).toList != []) = true := by rw [tl]; simpa using hr
      have hx2 : ¬ ((⟨rest.toArray⟩ : ByteArray).toList = []) := by rw [tl]; exact hr
      have hx3 : rest.isEmpty = false := by simpa using hr
      have HRR := Lib.hid hr
      go_wp2_with fail
      go_step3
      go_wp2_with fail
      simp only [Exit.jump]
      go_ret
      rw [if_pos rfl, if_neg HRR.out]
      exact ⟨rfl, HQ5.out, HG5.out⟩
  · have heb : (e == 0) = false := by simpa using he
    have HEE := Lib.hid he
    clear he
    go_wp2_with fail
    go_step3
    go_wp2_with fail
    simp only [Exit.jump]
    go_ret
    rw [if_neg HEE.out]
    exact ⟨rfl, HQ4.out, HG4.out⟩
end Go.Proofs.Ytgnmhbkialgeaaa
end

section
/- Layer 15, walked: TakeMsg. -/
set_option linter.unusedVariables false
set_option linter.unusedSimpArgs false
namespace Go.Proofs.Ytgnmhbkialgeaaa
open Go.RowKit Go.Shelf Go.Proofs.YtgnmhbkialgeaaaW.PrintWords Go.Proofs.YtgnmhbkialgeaaaW.PrintLast Go.Proofs.YtgnmhbkialgeaaaW.PrintMore Math

/-- Why a message is not taken; and its parts. -/
def tmE (s : ByteArray) : Int := openE 109 (fun r => (msgR r 0).2) s
def tmP (s : ByteArray) : List Int × List Int × List UInt8 × List UInt8 × List UInt8 := if tmE s = 0 then (msgR (takeS s).1.data.toList.tail 0).1 else ([], [], [], [], [])
theorem takeS_size (s : ByteArray) : (takeS s).1.size ≤ s.size := by
  unfold takeS
  split
  · exact Nat.zero_le _
  · split
    · exact ext0_le _ _
    · exact Nat.zero_le _
theorem openE_stay {letter : UInt8} {F : List UInt8 → List UInt8 × Int} {s : ByteArray} {t : List UInt8} {e0 : Int} (ht : takeS s = (⟨t.toArray⟩, e0)) (h : e0 ≠ 0 ∨ (e0 = 0 ∧ (t = [] ∨ ∃ c r, t = c :: r ∧ c ≠ letter))) :
    openE letter F s ≠ 0 ∧ ((e0 ≠ 0 ∧ openE letter F s = e0) ∨ (e0 = 0 ∧ openE letter F s = 3 ∧ (t = [] ∨ ∃ c r, t = c :: r ∧ c ≠ letter))) := by
  unfold openE
  rw [ht]
  dsimp only
  rcases h with h | ⟨h, hc⟩
  · rw [if_neg h]; exact ⟨h, .inl ⟨h, rfl⟩⟩
  · rw [if_pos h]
    rcases hc with rfl | ⟨c, r, rfl, hc⟩
    · exact ⟨(by decide : (3 : Int) ≠ 0), .inr ⟨h, rfl, .inl rfl⟩⟩
    · dsimp only
      rw [if_neg hc]
      exact ⟨by decide, .inr ⟨h, rfl, .inr ⟨c, r, rfl, hc⟩⟩⟩
theorem openE_parts {letter : UInt8} {F : List UInt8 → List UInt8 × Int} {s : ByteArray} {r : List UInt8} (ht : takeS s = (⟨(letter :: r).toArray⟩, 0)) :
    openE letter F s = if (F r).2 = 0 then (if (F r).1 = [] then 0 else 3) else (F r).2 := by
  unfold openE
  rw [ht, if_pos rfl]
  dsimp only
  rw [if_pos rfl]
theorem takeS_cases (s : ByteArray) (letter : UInt8) : (∃ t e0, takeS s = (⟨t.toArray⟩, e0) ∧ (e0 ≠ 0 ∨ (e0 = 0 ∧ (t = [] ∨ ∃ c r, t = c :: r ∧ c ≠ letter)))) ∨ ∃ r, takeS s = (⟨(letter :: r).toArray⟩, 0) := by
  obtain ⟨p, e0, h⟩ : ∃ p e0, takeS s = (p, e0) := ⟨_, _, rfl⟩
  rw [h]
  by_cases he : e0 = 0
  · subst he
    cases ht : p.data.toList with
    | nil => exact .inl ⟨[], 0, by rw [← arr_eq p [] ht], .inr ⟨rfl, .inl rfl⟩⟩
    | cons c r =>
      by_cases hc : c = letter
      · subst hc; exact .inr ⟨r, by rw [← arr_eq p _ ht]⟩
      · exact .inl ⟨c :: r, 0, by rw [← arr_eq p _ ht], .inr ⟨rfl, .inr ⟨c, r, rfl, hc⟩⟩⟩
  · exact .inl ⟨p.data.toList, e0, by rw [← arr_eq p _ rfl], .inl he⟩
theorem opened_msg (s : ByteArray) (hs : s.size ≤ 8000000000000) (k : Nat) (w : World) (hm : CB w k (msgA ([], [], [], [], [])) 32) :
    Calls Try.prog 40 #[.string s, .int .u8 109, .func (.func 41) #[] #[.pointer (some ⟨k, 0, none⟩)]] w fun x w' => x = .returned (.int .i64 (tmE s)) ∧ (tmE s = 0 → CB w' k (msgA (tmP s)) 32) ∧ w.grownBy w' (some k) := by
  have hk := blk_lt hm
  rcases takeS_cases s 109 with ⟨t, e0, ht, hc⟩ | ⟨r, ht⟩
  · obtain ⟨h1, h2⟩ := openE_stay (F := fun r => (msgR r 0).2) ht hc
    refine (opened_stay s hs 109 41 #[.pointer (some ⟨k, 0, none⟩)] w t e0 _ ht h2).mono ?_
    rintro x w' ⟨rfl, hb⟩
    exact ⟨rfl, fun h => absurd h h1, grown_of_below hb _⟩
  · have hsz : r.length ≤ 8000000000000 := by
      have h1 := takeS_size s
      rw [ht] at h1
      have h2 : (⟨(109 :: r).toArray⟩ : ByteArray).size = r.length + 1 := by rw [mk_size]; rfl
      have h3 : (⟨(109 :: r).toArray⟩ : ByteArray).size ≤ s.size := h1
      omega
    have hE := openE_parts (F := fun r => (msgR r 0).2) ht
    refine (opened_parts s hs 109 41 #[.pointer (some ⟨k, 0, none⟩)] k w r ht ((msgR r 0).2) (fun b V => k ≠ b ∧ CB V k (msgA (msgR r 0).1) 32) (enters_of Try.func41 (by kernel_rfl) rfl) ?_ ?_).mono ?_
    · intro V b hB hbl hT
      refine (msg1_step b k r V hT ((hB.block k hk).trans hm) (by omega) hsz).mono ?_
      rintro x V' ⟨rfl, h1, h2, h3⟩
      exact ⟨rfl, h1, ⟨by omega, h2⟩, h3⟩
    · rintro b V j u ⟨h1, h2⟩
      exact ⟨h1, h2.far h1 _ _⟩
    · rintro x w' ⟨rfl, ⟨_, h2⟩, h3⟩
      refine ⟨?_, fun h0 => ?_, h3⟩
      · unfold tmE; rw [hE]
      · unfold tmP
        rw [if_pos h0, ht]
        exact h2
end Go.Proofs.Ytgnmhbkialgeaaa
end

section
/- Layer 15, walked: TakeMsg. -/
set_option linter.unusedVariables false
set_option linter.unusedSimpArgs false
namespace Go.Proofs.Ytgnmhbkialgeaaa
open Go.RowKit Go.Shelf Go.Proofs.YtgnmhbkialgeaaaW.PrintWords Go.Proofs.YtgnmhbkialgeaaaW.PrintLast Go.Proofs.YtgnmhbkialgeaaaW.PrintMore Math

theorem info14 : (Try.prog.info? 32).map (·.size) = some 14 := by kernel_rfl
/-- Fourteen cells. -/
def m14 (x1 x2 x3 x4 x5 x6 n0 n1 n2 n3 n4 : Int) (y1 y2 y3 : ByteArray) : Array Value := #[.int .i64 x1, .int .i64 x2, .int .i64 x3, .int .i64 x4, .int .i64 x5, .int .i64 x6, .int .i64 n0, .int .i64 n1, .int .i64 n2, .int .i64 n3, .int .i64 n4, .string y1, .string y2, .string y3]
theorem m14_of (p : List Int × List Int × List UInt8 × List UInt8 × List UInt8) : ∃ x1 x2 x3 x4 x5 x6 n0 n1 n2 n3 n4 y1 y2 y3, msgA p = m14 x1 x2 x3 x4 x5 x6 n0 n1 n2 n3 n4 y1 y2 y3 := ⟨_, _, _, _, _, _, _, _, _, _, _, _, _, _, rfl⟩
theorem m14_one (x1 x2 x3 x4 x5 x6 n0 n1 n2 n3 n4 : Int) (y1 y2 y3 : ByteArray) : (m14 x1 x2 x3 x4 x5 x6 n0 n1 n2 n3 n4 y1 y2 y3).all (·.oneCell') = true := by simp [m14, Value.oneCell']
theorem below_row {B g : Nat} {w W : World} {cs : Array Value} (hg : B ≤ g) (h : Below B w W) : Below B w (W.setRow g cs) := below_setRow h hg cs
set_option maxHeartbeats 4000000 in
set_option maxRecDepth 1000000 in
theorem takeMsg_step (s : ByteArray) (hs : s.size ≤ 8000000000000) (w : World) :
    Calls Try.prog 23 #[.string s] w fun x w' => x = .returned (.tuple #[.agg (msgA (tmP s)), .int .i64 (tmE s)]) ∧ Below w.heap.size w w' := by
  obtain ⟨W2, hW2⟩ : ∃ W2, W2 = (w.alloc (.cells (msgA ([], [], [], [], [])) 32)).alloc (.cells (msgA ([], [], [], [], [])) 32) := ⟨_, rfl⟩
  have z2 : W2.heap.size = w.heap.size + 2 := by rw [hW2, World.size_alloc, World.size_alloc]
  have r2 : CB W2 w.heap.size (msgA ([], [], [], [], [])) 32 := by rw [hW2]; exact (heap_alloc_old _ _ (by rw [World.size_alloc]; omega)).trans (heap_alloc_new _ _)
  have k2 : CB W2 (w.heap.size + 1) (msgA ([], [], [], [], [])) 32 := by
    have h := heap_alloc_new (w.alloc (.cells (msgA ([], [], [], [], [])) 32)) (.cells (msgA ([], [], [], [], [])) 32)
    rw [World.size_alloc] at h
    rw [hW2]; exact h
  have b2 : Below w.heap.size w W2 := by rw [hW2]; exact ((Below.refl _ w).alloc (Nat.le_refl _) _).alloc (by rw [World.size_alloc]; omega) _
  have HO := Lib.hid (opened_msg s hs (w.heap.size + 1) W2 k2)
  have R2 := Lib.hid r2; have B2 := Lib.hid b2; have Z2 := Lib.hid z2
  clear r2 k2 z2 b2
  subst hW2
  have HZP : Hid (tmE s ≠ 0 → tmP s = ([], [], [], [], [])) := Lib.hid (fun h => if_neg h)
  generalize tmE s = e at *
  generalize tmP s = p at *
  obtain ⟨x1, x2, x3, x4, x5, x6, n0, n1, n2, n3, n4, y1, y2, y3, hp⟩ := m14_of p
  rw [hp] at HO
  have HP := Lib.hid hp
  have HI := Lib.hid info14
  have HO1 := Lib.hid (m14_one x1 x2 x3 x4 x5 x6 n0 n1 n2 n3 n4 y1 y2 y3)
  have HO0 := Lib.hid (m14_one 0 0 0 0 0 0 0 0 0 0 0 ⟨#[]⟩ ⟨#[]⟩ ⟨#[]⟩)
  clear hp
  go_enter Try.func23, Try.ntmps23
  go_wp2_with fail
  refine HO.out.mono ?_
  rintro q w3 ⟨rfl, hm, hg⟩
  have hz := Z2.out
  have HR3 := Lib.hid (R2.out.grown hg (by omega))
  have HB3 := Lib.hid (B2.out.grown hg (by omega) (fun k hk => by have := Option.some.inj hk; omega))
  clear hg hz
  by_cases he : e = 0
  · have HM3 := Lib.hid (hm he)
    have HE := Lib.hid he
    subst he
    have HR4 : Hid (CB (w3.setRow w.heap.size (m14 x1 x2 x3 x4 x5 x6 n0 n1 n2 n3 n4 y1 y2 y3)) w.heap.size (m14 x1 x2 x3 x4 x5 x6 n0 n1 n2 n3 n4 y1 y2 y3) 32) := Lib.hid (setRow_heap _ _ _ _ _ _ HR3.out)
    have HB4 := Lib.hid (below_row (cs := m14 x1 x2 x3 x4 x5 x6 n0 n1 n2 n3 n4 y1 y2 y3) (Nat.le_refl _) HB3.out)
    clear hm
    go_wp2_with (first
      | (refine wpList_load_row rfl 32 (.tmp 4) rfl (w.heap.size + 1) rfl 32 (m14 x1 x2 x3 x4 x5 x6 n0 n1 n2 n3 n4 y1 y2 y3) (0, 0) _ HM3.out Try.underlying32 rfl HI.out ?_)
      | (refine wpList_store_row rfl 32 (.tmp 2) (.tmp 13) rfl w.heap.size (m14 x1 x2 x3 x4 x5 x6 n0 n1 n2 n3 n4 y1 y2 y3) rfl rfl 32 _ HR3.out HI.out rfl HO1.out ?_))
    generalize w3.setRow w.heap.size (m14 x1 x2 x3 x4 x5 x6 n0 n1 n2 n3 n4 y1 y2 y3) = w9 at *
    have q0 := blk_cell HR4.out 0; have q1 := blk_cell HR4.out 1; have q2 := blk_cell HR4.out 2; have q3 := blk_cell HR4.out 3; have q4 := blk_cell HR4.out 4; have q5 := blk_cell HR4.out 5; have q6 := blk_cell HR4.out 6; have q7 := blk_cell HR4.out 7; have q8 := blk_cell HR4.out 8; have q9 := blk_cell HR4.out 9; have q10 := blk_cell HR4.out 10; have q11 := blk_cell HR4.out 11; have q12 := blk_cell HR4.out 12; have q13 := blk_cell HR4.out 13
    simp only [m14, List.getElem?_toArray, List.getElem?_cons_zero, List.getElem?_cons_succ] at q0 q1 q2 q3 q4 q5 q6 q7 q8 q9 q10 q11 q12 q13
    refine bodyPost_ret (v := .tuple #[.agg #[.int .i64 x1, .int .i64 x2, .int .i64 x3, .int .i64 x4, .int .i64 x5, .int .i64 x6, .int .i64 n0, .int .i64 n1, .int .i64 n2, .int .i64 n3, .int .i64 n4, .string y1, .string y2, .string y3], .int .i64 0]) (by simp [results, Try.results23, go_sem, q0, q1, q2, q3, q4, q5, q6, q7, q8, q9, q10, q11, q12, q13]) rfl ⟨?_, HB4.out⟩
    rw [HP.out]; rfl
  · have heb : (e != 0) = true := by simpa using he
    have HPZ := Lib.hid (HZP.out he)
    have HR4 : Hid (CB (w3.setRow w.heap.size (m14 0 0 0 0 0 0 0 0 0 0 0 ⟨#[]⟩ ⟨#[]⟩ ⟨#[]⟩)) w.heap.size (m14 0 0 0 0 0 0 0 0 0 0 0 ⟨#[]⟩ ⟨#[]⟩ ⟨#[]⟩) 32) := Lib.hid (setRow_heap _ _ _ _ _ _ HR3.out)
    have HB4 := Lib.hid (below_row (cs := m14 0 0 0 0 0 0 0 0 0 0 0 ⟨#[]⟩ ⟨#[]⟩ ⟨#[]⟩) (Nat.le_refl _) HB3.out)
    clear hm he
    go_wp2_with (refine wpList_store_row rfl 32 (.tmp 2) (.tmp 11) rfl w.heap.size (m14 0 0 0 0 0 0 0 0 0 0 0 ⟨#[]⟩ ⟨#[]⟩ ⟨#[]⟩) rfl rfl 32 _ HR3.out HI.out rfl HO0.out ?_)
    generalize w3.setRow w.heap.size (m14 0 0 0 0 0 0 0 0 0 0 0 ⟨#[]⟩ ⟨#[]⟩ ⟨#[]⟩) = w9 at *
    have q0 := blk_cell HR4.out 0; have q1 := blk_cell HR4.out 1; have q2 := blk_cell HR4.out 2; have q3 := blk_cell HR4.out 3; have q4 := blk_cell HR4.out 4; have q5 := blk_cell HR4.out 5; have q6 := blk_cell HR4.out 6; have q7 := blk_cell HR4.out 7; have q8 := blk_cell HR4.out 8; have q9 := blk_cell HR4.out 9; have q10 := blk_cell HR4.out 10; have q11 := blk_cell HR4.out 11; have q12 := blk_cell HR4.out 12; have q13 := blk_cell HR4.out 13
    simp only [m14, List.getElem?_toArray, List.getElem?_cons_zero, List.getElem?_cons_succ] at q0 q1 q2 q3 q4 q5 q6 q7 q8 q9 q10 q11 q12 q13
    refine bodyPost_ret (v := .tuple #[.agg #[.int .i64 0, .int .i64 0, .int .i64 0, .int .i64 0, .int .i64 0, .int .i64 0, .int .i64 0, .int .i64 0, .int .i64 0, .int .i64 0, .int .i64 0, .string ⟨#[]⟩, .string ⟨#[]⟩, .string ⟨#[]⟩], .int .i64 e]) (by simp [results, Try.results23, go_sem, q0, q1, q2, q3, q4, q5, q6, q7, q8, q9, q10, q11, q12, q13]) rfl ⟨?_, HB4.out⟩
    rw [HPZ.out]; rfl
end Go.Proofs.Ytgnmhbkialgeaaa
end

section
/- Layer 15, walked: TakeRsp. -/
set_option linter.unusedVariables false
set_option linter.unusedSimpArgs false
namespace Go.Proofs.Ytgnmhbkialgeaaa
open Go.RowKit Go.Shelf Go.Proofs.YtgnmhbkialgeaaaW.PrintWords Go.Proofs.YtgnmhbkialgeaaaW.PrintLast Go.Proofs.YtgnmhbkialgeaaaW.PrintMore Math

/-- Why an answer is not taken; and its parts. -/
def trE (s : ByteArray) : Int := openE 114 (fun r => (rspR r 0).2) s
def trP (s : ByteArray) : List Int × List UInt8 × List (List UInt8) := if trE s = 0 then (rspR (takeS s).1.data.toList.tail 0).1 else ([], [], [])
theorem opened_rsp (s : ByteArray) (hs : s.size ≤ 8000000000000) (k : Nat) (w : World) (hm : CB w k (rspA ([], [], []) (.slice none 0 0)) 37) :
    Calls Try.prog 40 #[.string s, .int .u8 114, .func (.func 44) #[] #[.pointer (some ⟨k, 0, none⟩)]] w fun x w' => x = .returned (.int .i64 (trE s)) ∧ (trE s = 0 → ∃ v, CB w' k (rspA (trP s) v) 37 ∧ ∃ B, k < B ∧ Kd.R Kd.string 9 w' B (fun _ => True) v (mks (trP s).2.2)) ∧ w.grownBy w' (some k) := by
  have hk := blk_lt hm
  rcases takeS_cases s 114 with ⟨t, e0, ht, hc⟩ | ⟨r, ht⟩
  · obtain ⟨h1, h2⟩ := openE_stay (F := fun r => (rspR r 0).2) ht hc
    refine (opened_stay s hs 114 44 #[.pointer (some ⟨k, 0, none⟩)] w t e0 _ ht h2).mono ?_
    rintro x w' ⟨rfl, hb⟩
    exact ⟨rfl, fun h => absurd h h1, grown_of_below hb _⟩
  · have hsz : r.length ≤ 8000000000000 := by
      have h1 := takeS_size s
      rw [ht] at h1
      have h2 : (⟨(114 :: r).toArray⟩ : ByteArray).size = r.length + 1 := by rw [mk_size]; rfl
      have h3 : (⟨(114 :: r).toArray⟩ : ByteArray).size ≤ s.size := h1
      omega
    have hE := openE_parts (F := fun r => (rspR r 0).2) ht
    refine (opened_parts s hs 114 44 #[.pointer (some ⟨k, 0, none⟩)] k w r ht ((rspR r 0).2) (fun b V => k ≠ b ∧ ∃ v, CB V k (rspA (rspR r 0).1 v) 37 ∧ Names V b k v (mks (rspR r 0).1.2.2)) (enters_of Try.func44 (by kernel_rfl) rfl) ?_ ?_).mono ?_
    · intro V b hB hbl hT
      refine (rsp1_step b k r V hT ((hB.block k hk).trans hm) (by omega) hsz).mono ?_
      rintro x V' ⟨rfl, h1, h2, h3⟩
      exact ⟨rfl, h1, ⟨by omega, h2⟩, h3⟩
    · rintro b V j u ⟨h1, v, h2, h3⟩
      exact ⟨h1, v, h2.far h1 _ _, h3.set b j (.inl rfl) u⟩
    · rintro x w' ⟨rfl, ⟨_, v, h2, B, _, h4, h5⟩, h3⟩
      refine ⟨?_, fun h0 => ?_, h3⟩
      · unfold trE; rw [hE]
      · unfold trP
        rw [if_pos h0, ht]
        exact ⟨v, h2, B, h4, h5⟩
theorem info11 : (Try.prog.info? 37).map (·.size) = some 11 := by kernel_rfl
/-- Eleven cells. -/
def r11 (x1 x2 x3 x4 x5 x6 x7 x8 x9 : Int) (y : ByteArray) (A : Option Addr) (n c : Nat) : Array Value := #[.int .i64 x1, .int .i64 x2, .int .i64 x3, .int .i64 x4, .int .i64 x5, .int .i64 x6, .int .i64 x7, .int .i64 x8, .int .i64 x9, .string y, .slice A n c]
theorem r11_of (p : List Int × List UInt8 × List (List UInt8)) : ∃ x1 x2 x3 x4 x5 x6 x7 x8 x9 y, ∀ A n c, rspA p (.slice A n c) = r11 x1 x2 x3 x4 x5 x6 x7 x8 x9 y A n c := ⟨_, _, _, _, _, _, _, _, _, _, fun _ _ _ => rfl⟩
theorem r11_one (x1 x2 x3 x4 x5 x6 x7 x8 x9 : Int) (y : ByteArray) (A : Option Addr) (n c : Nat) : (r11 x1 x2 x3 x4 x5 x6 x7 x8 x9 y A n c).all (·.oneCell') = true := by simp [r11, Value.oneCell']
theorem R_row {W : World} {B g : Nat} {v : Value} {l : List ByteArray} {cs : Array Value} (h : Kd.R Kd.string 9 W B (fun _ => True) v l) (hg : g < B) : Kd.R Kd.string 9 (W.setRow g cs) B (fun _ => True) v l :=
  Kd.R_mono (Kd.R_step (Kd.R_bound h) (fun j hj _ => setRow_other W g j cs (by have := hj.2.1; omega))) (fun _ _ => trivial)
set_option maxHeartbeats 4000000 in
set_option maxRecDepth 1000000 in
theorem takeRsp_step (s : ByteArray) (hs : s.size ≤ 8000000000000) (w : World) :
    Calls Try.prog 25 #[.string s] w fun x w' => ∃ v, x = .returned (.tuple #[.agg (rspA (trP s) v), .int .i64 (trE s)]) ∧ Kd.R Kd.string 9 w' w.heap.size (fun _ => True) v (mks (trP s).2.2) ∧ Below w.heap.size w w' := by
  obtain ⟨W2, hW2⟩ : ∃ W2, W2 = (w.alloc (.cells (rspA ([], [], []) (.slice none 0 0)) 37)).alloc (.cells (rspA ([], [], []) (.slice none 0 0)) 37) := ⟨_, rfl⟩
  have z2 : W2.heap.size = w.heap.size + 2 := by rw [hW2, World.size_alloc, World.size_alloc]
  have r2 : CB W2 w.heap.size (rspA ([], [], []) (.slice none 0 0)) 37 := by rw [hW2]; exact (heap_alloc_old _ _ (by rw [World.size_alloc]; omega)).trans (heap_alloc_new _ _)
  have k2 : CB W2 (w.heap.size + 1) (rspA ([], [], []) (.slice none 0 0)) 37 := by
    have h := heap_alloc_new (w.alloc (.cells (rspA ([], [], []) (.slice none 0 0)) 37)) (.cells (rspA ([], [], []) (.slice none 0 0)) 37)
    rw [World.size_alloc] at h
    rw [hW2]; exact h
  have b2 : Below w.heap.size w W2 := by rw [hW2]; exact ((Below.refl _ w).alloc (Nat.le_refl _) _).alloc (by rw [World.size_alloc]; omega) _
  have HO := Lib.hid (opened_rsp s hs (w.heap.size + 1) W2 k2)
  have R2 := Lib.hid r2; have B2 := Lib.hid b2; have Z2 := Lib.hid z2
  clear r2 k2 z2 b2
  subst hW2
  have HZP : Hid (trE s ≠ 0 → trP s = ([], [], [])) := Lib.hid (fun h => if_neg h)
  generalize trE s = e at *
  generalize trP s = p at *
  obtain ⟨x1, x2, x3, x4, x5, x6, x7, x8, x9, y, hp⟩ := r11_of p
  have HP := Lib.hid hp
  have HI := Lib.hid info11
  have HO0 := Lib.hid (r11_one 0 0 0 0 0 0 0 0 0 ⟨#[]⟩ none 0 0)
  clear hp
  go_enter Try.func25, Try.ntmps25
  go_wp2_with fail
  refine HO.out.mono ?_
  rintro q w3 ⟨rfl, hm, hg⟩
  have hz := Z2.out
  have HR3 := Lib.hid (R2.out.grown hg (by omega))
  have HB3 := Lib.hid (B2.out.grown hg (by omega) (fun k hk => by have := Option.some.inj hk; omega))
  clear hg hz
  by_cases he : e = 0
  · obtain ⟨v, hc, B, hB, hR⟩ := hm he
    subst he
    obtain ⟨A, c, rfl⟩ := Kd.R_slice hR
    rw [HP.out] at hc
    have HM3 := Lib.hid hc
    have HO1 := Lib.hid (r11_one x1 x2 x3 x4 x5 x6 x7 x8 x9 y A (mks p.2.2).length c)
    have HR4 : Hid (CB (w3.setRow w.heap.size (r11 x1 x2 x3 x4 x5 x6 x7 x8 x9 y A (mks p.2.2).length c)) w.heap.size (r11 x1 x2 x3 x4 x5 x6 x7 x8 x9 y A (mks p.2.2).length c) 37) := Lib.hid (setRow_heap _ _ _ _ _ _ HR3.out)
    have HB4 := Lib.hid (below_row (cs := r11 x1 x2 x3 x4 x5 x6 x7 x8 x9 y A (mks p.2.2).length c) (Nat.le_refl _) HB3.out)
    have HN4 := Lib.hid (Kd.R_lower (R_row (cs := r11 x1 x2 x3 x4 x5 x6 x7 x8 x9 y A (mks p.2.2).length c) hR (show w.heap.size < B by omega)) (show w.heap.size ≤ B by omega))
    have HLN : Hid (∀ n, rspA p (.slice A n c) = r11 x1 x2 x3 x4 x5 x6 x7 x8 x9 y A n c) := Lib.hid (fun n => HP.out A n c)
    generalize (mks p.2.2).length = ln at *
    clear hm hR hc hB
    go_wp2_with (first
      | (refine wpList_load_row rfl 37 (.tmp 4) rfl (w.heap.size + 1) rfl 37 (r11 x1 x2 x3 x4 x5 x6 x7 x8 x9 y A ln c) (0, 0) _ HM3.out Try.underlying37 rfl HI.out ?_)
      | (refine wpList_store_row rfl 37 (.tmp 2) (.tmp 13) rfl w.heap.size (r11 x1 x2 x3 x4 x5 x6 x7 x8 x9 y A ln c) rfl rfl 37 _ HR3.out HI.out rfl HO1.out ?_))
    generalize w3.setRow w.heap.size (r11 x1 x2 x3 x4 x5 x6 x7 x8 x9 y A ln c) = w9 at *
    have q0 := blk_cell HR4.out 0; have q1 := blk_cell HR4.out 1; have q2 := blk_cell HR4.out 2; have q3 := blk_cell HR4.out 3; have q4 := blk_cell HR4.out 4; have q5 := blk_cell HR4.out 5; have q6 := blk_cell HR4.out 6; have q7 := blk_cell HR4.out 7; have q8 := blk_cell HR4.out 8; have q9 := blk_cell HR4.out 9; have q10 := blk_cell HR4.out 10
    simp only [r11, List.getElem?_toArray, List.getElem?_cons_zero, List.getElem?_cons_succ] at q0 q1 q2 q3 q4 q5 q6 q7 q8 q9 q10
    refine bodyPost_ret (v := .tuple #[.agg #[.int .i64 x1, .int .i64 x2, .int .i64 x3, .int .i64 x4, .int .i64 x5, .int .i64 x6, .int .i64 x7, .int .i64 x8, .int .i64 x9, .string y, .slice A ln c], .int .i64 0]) (by simp [results, Try.results25, go_sem, q0, q1, q2, q3, q4, q5, q6, q7, q8, q9, q10]) rfl ⟨.slice A ln c, by rw [HLN.out]; rfl, HN4.out, HB4.out⟩
  · have heb : (e != 0) = true := by simpa using he
    have HPZ := Lib.hid (HZP.out he)
    have HR4 : Hid (CB (w3.setRow w.heap.size (r11 0 0 0 0 0 0 0 0 0 ⟨#[]⟩ none 0 0)) w.heap.size (r11 0 0 0 0 0 0 0 0 0 ⟨#[]⟩ none 0 0) 37) := Lib.hid (setRow_heap _ _ _ _ _ _ HR3.out)
    have HB4 := Lib.hid (below_row (cs := r11 0 0 0 0 0 0 0 0 0 ⟨#[]⟩ none 0 0) (Nat.le_refl _) HB3.out)
    clear hm he
    go_wp2_with (refine wpList_store_row rfl 37 (.tmp 2) (.tmp 11) rfl w.heap.size (r11 0 0 0 0 0 0 0 0 0 ⟨#[]⟩ none 0 0) rfl rfl 37 _ HR3.out HI.out rfl HO0.out ?_)
    generalize w3.setRow w.heap.size (r11 0 0 0 0 0 0 0 0 0 ⟨#[]⟩ none 0 0) = w9 at *
    have q0 := blk_cell HR4.out 0; have q1 := blk_cell HR4.out 1; have q2 := blk_cell HR4.out 2; have q3 := blk_cell HR4.out 3; have q4 := blk_cell HR4.out 4; have q5 := blk_cell HR4.out 5; have q6 := blk_cell HR4.out 6; have q7 := blk_cell HR4.out 7; have q8 := blk_cell HR4.out 8; have q9 := blk_cell HR4.out 9; have q10 := blk_cell HR4.out 10
    simp only [r11, List.getElem?_toArray, List.getElem?_cons_zero, List.getElem?_cons_succ] at q0 q1 q2 q3 q4 q5 q6 q7 q8 q9 q10
    refine bodyPost_ret (v := .tuple #[.agg #[.int .i64 0, .int .i64 0, .int .i64 0, .int .i64 0, .int .i64 0, .int .i64 0, .int .i64 0, .int .i64 0, .int .i64 0, .string ⟨#[]⟩, .slice none 0 0], .int .i64 e]) (by simp [results, Try.results25, go_sem, q0, q1, q2, q3, q4, q5, q6, q7, q8, q9, q10]) rfl ⟨.slice none 0 0, by rw [HPZ.out]; rfl, by rw [HPZ.out]; exact Kd.R_nil _ _ _ _ _, HB4.out⟩
end Go.Proofs.Ytgnmhbkialgeaaa
end

section
/- Layer 15: what was walked by hand, in the form that the printed texts want. -/
set_option linter.unusedVariables false
set_option linter.unusedSimpArgs false
namespace Go.Proofs.Ytgnmhbkialgeaaa
open Go.RowKit Go.Proofs.YtgnmhbkialgeaaaW.PrintWords Go.Proofs.YtgnmhbkialgeaaaW.PrintLast Go.Proofs.YtgnmhbkialgeaaaW.PrintMore Math

def inI (l : List Int) : Bool := l.all fun n => decide (-9223372036854775808 ≤ n) && decide (n ≤ 9223372036854775807)
def wire_nums.f (l0 : List Int) : Option ByteArray := if l0.length ≤ 1000000 ∧ inI l0 = true then some (numsS l0) else none
theorem wire_nums.calls (A0 : Option Addr) (c0 : Nat) (l0 : List Int) (r : ByteArray) (w : World) (hr0 : Kd.C (Kd.int .i64) w A0 l0.length l0) (hc0 : l0.length ≤ c0) (h : wire_nums.f l0 = some r) :
    Calls Try.prog 27 #[.slice A0 l0.length c0] w fun e w' => e = .returned (.string r) ∧ Below w.heap.size w w' := by
  unfold wire_nums.f at h
  split at h
  · rename_i hh
    obtain rfl := Option.some.inj h
    refine nums_calls A0 c0 l0 w hr0 hh.1 (fun n hn => ?_)
    have := List.all_eq_true.1 hh.2 n hn
    simp only [Bool.and_eq_true, decide_eq_true_eq] at this
    exact this
  · cases h
def seal_Put.f (a0 : ByteArray) : Option ByteArray := if a0.size ≤ 9223372036854775803 then some (putS a0) else none
theorem seal_Put.calls (a0 : ByteArray) (r : ByteArray) (w : World) (h : seal_Put.f a0 = some r) :
    Calls Try.prog 31 #[.string a0] w fun e w' => e = .returned (.string r) ∧ Below w.heap.size w w' := by
  unfold seal_Put.f at h
  split at h
  · rename_i hh
    obtain rfl := Option.some.inj h
    exact U.seal_Put.calls a0 _ w (seal_Put_eq a0 hh)
  · cases h
def tcT (s : ByteArray) : Int × Int × Int × Int × Int × ByteArray × ByteArray × ByteArray × ByteArray × Int :=
  let p := tcR s.data.toList
  (p.1.1.getD 0 0, p.1.1.getD 1 0, p.1.1.getD 2 0, p.1.1.getD 3 0, p.1.1.getD 4 0, ⟨p.1.2.1.toArray⟩, ⟨p.1.2.2.1.toArray⟩, ⟨p.1.2.2.2.toArray⟩, ⟨p.2.1.toArray⟩, p.2.2)
def wire_TakeCall.f (a0 : ByteArray) : Option (Int × Int × Int × Int × Int × ByteArray × ByteArray × ByteArray × ByteArray × Int) := if a0.size ≤ 8000000000000 then some (tcT a0) else none
theorem wire_TakeCall.calls (a0 : ByteArray) (r1 r2 r3 r4 r5 : Int) (r6 r7 r8 r9 : ByteArray) (r10 : Int) (w : World) (h : wire_TakeCall.f a0 = some (r1, r2, r3, r4, r5, r6, r7, r8, r9, r10)) :
    Calls Try.prog 13 #[.string a0] w fun e w' => e = .returned (.tuple #[.agg #[.int .i64 r1, .int .i64 r2, .int .i64 r3, .int .i64 r4, .int .i64 r5, .string r6, .string r7, .string r8], .string r9, .int .i64 r10]) ∧ Below w.heap.size w w' := by
  unfold wire_TakeCall.f at h
  split at h
  · rename_i hh
    have h2 := Option.some.inj h
    unfold tcT at h2
    simp only [Prod.mk.injEq] at h2
    obtain ⟨rfl, rfl, rfl, rfl, rfl, rfl, rfl, rfl, rfl, rfl⟩ := h2
    exact takeCall_step a0.data.toList w (by rw [← sz]; exact hh)
  · cases h
def tmT (s : ByteArray) : Int × Int × Int × Int × Int × Int × Int × Int × Int × Int × Int × ByteArray × ByteArray × ByteArray × Int :=
  let p := tmP s
  (p.1.getD 0 0, p.1.getD 1 0, p.1.getD 2 0, p.1.getD 3 0, p.1.getD 4 0, p.1.getD 5 0, p.2.1.getD 0 0, p.2.1.getD 1 0, p.2.1.getD 2 0, p.2.1.getD 3 0, p.2.1.getD 4 0, ⟨p.2.2.1.toArray⟩, ⟨p.2.2.2.1.toArray⟩, ⟨p.2.2.2.2.toArray⟩, tmE s)
def wire_TakeMsg.f (a0 : ByteArray) : Option (Int × Int × Int × Int × Int × Int × Int × Int × Int × Int × Int × ByteArray × ByteArray × ByteArray × Int) := if a0.size ≤ 8000000000000 then some (tmT a0) else none
theorem wire_TakeMsg.calls (a0 : ByteArray) (r1 r2 r3 r4 r5 r6 r7 r8 r9 r10 r11 : Int) (r12 r13 r14 : ByteArray) (r15 : Int) (w : World) (h : wire_TakeMsg.f a0 = some (r1, r2, r3, r4, r5, r6, r7, r8, r9, r10, r11, r12, r13, r14, r15)) :
    Calls Try.prog 23 #[.string a0] w fun e w' => e = .returned (.tuple #[.agg #[.int .i64 r1, .int .i64 r2, .int .i64 r3, .int .i64 r4, .int .i64 r5, .int .i64 r6, .int .i64 r7, .int .i64 r8, .int .i64 r9, .int .i64 r10, .int .i64 r11, .string r12, .string r13, .string r14], .int .i64 r15]) ∧ Below w.heap.size w w' := by
  unfold wire_TakeMsg.f at h
  split at h
  · rename_i hh
    have h2 := Option.some.inj h
    unfold tmT at h2
    simp only [Prod.mk.injEq] at h2
    obtain ⟨rfl, rfl, rfl, rfl, rfl, rfl, rfl, rfl, rfl, rfl, rfl, rfl, rfl, rfl, rfl⟩ := h2
    exact takeMsg_step a0 hh w
  · cases h
def trT (s : ByteArray) : Int × Int × Int × Int × Int × Int × Int × Int × Int × ByteArray × List ByteArray × Int :=
  let p := trP s
  (p.1.getD 0 0, p.1.getD 1 0, p.1.getD 2 0, p.1.getD 3 0, p.1.getD 4 0, p.1.getD 5 0, p.1.getD 6 0, p.1.getD 7 0, p.1.getD 8 0, ⟨p.2.1.toArray⟩, mks p.2.2, trE s)
def wire_TakeRsp.f (a0 : ByteArray) : Option (Int × Int × Int × Int × Int × Int × Int × Int × Int × ByteArray × List ByteArray × Int) := if a0.size ≤ 8000000000000 then some (trT a0) else none
theorem wire_TakeRsp.calls (a0 : ByteArray) (r1 r2 r3 r4 r5 r6 r7 r8 r9 : Int) (r10 : ByteArray) (r11 : List ByteArray) (r12 : Int) (w : World) (h : wire_TakeRsp.f a0 = some (r1, r2, r3, r4, r5, r6, r7, r8, r9, r10, r11, r12)) :
    Calls Try.prog 25 #[.string a0] w fun e w' => ∃ v10_ : Value, e = .returned (.tuple #[.agg #[.int .i64 r1, .int .i64 r2, .int .i64 r3, .int .i64 r4, .int .i64 r5, .int .i64 r6, .int .i64 r7, .int .i64 r8, .int .i64 r9, .string r10, v10_], .int .i64 r12]) ∧ Kd.R Kd.string 9 w' w.heap.size (fun _ => True) v10_ r11 ∧ Below w.heap.size w w' := by
  unfold wire_TakeRsp.f at h
  split at h
  · rename_i hh
    have h2 := Option.some.inj h
    unfold trT at h2
    simp only [Prod.mk.injEq] at h2
    obtain ⟨rfl, rfl, rfl, rfl, rfl, rfl, rfl, rfl, rfl, rfl, rfl, rfl⟩ := h2
    exact takeRsp_step a0 hh w
  · cases h
end Go.Proofs.Ytgnmhbkialgeaaa
end

section
/- The machine's side of laws of this seat: Go functions as Lean functions, and the proof that a call of each comes to what its function says (written by a program of this session, px.py, that runs the kit's print). -/
namespace Go.Proofs.Ytgnmhbkialgeaaa.Q
open Go.RowKit Go.Proofs.YtgnmhbkialgeaaaW.PrintWords Go.Proofs.YtgnmhbkialgeaaaW.PrintLast Go.Proofs.YtgnmhbkialgeaaaW.PrintMore
attribute [local go_sem] max2_int min2_int max_two min_two max_three min_three max_four min_four   -- for this text's walks alone
attribute [local go_sem high] Go.Proofs.Ytgnmhbkialgeaaa.px_xor_u8 Go.Proofs.Ytgnmhbkialgeaaa.px_xor_u16 Go.Proofs.Ytgnmhbkialgeaaa.px_xor_u32 Go.Proofs.Ytgnmhbkialgeaaa.px_xor_u64
set_option linter.unusedVariables false
set_option linter.unusedSimpArgs false



def errW : Option Int → Value
  | none => .nilIface
  | some c => .iface 0 (.int .i64 c)
theorem errW_none : errW none = .nilIface := rfl
theorem errW_some (c : Int) : errW (some c) = .iface 0 (.int .i64 c) := rfl

theorem info5 : (Try.prog.info? 5).map (fun i => (i.zero, i.size, i.bytes)) = some (some (.int .u8 0), 1, 1) := by kernel_rfl
theorem info9 : (Try.prog.info? 9).map (fun i => (i.zero, i.size, i.bytes)) = some (some (.string ⟨#[]⟩), 1, 16) := by kernel_rfl
-- the values' own types

end Go.Proofs.Ytgnmhbkialgeaaa.Q
end

section
/- The machine's side of laws of this seat: Go functions as Lean functions, and the proof that a call of each comes to what its function says (written by a program of this session, px.py, that runs the kit's print). -/
namespace Go.Proofs.Ytgnmhbkialgeaaa.Q
open Go.RowKit Go.Proofs.YtgnmhbkialgeaaaW.PrintWords Go.Proofs.YtgnmhbkialgeaaaW.PrintLast Go.Proofs.YtgnmhbkialgeaaaW.PrintMore
attribute [local go_sem] max2_int min2_int max_two min_two max_three min_three max_four min_four   -- for this text's walks alone
attribute [local go_sem high] Go.Proofs.Ytgnmhbkialgeaaa.px_xor_u8 Go.Proofs.Ytgnmhbkialgeaaa.px_xor_u16 Go.Proofs.Ytgnmhbkialgeaaa.px_xor_u32 Go.Proofs.Ytgnmhbkialgeaaa.px_xor_u64
set_option linter.unusedVariables false
set_option linter.unusedSimpArgs false

theorem eqA23 (d : Nat) (w : World) (x0 y0 : Int) (x1 y1 : Int) (x2 y2 : Int) (x3 y3 : Int) (x4 y4 : Int) (x5 y5 : ByteArray) (x6 y6 : ByteArray) (x7 y7 : ByteArray) :
    (Op.equalIn (d + 2) 23 (.agg #[.int .i64 x0, .int .i64 x1, .int .i64 x2, .int .i64 x3, .int .i64 x4, .string x5, .string x6, .string x7]) (.agg #[.int .i64 y0, .int .i64 y1, .int .i64 y2, .int .i64 y3, .int .i64 y4, .string y5, .string y6, .string y7])).run Try.prog w = .ok (x0 == y0 && (x1 == y1 && (x2 == y2 && (x3 == y3 && (x4 == y4 && (x5.toList == y5.toList && (x6.toList == y6.toList && (x7.toList == y7.toList)))))))) w := by
  refine eqA_of Try.underlying23 (by kernel_rfl) ?_
  refine eqf_cons (by rfl) (by go_simp; rfl) (by go_simp; rfl) (by go_simp) ?_
  refine eqf_cons (by rfl) (by go_simp; rfl) (by go_simp; rfl) (by go_simp) ?_
  refine eqf_cons (by rfl) (by go_simp; rfl) (by go_simp; rfl) (by go_simp) ?_
  refine eqf_cons (by rfl) (by go_simp; rfl) (by go_simp; rfl) (by go_simp) ?_
  refine eqf_cons (by rfl) (by go_simp; rfl) (by go_simp; rfl) (by go_simp) ?_
  refine eqf_cons (by rfl) (by go_simp; rfl) (by go_simp; rfl) (by go_simp) ?_
  refine eqf_cons (by rfl) (by go_simp; rfl) (by go_simp; rfl) (by go_simp) ?_
  exact eqf_last (by rfl) (by go_simp; rfl) (by go_simp; rfl) (by go_simp)
end Go.Proofs.Ytgnmhbkialgeaaa.Q
end

section
/- The machine's side of laws of this seat: Go functions as Lean functions, and the proof that a call of each comes to what its function says (written by a program of this session, px.py, that runs the kit's print). -/
namespace Go.Proofs.Ytgnmhbkialgeaaa.Q
open Go.RowKit Go.Proofs.YtgnmhbkialgeaaaW.PrintWords Go.Proofs.YtgnmhbkialgeaaaW.PrintLast Go.Proofs.YtgnmhbkialgeaaaW.PrintMore
attribute [local go_sem] max2_int min2_int max_two min_two max_three min_three max_four min_four   -- for this text's walks alone
attribute [local go_sem high] Go.Proofs.Ytgnmhbkialgeaaa.px_xor_u8 Go.Proofs.Ytgnmhbkialgeaaa.px_xor_u16 Go.Proofs.Ytgnmhbkialgeaaa.px_xor_u32 Go.Proofs.Ytgnmhbkialgeaaa.px_xor_u64
set_option linter.unusedVariables false
set_option linter.unusedSimpArgs false

theorem eqA32 (d : Nat) (w : World) (x0 y0 : Int) (x1 y1 : Int) (x2 y2 : Int) (x3 y3 : Int) (x4 y4 : Int) (x5 y5 : Int) (x6 y6 : Int) (x7 y7 : Int) (x8 y8 : Int) (x9 y9 : Int) (x10 y10 : Int) (x11 y11 : ByteArray) (x12 y12 : ByteArray) (x13 y13 : ByteArray) :
    (Op.equalIn (d + 3) 32 (.agg #[.int .i64 x0, .int .i64 x1, .int .i64 x2, .int .i64 x3, .int .i64 x4, .int .i64 x5, .int .i64 x6, .int .i64 x7, .int .i64 x8, .int .i64 x9, .int .i64 x10, .string x11, .string x12, .string x13]) (.agg #[.int .i64 y0, .int .i64 y1, .int .i64 y2, .int .i64 y3, .int .i64 y4, .int .i64 y5, .int .i64 y6, .int .i64 y7, .int .i64 y8, .int .i64 y9, .int .i64 y10, .string y11, .string y12, .string y13])).run Try.prog w = .ok (x0 == y0 && (x1 == y1 && (x2 == y2 && (x3 == y3 && (x4 == y4 && (x5 == y5 && ((x6 == y6 && (x7 == y7 && (x8 == y8 && (x9 == y9 && (x10 == y10 && (x11.toList == y11.toList && (x12.toList == y12.toList && (x13.toList == y13.toList))))))))))))))) w := by
  refine eqA_of Try.underlying32 (by kernel_rfl) ?_
  refine eqf_cons (by rfl) (by go_simp; rfl) (by go_simp; rfl) (by go_simp) ?_
  refine eqf_cons (by rfl) (by go_simp; rfl) (by go_simp; rfl) (by go_simp) ?_
  refine eqf_cons (by rfl) (by go_simp; rfl) (by go_simp; rfl) (by go_simp) ?_
  refine eqf_cons (by rfl) (by go_simp; rfl) (by go_simp; rfl) (by go_simp) ?_
  refine eqf_cons (by rfl) (by go_simp; rfl) (by go_simp; rfl) (by go_simp) ?_
  refine eqf_cons (by rfl) (by go_simp; rfl) (by go_simp; rfl) (by go_simp) ?_
  exact eqf_last (by rfl) (by go_simp) (by go_simp) (eqA23 (d + 0) w _ _ _ _ _ _ _ _ _ _ _ _ _ _ _ _)
end Go.Proofs.Ytgnmhbkialgeaaa.Q
end

section
/- The machine's side of laws of this seat: Go functions as Lean functions, and the proof that a call of each comes to what its function says (written by a program of this session, px.py, that runs the kit's print). -/
namespace Go.Proofs.Ytgnmhbkialgeaaa.Q
open Go.RowKit Go.Proofs.YtgnmhbkialgeaaaW.PrintWords Go.Proofs.YtgnmhbkialgeaaaW.PrintLast Go.Proofs.YtgnmhbkialgeaaaW.PrintMore
attribute [local go_sem] max2_int min2_int max_two min_two max_three min_three max_four min_four   -- for this text's walks alone
attribute [local go_sem high] Go.Proofs.Ytgnmhbkialgeaaa.px_xor_u8 Go.Proofs.Ytgnmhbkialgeaaa.px_xor_u16 Go.Proofs.Ytgnmhbkialgeaaa.px_xor_u32 Go.Proofs.Ytgnmhbkialgeaaa.px_xor_u64
set_option linter.unusedVariables false
set_option linter.unusedSimpArgs false

-- GIVEN: function 27 (wire_nums): its Lean function and its contract stand in a text of this session's

-- GIVEN: function 28 (octet_Text): its Lean function and its contract stand in a text of this session's

/-! ### wire_Call: function 12 -/
def wire_Call.f (a0_0 : Int) (a0_1 : Int) (a0_2 : Int) (a0_3 : Int) (a0_4 : Int) (a0_5 : ByteArray) (a0_6 : ByteArray) (a0_7 : ByteArray) : Option (ByteArray) := (wire_nums.f (([a0_0, a0_1, a0_2, a0_3, a0_4] : List Int))).bind fun t105 => ((octet_Text.f a0_5).bind fun t106 => (if t105.size + t106.size ≤ 9223372036854775807 then ((octet_Text.f a0_6).bind fun t107 => (if (t105 ++ t106).size + t107.size ≤ 9223372036854775807 then ((octet_Text.f a0_7).bind fun t108 => (if ((t105 ++ t106) ++ t107).size + t108.size ≤ 9223372036854775807 then (some (((t105 ++ t106) ++ t107) ++ t108)) else (none))) else (none))) else (none)))
def wire_Call.T1 : Bool × List (List Nat × List Nat) := (true, [([], []), ([0], [0]), ([], []), ([2], [2]), ([], []), ([4], [4]), ([], []), ([6], [6]), ([], []), ([8], [8]), ([1, 3, 5, 7, 9], [1, 3, 5, 7, 9]), ([10], [10]), ([], []), ([12], [12]), ([13, 11], [13]), ([11, 14], [11, 14]), ([], []), ([16], [16]), ([17, 14], [17]), ([15, 18], [15, 18]), ([], []), ([20], [20]), ([21, 18], [21]), ([19, 22], [19, 22]), ([23, 22, 0, 1, 2, 3, 4, 5, 6, 7, 8, 9, 10, 11, 12, 13, 14, 15, 16, 17, 18, 19, 20, 21, 22, 23], [23])])
def wire_Call.B1 : List Nat := [0, 1, 0, 4, 0, 16, 0, 64, 0, 256, 1023, 2047, 0, 4096, 16383, 32767, 0, 65536, 229375, 524287, 0, 1048576, 3637247, 8388607, 16777215]
theorem wire_Call.tab1 : rtab .any (opsOf Try.f12 1) = wire_Call.T1 := by kernel_rfl
theorem wire_Call.bits1 : waitsOk wire_Call.T1.2 wire_Call.B1 = true := by kernel_rfl
set_option maxHeartbeats 8000000 in
set_option maxRecDepth 100000 in
theorem wire_Call.calls (a0_0 : Int) (a0_1 : Int) (a0_2 : Int) (a0_3 : Int) (a0_4 : Int) (a0_5 : ByteArray) (a0_6 : ByteArray) (a0_7 : ByteArray) (r : ByteArray) (w : World) (h : wire_Call.f a0_0 a0_1 a0_2 a0_3 a0_4 a0_5 a0_6 a0_7 = some r) :
  Calls Try.prog 12 #[.agg #[.int .i64 a0_0, .int .i64 a0_1, .int .i64 a0_2, .int .i64 a0_3, .int .i64 a0_4, .string a0_5, .string a0_6, .string a0_7]] w fun e w' => e = .returned (.string r) ∧ Below w.heap.size w w' := by
 have hu23 := Try.underlying23
 have HB := Aside0.mk (Below.refl w.heap.size w)
 have H : ((wire_nums.f (([a0_0, a0_1, a0_2, a0_3, a0_4] : List Int))).bind fun t105 => ((octet_Text.f a0_5).bind fun t106 => (if t105.size + t106.size ≤ 9223372036854775807 then ((octet_Text.f a0_6).bind fun t107 => (if (t105 ++ t106).size + t107.size ≤ 9223372036854775807 then ((octet_Text.f a0_7).bind fun t108 => (if ((t105 ++ t106) ++ t107).size + t108.size ≤ 9223372036854775807 then (some (((t105 ++ t106) ++ t107) ++ t108)) else (none))) else (none))) else (none)))) = some r := h
 clear h
 obtain ⟨y102, hy102⟩ : ∃ y_ : List Int, y_ = (([a0_0, a0_1, a0_2, a0_3, a0_4] : List Int)) := ⟨_, rfl⟩
 replace H : ((wire_nums.f y102).bind fun t105 => ((octet_Text.f a0_5).bind fun t106 => (if t105.size + t106.size ≤ 9223372036854775807 then ((octet_Text.f a0_6).bind fun t107 => (if (t105 ++ t106).size + t107.size ≤ 9223372036854775807 then ((octet_Text.f a0_7).bind fun t108 => (if ((t105 ++ t106) ++ t107).size + t108.size ≤ 9223372036854775807 then (some (((t105 ++ t106) ++ t107) ++ t108)) else (none))) else (none))) else (none)))) = some r := by first | (rw [hy102]; with_reducible exact H) | (have H2_ := (Option.bind_some _ _).symm.trans H; rw [hy102]; with_reducible exact H2_) | (have H2_ := (Option.bind_some _ _).symm.trans H; with_reducible exact H2_) | with_reducible exact H | (rw [hy102]; exact H) | exact H
 have Ny102 := Aside0.mk hy102
 clear hy102
 replace H := Option.bind_eq_some_iff.mp H
 obtain ⟨t105, A20, H⟩ := H
 replace H : ((octet_Text.f a0_5).bind fun t106 => (if t105.size + t106.size ≤ 9223372036854775807 then ((octet_Text.f a0_6).bind fun t107 => (if (t105 ++ t106).size + t107.size ≤ 9223372036854775807 then ((octet_Text.f a0_7).bind fun t108 => (if ((t105 ++ t106) ++ t107).size + t108.size ≤ 9223372036854775807 then (some (((t105 ++ t106) ++ t107) ++ t108)) else (none))) else (none))) else (none))) = some r := H
 have A2 := Aside0.mk A20
 clear A20
 replace H := Option.bind_eq_some_iff.mp H
 obtain ⟨t106, A30, H⟩ := H
 replace H : (if t105.size + t106.size ≤ 9223372036854775807 then ((octet_Text.f a0_6).bind fun t107 => (if (t105 ++ t106).size + t107.size ≤ 9223372036854775807 then ((octet_Text.f a0_7).bind fun t108 => (if ((t105 ++ t106) ++ t107).size + t108.size ≤ 9223372036854775807 then (some (((t105 ++ t106) ++ t107) ++ t108)) else (none))) else (none))) else (none)) = some r := H
 have A3 := Aside0.mk A30
 clear A30
 by_cases c4 : t105.size + t106.size ≤ 9223372036854775807
 ·rw [if_pos c4] at H
  have c4b0 := eq_true c4
  have c4b1 : decide (t105.size + t106.size ≤ 9223372036854775807) = true := decide_eq_true c4
  try have c4b2 : (9223372036854775807 < t105.size + t106.size) = False := eq_false (Nat.not_lt.2 c4)
  replace H := Option.bind_eq_some_iff.mp H
  obtain ⟨t107, A50, H⟩ := H
  replace H : (if (t105 ++ t106).size + t107.size ≤ 9223372036854775807 then ((octet_Text.f a0_7).bind fun t108 => (if ((t105 ++ t106) ++ t107).size + t108.size ≤ 9223372036854775807 then (some (((t105 ++ t106) ++ t107) ++ t108)) else (none))) else (none)) = some r := H
  have A5 := Aside0.mk A50
  clear A50
  by_cases c6 : (t105 ++ t106).size + t107.size ≤ 9223372036854775807
  ·rw [if_pos c6] at H
   have c6b0 := eq_true c6
   have c6b1 : decide ((t105 ++ t106).size + t107.size ≤ 9223372036854775807) = true := decide_eq_true c6
   try have c6b2 : (9223372036854775807 < (t105 ++ t106).size + t107.size) = False := eq_false (Nat.not_lt.2 c6)
   try have c6b2_ : (9223372036854775807 < t105.size + t106.size + t107.size) = False := (by have h_ := c6b2; simp only [ByteArray.size_append] at h_; exact h_)
   replace H := Option.bind_eq_some_iff.mp H
   obtain ⟨t108, A70, H⟩ := H
   replace H : (if ((t105 ++ t106) ++ t107).size + t108.size ≤ 9223372036854775807 then (some (((t105 ++ t106) ++ t107) ++ t108)) else (none)) = some r := H
   have A7 := Aside0.mk A70
   clear A70
   by_cases c8 : ((t105 ++ t106) ++ t107).size + t108.size ≤ 9223372036854775807
   ·rw [if_pos c8] at H
    have c8b0 := eq_true c8
    have c8b1 : decide (((t105 ++ t106) ++ t107).size + t108.size ≤ 9223372036854775807) = true := decide_eq_true c8
    try have c8b2 : (9223372036854775807 < ((t105 ++ t106) ++ t107).size + t108.size) = False := eq_false (Nat.not_lt.2 c8)
    try have c8b2_ : (9223372036854775807 < t105.size + t106.size + t107.size + t108.size) = False := (by have h_ := c8b2; simp only [ByteArray.size_append] at h_; exact h_)
    obtain rfl := Option.some.inj H
    go_enter Try.func12, Try.ntmps12
    try go_wp2_with (first | ((with_reducible refine gate_dst (N := 1) rfl ?_); refine box_event ?hg (N := 1) ?hd (cs := #[.int .i64 a0_0, .int .i64 a0_1, .int .i64 a0_2, .int .i64 a0_3, .int .i64 a0_4, .string a0_5, .string a0_6, .string a0_7]) (t := 23) ?hr ?_; (case hd => rfl); (case hg => rfl); (case hr => first | (go_simp; done) | (go_simp; rfl)); intro gb101 hg w9 hbox hb; have n0_ := Aside0.mk (below_step (by repeat (first | (with_reducible first | exact HB.out | apply below_alloc | apply pw_below_drewN | apply below_drew1) | exact HB.out)) hb); have n1_ := Aside0.mk (hbox); have n2_ := Aside0.mk ((by rw [hg]; exact (below_size (by repeat (first | (with_reducible first | exact HB.out | apply below_alloc | apply pw_below_drewN | apply below_drew1) | exact HB.out))) : w.heap.size ≤ gb101)); have n3_ := Aside0.mk ((by rw [hg]; exact (below_size (by repeat (first | (with_reducible first | exact HB.out | apply below_alloc | apply pw_below_drewN | apply below_drew1) | exact HB.out))) : w.heap.size ≤ gb101)); clear HB; have HB := n0_; have BK101 := n1_; have GW101 := n2_; have GE101 := n3_; clear n0_ n1_ n2_ n3_; clear hb hbox hg))
    have n0_ := Aside0.mk (blk_drew BK101.out)
    have n1_ := Aside0.mk (below_drew1 HB.out)
    (clear BK101; clear HB; have BK101 := n0_; have HB := n1_; clear n0_ n1_)
    refine start_ (n := 25) (S := fun w' => w'.cell? ⟨gb101, 0, none⟩ = some (.int .i64 a0_0) ∧ w'.cell? ⟨gb101, 1, none⟩ = some (.int .i64 a0_1) ∧ w'.cell? ⟨gb101, 2, none⟩ = some (.int .i64 a0_2) ∧ w'.cell? ⟨gb101, 3, none⟩ = some (.int .i64 a0_3) ∧ w'.cell? ⟨gb101, 4, none⟩ = some (.int .i64 a0_4) ∧ w'.cell? ⟨gb101, 5, none⟩ = some (.string a0_5) ∧ w'.cell? ⟨gb101, 6, none⟩ = some (.string a0_6) ∧ w'.cell? ⟨gb101, 7, none⟩ = some (.string a0_7)) (ds := []) #[false, false, false, false, false, false, false, false, false, false, false, false, false, false, false, false, false, false, false, false, false, false, false, false, false] (by kernel_rfl) rfl rfl ⟨(blk_cell BK101.out 0).trans rfl, (blk_cell BK101.out 1).trans rfl, (blk_cell BK101.out 2).trans rfl, (blk_cell BK101.out 3).trans rfl, (blk_cell BK101.out 4).trans rfl, (blk_cell BK101.out 5).trans rfl, (blk_cell BK101.out 6).trans rfl, (blk_cell BK101.out 7).trans rfl⟩ (fun hHeld => ?_); refine with_tabW wire_Call.tab1 wire_Call.bits1 (fun HT_ HW_ => ?_)
    generalize w9.drew = w10 at BK101 HB hHeld ⊢
    refine pure_ (i := 0) (N := some 3) (v := ?_) (a' := ?_) #[true, false, false, false, false, false, false, false, false, false, false, false, false, false, false, false, false, false, false, false, false, false, false, false, false] rfl rfl (any_of HT_.out (by kernel_rfl)) (fun _ _ _ h => h) (Or.inl ⟨by rfl, ?_⟩) ?_ ?_
    (rotate_left; · (intro w'; go_simp; with_reducible rfl))
    (rotate_left; · (simp only [Act.put, List.setIfInBounds_toArray, List.set_cons_zero, List.set_cons_succ, i64_w, i32_w]; rfl))
    refine pure_ (i := 2) (N := some 5) (v := ?_) (a' := ?_) #[true, false, true, false, false, false, false, false, false, false, false, false, false, false, false, false, false, false, false, false, false, false, false, false, false] rfl rfl (any_of HT_.out (by kernel_rfl)) (fun _ _ _ h => h) (Or.inl ⟨by rfl, ?_⟩) ?_ ?_
    (rotate_left; · (intro w'; go_simp; with_reducible rfl))
    (rotate_left; · (simp only [Act.put, List.setIfInBounds_toArray, List.set_cons_zero, List.set_cons_succ, i64_w, i32_w]; rfl))
    refine pure_ (i := 4) (N := some 7) (v := ?_) (a' := ?_) #[true, false, true, false, true, false, false, false, false, false, false, false, false, false, false, false, false, false, false, false, false, false, false, false, false] rfl rfl (any_of HT_.out (by kernel_rfl)) (fun _ _ _ h => h) (Or.inl ⟨by rfl, ?_⟩) ?_ ?_
    (rotate_left; · (intro w'; go_simp; with_reducible rfl))
    (rotate_left; · (simp only [Act.put, List.setIfInBounds_toArray, List.set_cons_zero, List.set_cons_succ, i64_w, i32_w]; rfl))
    refine pure_ (i := 6) (N := some 9) (v := ?_) (a' := ?_) #[true, false, true, false, true, false, true, false, false, false, false, false, false, false, false, false, false, false, false, false, false, false, false, false, false] rfl rfl (any_of HT_.out (by kernel_rfl)) (fun _ _ _ h => h) (Or.inl ⟨by rfl, ?_⟩) ?_ ?_
    (rotate_left; · (intro w'; go_simp; with_reducible rfl))
    (rotate_left; · (simp only [Act.put, List.setIfInBounds_toArray, List.set_cons_zero, List.set_cons_succ, i64_w, i32_w]; rfl))
    refine pure_ (i := 8) (N := some 11) (v := ?_) (a' := ?_) #[true, false, true, false, true, false, true, false, true, false, false, false, false, false, false, false, false, false, false, false, false, false, false, false, false] rfl rfl (any_of HT_.out (by kernel_rfl)) (fun _ _ _ h => h) (Or.inl ⟨by rfl, ?_⟩) ?_ ?_
    (rotate_left; · (intro w'; go_simp; with_reducible rfl))
    (rotate_left; · (simp only [Act.put, List.setIfInBounds_toArray, List.set_cons_zero, List.set_cons_succ, i64_w, i32_w]; rfl))
    refine pure_ (i := 12) (N := some 15) (v := ?_) (a' := ?_) #[true, false, true, false, true, false, true, false, true, false, false, false, true, false, false, false, false, false, false, false, false, false, false, false, false] rfl rfl (any_of HT_.out (by kernel_rfl)) (fun _ _ _ h => h) (Or.inl ⟨by rfl, ?_⟩) ?_ ?_
    (rotate_left; · (intro w'; go_simp; with_reducible rfl))
    (rotate_left; · (simp only [Act.put, List.setIfInBounds_toArray, List.set_cons_zero, List.set_cons_succ, i64_w, i32_w]; rfl))
    refine pure_ (i := 16) (N := some 19) (v := ?_) (a' := ?_) #[true, false, true, false, true, false, true, false, true, false, false, false, true, false, false, false, true, false, false, false, false, false, false, false, false] rfl rfl (any_of HT_.out (by kernel_rfl)) (fun _ _ _ h => h) (Or.inl ⟨by rfl, ?_⟩) ?_ ?_
    (rotate_left; · (intro w'; go_simp; with_reducible rfl))
    (rotate_left; · (simp only [Act.put, List.setIfInBounds_toArray, List.set_cons_zero, List.set_cons_succ, i64_w, i32_w]; rfl))
    refine pure_ (i := 20) (N := some 23) (v := ?_) (a' := ?_) #[true, false, true, false, true, false, true, false, true, false, false, false, true, false, false, false, true, false, false, false, true, false, false, false, false] rfl rfl (any_of HT_.out (by kernel_rfl)) (fun _ _ _ h => h) (Or.inl ⟨by rfl, ?_⟩) ?_ ?_
    (rotate_left; · (intro w'; go_simp; with_reducible rfl))
    (rotate_left; · (simp only [Act.put, List.setIfInBounds_toArray, List.set_cons_zero, List.set_cons_succ, i64_w, i32_w]; rfl))
    refine take_ (i := 1) (N := some 4) (v := ?_) (a' := ?_) #[true, true, true, false, true, false, true, false, true, false, false, false, true, false, false, false, true, false, false, false, true, false, false, false, false] rfl rfl (take_ofW HT_.out HW_.out (by kernel_rfl)) (fun _ _ _ h => h) (Or.inl ⟨by rfl, ?_⟩) hHeld ?_ ?_
    rotate_left
    ·rintro w' ⟨s0, s1, s2, s3, s4, s5, s6, s7⟩
     go_simp
     with_reducible rfl
    (rotate_left; · (simp only [Act.put, List.setIfInBounds_toArray, List.set_cons_zero, List.set_cons_succ, i64_w, i32_w]; rfl))
    refine take_ (i := 3) (N := some 6) (v := ?_) (a' := ?_) #[true, true, true, true, true, false, true, false, true, false, false, false, true, false, false, false, true, false, false, false, true, false, false, false, false] rfl rfl (take_ofW HT_.out HW_.out (by kernel_rfl)) (fun _ _ _ h => h) (Or.inl ⟨by rfl, ?_⟩) hHeld ?_ ?_
    rotate_left
    ·rintro w' ⟨s0, s1, s2, s3, s4, s5, s6, s7⟩
     go_simp
     with_reducible rfl
    (rotate_left; · (simp only [Act.put, List.setIfInBounds_toArray, List.set_cons_zero, List.set_cons_succ, i64_w, i32_w]; rfl))
    refine take_ (i := 5) (N := some 8) (v := ?_) (a' := ?_) #[true, true, true, true, true, true, true, false, true, false, false, false, true, false, false, false, true, false, false, false, true, false, false, false, false] rfl rfl (take_ofW HT_.out HW_.out (by kernel_rfl)) (fun _ _ _ h => h) (Or.inl ⟨by rfl, ?_⟩) hHeld ?_ ?_
    rotate_left
    ·rintro w' ⟨s0, s1, s2, s3, s4, s5, s6, s7⟩
     go_simp
     with_reducible rfl
    (rotate_left; · (simp only [Act.put, List.setIfInBounds_toArray, List.set_cons_zero, List.set_cons_succ, i64_w, i32_w]; rfl))
    refine take_ (i := 7) (N := some 10) (v := ?_) (a' := ?_) #[true, true, true, true, true, true, true, true, true, false, false, false, true, false, false, false, true, false, false, false, true, false, false, false, false] rfl rfl (take_ofW HT_.out HW_.out (by kernel_rfl)) (fun _ _ _ h => h) (Or.inl ⟨by rfl, ?_⟩) hHeld ?_ ?_
    rotate_left
    ·rintro w' ⟨s0, s1, s2, s3, s4, s5, s6, s7⟩
     go_simp
     with_reducible rfl
    (rotate_left; · (simp only [Act.put, List.setIfInBounds_toArray, List.set_cons_zero, List.set_cons_succ, i64_w, i32_w]; rfl))
    refine take_ (i := 9) (N := some 12) (v := ?_) (a' := ?_) #[true, true, true, true, true, true, true, true, true, true, false, false, true, false, false, false, true, false, false, false, true, false, false, false, false] rfl rfl (take_ofW HT_.out HW_.out (by kernel_rfl)) (fun _ _ _ h => h) (Or.inl ⟨by rfl, ?_⟩) hHeld ?_ ?_
    rotate_left
    ·rintro w' ⟨s0, s1, s2, s3, s4, s5, s6, s7⟩
     go_simp
     with_reducible rfl
    (rotate_left; · (simp only [Act.put, List.setIfInBounds_toArray, List.set_cons_zero, List.set_cons_succ, i64_w, i32_w]; rfl))
    refine take_ (i := 13) (N := some 16) (v := ?_) (a' := ?_) #[true, true, true, true, true, true, true, true, true, true, false, false, true, true, false, false, true, false, false, false, true, false, false, false, false] rfl rfl (take_ofW HT_.out HW_.out (by kernel_rfl)) (fun _ _ _ h => h) (Or.inl ⟨by rfl, ?_⟩) hHeld ?_ ?_
    rotate_left
    ·rintro w' ⟨s0, s1, s2, s3, s4, s5, s6, s7⟩
     go_simp
     with_reducible rfl
    (rotate_left; · (simp only [Act.put, List.setIfInBounds_toArray, List.set_cons_zero, List.set_cons_succ, i64_w, i32_w]; rfl))
    refine take_ (i := 17) (N := some 20) (v := ?_) (a' := ?_) #[true, true, true, true, true, true, true, true, true, true, false, false, true, true, false, false, true, true, false, false, true, false, false, false, false] rfl rfl (take_ofW HT_.out HW_.out (by kernel_rfl)) (fun _ _ _ h => h) (Or.inl ⟨by rfl, ?_⟩) hHeld ?_ ?_
    rotate_left
    ·rintro w' ⟨s0, s1, s2, s3, s4, s5, s6, s7⟩
     go_simp
     with_reducible rfl
    (rotate_left; · (simp only [Act.put, List.setIfInBounds_toArray, List.set_cons_zero, List.set_cons_succ, i64_w, i32_w]; rfl))
    refine take_ (i := 21) (N := some 24) (v := ?_) (a' := ?_) #[true, true, true, true, true, true, true, true, true, true, false, false, true, true, false, false, true, true, false, false, true, true, false, false, false] rfl rfl (take_ofW HT_.out HW_.out (by kernel_rfl)) (fun _ _ _ h => h) (Or.inl ⟨by rfl, ?_⟩) hHeld ?_ ?_
    rotate_left
    ·rintro w' ⟨s0, s1, s2, s3, s4, s5, s6, s7⟩
     go_simp
     with_reducible rfl
    (rotate_left; · (simp only [Act.put, List.setIfInBounds_toArray, List.set_cons_zero, List.set_cons_succ, i64_w, i32_w]; rfl))
    refine one_ (i := 10) (N := some 13) #[true, true, true, true, true, true, true, true, true, true, true, false, true, true, false, false, true, true, false, false, true, true, false, false, false] rfl rfl (one_of HT_.out (by kernel_rfl)) (by decide) (fun K hK => ?_)
    refine Kd.R_lit_step (Kd.int .i64) _ 3 ?hg (N := 13) ?hd (xs := ([a0_0, a0_1, a0_2, a0_3, a0_4] : List Int)) (inner := [.int .i64 a0_0, .int .i64 a0_1, .int .i64 a0_2, .int .i64 a0_3, .int .i64 a0_4]) (ok := fun _ => True) (okp := fun _ => True) ?hr ?hp (fun _ hk => hk) trivial (Below.refl _ _) (Nat.le_refl _) (by simp) ?_; (case hd => rfl); (case hg => rfl); (case hr => first | (go_simp; done) | (go_simp; rfl)); (case hp => exact (Reps.one (show Kd.M (Kd.int .i64) _ _ _ a0_0 [.int .i64 a0_0] from rfl) (Reps.one (show Kd.M (Kd.int .i64) _ _ _ a0_1 [.int .i64 a0_1] from rfl) (Reps.one (show Kd.M (Kd.int .i64) _ _ _ a0_2 [.int .i64 a0_2] from rfl) (Reps.one (show Kd.M (Kd.int .i64) _ _ _ a0_3 [.int .i64 a0_3] from rfl) (Reps.one (show Kd.M (Kd.int .i64) _ _ _ a0_4 [.int .i64 a0_4] from rfl) (Reps.none _ _)))))))
    intro v103 w11 ho12 hb hg_ hnew_
    clear hg_ hnew_
    (first | rw [← Ny102.out] at ho12 | (simp only [Int.reduceToNat] at ho12; rw [← Ny102.out] at ho12))
    have n0_ := Aside0.mk (Kd.R_lower ho12 (below_size (by repeat (first | (with_reducible first | exact HB.out | apply below_alloc | apply pw_below_drewN | apply below_drew1 | refine below_set ?_ GE101.out) | exact HB.out))))
    have n1_ := Aside0.mk (blk_below (g := gb101) (o := .cells #[.int .i64 a0_0, .int .i64 a0_1, .int .i64 a0_2, .int .i64 a0_3, .int .i64 a0_4, .string a0_5, .string a0_6, .string a0_7] 23 (0, 0)) (by (with_reducible repeat (first | refine blk_drewN ?_ _ | refine blk_drew ?_ | refine blk_alloc ?_ _)); exact BK101.out) hb)
    have n2_ := Aside0.mk (below_step (by repeat (first | (with_reducible first | exact HB.out | apply below_alloc | apply pw_below_drewN | apply below_drew1 | refine below_set ?_ GE101.out) | exact HB.out)) hb)
    (clear BK101; clear HB; have HO104 := n0_; have BK101 := n1_; have HB := n2_; clear n0_ n1_ n2_; clear hb ho12)
    obtain ⟨Ao13, co13, eo13⟩ := Kd.R_slice HO104.out
    (first | subst eo13 | (injection eo13 with f1_ f2_ f3_; have f4_ := f1_.symm; have f5_ := f3_.symm; clear f1_ f2_ f3_; subst f4_; subst f5_))
    refine hK.out _ _ ⟨(blk_cell BK101.out 0).trans rfl, (blk_cell BK101.out 1).trans rfl, (blk_cell BK101.out 2).trans rfl, (blk_cell BK101.out 3).trans rfl, (blk_cell BK101.out 4).trans rfl, (blk_cell BK101.out 5).trans rfl, (blk_cell BK101.out 6).trans rfl, (blk_cell BK101.out 7).trans rfl⟩ (fun hHeld => ?_)
    clear hK K
    refine norm_ (a' := ?_) ?_ ?_
    rotate_left
    ·show Act.put _ (some 13) _ = _
     simp only [Act.put, List.setIfInBounds_toArray, List.set_cons_zero, List.set_cons_succ, i64_w, i32_w]
     rfl
    refine one_ (i := 11) (N := some 14) #[true, true, true, true, true, true, true, true, true, true, true, true, true, true, false, false, true, true, false, false, true, true, false, false, false] rfl rfl (one_of HT_.out (by kernel_rfl)) (by decide) (fun K hK => ?_)
    refine goes_ Try.func27 (by kernel_rfl) rfl #[.slice Ao13 y102.length co13] (by rfl) rfl rfl (by (try simp only [List.map_toArray, List.map_cons, List.map_nil]); first | done | rfl | (simp only [List.length_drop, List.length_take]; rfl)) ?_
    with_reducible refine (wire_nums.calls _ _ y102 t105 _ ?side1 ?side2 A2.out).mono ?_
    (case side1 => repeat (first | exact (Kd.R_reads' HO104.out).2.2 | (with_reducible refine Kd.C_alloc ?_ _) | (with_reducible refine Kd.C_drewN ?_ _) | (with_reducible refine Kd.C_drew ?_)))
    (case side2 => exact (Kd.R_reads' HO104.out).2.1)
    rintro e w14 ⟨rfl, hb⟩
    refine ⟨_, rfl, ?_⟩
    have n0_ := Aside0.mk (Kd.R_below (by (with_reducible repeat (first | apply Kd.R_alloc | apply Kd.R_drewN | apply Kd.R_drew)); exact HO104.out) hb)
    have n1_ := Aside0.mk (blk_below (g := gb101) (o := .cells #[.int .i64 a0_0, .int .i64 a0_1, .int .i64 a0_2, .int .i64 a0_3, .int .i64 a0_4, .string a0_5, .string a0_6, .string a0_7] 23 (0, 0)) (by (with_reducible repeat (first | refine blk_drewN ?_ _ | refine blk_drew ?_ | refine blk_alloc ?_ _)); exact BK101.out) hb)
    have n2_ := Aside0.mk (below_step (by repeat (first | (with_reducible first | exact HB.out | apply below_alloc | apply pw_below_drewN | apply below_drew1 | refine below_set ?_ GE101.out) | exact HB.out)) hb)
    (clear HO104; clear BK101; clear HB; have HO104 := n0_; have BK101 := n1_; have HB := n2_; clear n0_ n1_ n2_; (try clear hb); (try clear hb2); (try clear hk); (try clear hi))
    refine hK.out _ _ ⟨(blk_cell BK101.out 0).trans rfl, (blk_cell BK101.out 1).trans rfl, (blk_cell BK101.out 2).trans rfl, (blk_cell BK101.out 3).trans rfl, (blk_cell BK101.out 4).trans rfl, (blk_cell BK101.out 5).trans rfl, (blk_cell BK101.out 6).trans rfl, (blk_cell BK101.out 7).trans rfl⟩ (fun hHeld => ?_)
    clear hK K
    refine norm_ (a' := ?_) ?_ ?_
    rotate_left
    ·show Act.put _ (some 14) _ = _
     simp only [Act.put, List.setIfInBounds_toArray, List.set_cons_zero, List.set_cons_succ, i64_w, i32_w]
     rfl
    refine one_ (i := 14) (N := some 17) #[true, true, true, true, true, true, true, true, true, true, true, true, true, true, true, false, true, true, false, false, true, true, false, false, false] rfl rfl (one_of HT_.out (by kernel_rfl)) (by decide) (fun K hK => ?_)
    refine goes_ Try.func28 (by kernel_rfl) rfl #[.string a0_5] (by rfl) rfl rfl (by (try simp only [List.map_toArray, List.map_cons, List.map_nil]); first | done | rfl | (simp only [List.length_drop, List.length_take]; rfl)) ?_
    with_reducible refine (octet_Text.calls a0_5 t106 _ A3.out).mono ?_
    rintro e w15 ⟨rfl, hb⟩
    refine ⟨_, rfl, ?_⟩
    have n0_ := Aside0.mk (Kd.R_below (by (with_reducible repeat (first | apply Kd.R_alloc | apply Kd.R_drewN | apply Kd.R_drew)); exact HO104.out) hb)
    have n1_ := Aside0.mk (blk_below (g := gb101) (o := .cells #[.int .i64 a0_0, .int .i64 a0_1, .int .i64 a0_2, .int .i64 a0_3, .int .i64 a0_4, .string a0_5, .string a0_6, .string a0_7] 23 (0, 0)) (by (with_reducible repeat (first | refine blk_drewN ?_ _ | refine blk_drew ?_ | refine blk_alloc ?_ _)); exact BK101.out) hb)
    have n2_ := Aside0.mk (below_step (by repeat (first | (with_reducible first | exact HB.out | apply below_alloc | apply pw_below_drewN | apply below_drew1 | refine below_set ?_ GE101.out) | exact HB.out)) hb)
    (clear HO104; clear BK101; clear HB; have HO104 := n0_; have BK101 := n1_; have HB := n2_; clear n0_ n1_ n2_; (try clear hb); (try clear hb2); (try clear hk); (try clear hi))
    refine hK.out _ _ ⟨(blk_cell BK101.out 0).trans rfl, (blk_cell BK101.out 1).trans rfl, (blk_cell BK101.out 2).trans rfl, (blk_cell BK101.out 3).trans rfl, (blk_cell BK101.out 4).trans rfl, (blk_cell BK101.out 5).trans rfl, (blk_cell BK101.out 6).trans rfl, (blk_cell BK101.out 7).trans rfl⟩ (fun hHeld => ?_)
    clear hK K
    refine norm_ (a' := ?_) ?_ ?_
    rotate_left
    ·show Act.put _ (some 17) _ = _
     simp only [Act.put, List.setIfInBounds_toArray, List.set_cons_zero, List.set_cons_succ, i64_w, i32_w]
     rfl
    refine pure_ (i := 15) (N := some 18) (v := ?_) (a' := ?_) #[true, true, true, true, true, true, true, true, true, true, true, true, true, true, true, true, true, true, false, false, true, true, false, false, false] rfl rfl (any_of HT_.out (by kernel_rfl)) (fun _ _ _ h => h) (Or.inl ⟨by rfl, ?_⟩) ?_ ?_
    (rotate_left; · (intro w'; go_simp; with_reducible rfl))
    (rotate_left; · (simp only [Act.put, List.setIfInBounds_toArray, List.set_cons_zero, List.set_cons_succ, i64_w, i32_w]; rfl))
    refine one_ (i := 18) (N := some 21) #[true, true, true, true, true, true, true, true, true, true, true, true, true, true, true, true, true, true, true, false, true, true, false, false, false] rfl rfl (one_of HT_.out (by kernel_rfl)) (by decide) (fun K hK => ?_)
    refine goes_ Try.func28 (by kernel_rfl) rfl #[.string a0_6] (by rfl) rfl rfl (by (try simp only [List.map_toArray, List.map_cons, List.map_nil]); first | done | rfl | (simp only [List.length_drop, List.length_take]; rfl)) ?_
    with_reducible refine (octet_Text.calls a0_6 t107 _ A5.out).mono ?_
    rintro e w16 ⟨rfl, hb⟩
    refine ⟨_, rfl, ?_⟩
    have n0_ := Aside0.mk (Kd.R_below (by (with_reducible repeat (first | apply Kd.R_alloc | apply Kd.R_drewN | apply Kd.R_drew)); exact HO104.out) hb)
    have n1_ := Aside0.mk (blk_below (g := gb101) (o := .cells #[.int .i64 a0_0, .int .i64 a0_1, .int .i64 a0_2, .int .i64 a0_3, .int .i64 a0_4, .string a0_5, .string a0_6, .string a0_7] 23 (0, 0)) (by (with_reducible repeat (first | refine blk_drewN ?_ _ | refine blk_drew ?_ | refine blk_alloc ?_ _)); exact BK101.out) hb)
    have n2_ := Aside0.mk (below_step (by repeat (first | (with_reducible first | exact HB.out | apply below_alloc | apply pw_below_drewN | apply below_drew1 | refine below_set ?_ GE101.out) | exact HB.out)) hb)
    (clear HO104; clear BK101; clear HB; have HO104 := n0_; have BK101 := n1_; have HB := n2_; clear n0_ n1_ n2_; (try clear hb); (try clear hb2); (try clear hk); (try clear hi))
    refine hK.out _ _ ⟨(blk_cell BK101.out 0).trans rfl, (blk_cell BK101.out 1).trans rfl, (blk_cell BK101.out 2).trans rfl, (blk_cell BK101.out 3).trans rfl, (blk_cell BK101.out 4).trans rfl, (blk_cell BK101.out 5).trans rfl, (blk_cell BK101.out 6).trans rfl, (blk_cell BK101.out 7).trans rfl⟩ (fun hHeld => ?_)
    clear hK K
    refine norm_ (a' := ?_) ?_ ?_
    rotate_left
    ·show Act.put _ (some 21) _ = _
     simp only [Act.put, List.setIfInBounds_toArray, List.set_cons_zero, List.set_cons_succ, i64_w, i32_w]
     rfl
    refine pure_ (i := 19) (N := some 22) (v := ?_) (a' := ?_) #[true, true, true, true, true, true, true, true, true, true, true, true, true, true, true, true, true, true, true, true, true, true, false, false, false] rfl rfl (any_of HT_.out (by kernel_rfl)) (fun _ _ _ h => h) (Or.inl ⟨by rfl, ?_⟩) ?_ ?_
    (rotate_left; · (intro w'; go_simp; with_reducible rfl))
    (rotate_left; · (simp only [Act.put, List.setIfInBounds_toArray, List.set_cons_zero, List.set_cons_succ, i64_w, i32_w]; rfl))
    refine one_ (i := 22) (N := some 25) #[true, true, true, true, true, true, true, true, true, true, true, true, true, true, true, true, true, true, true, true, true, true, true, false, false] rfl rfl (one_of HT_.out (by kernel_rfl)) (by decide) (fun K hK => ?_)
    refine goes_ Try.func28 (by kernel_rfl) rfl #[.string a0_7] (by rfl) rfl rfl (by (try simp only [List.map_toArray, List.map_cons, List.map_nil]); first | done | rfl | (simp only [List.length_drop, List.length_take]; rfl)) ?_
    with_reducible refine (octet_Text.calls a0_7 t108 _ A7.out).mono ?_
    rintro e w17 ⟨rfl, hb⟩
    refine ⟨_, rfl, ?_⟩
    have n0_ := Aside0.mk (Kd.R_below (by (with_reducible repeat (first | apply Kd.R_alloc | apply Kd.R_drewN | apply Kd.R_drew)); exact HO104.out) hb)
    have n1_ := Aside0.mk (blk_below (g := gb101) (o := .cells #[.int .i64 a0_0, .int .i64 a0_1, .int .i64 a0_2, .int .i64 a0_3, .int .i64 a0_4, .string a0_5, .string a0_6, .string a0_7] 23 (0, 0)) (by (with_reducible repeat (first | refine blk_drewN ?_ _ | refine blk_drew ?_ | refine blk_alloc ?_ _)); exact BK101.out) hb)
    have n2_ := Aside0.mk (below_step (by repeat (first | (with_reducible first | exact HB.out | apply below_alloc | apply pw_below_drewN | apply below_drew1 | refine below_set ?_ GE101.out) | exact HB.out)) hb)
    (clear HO104; clear BK101; clear HB; have HO104 := n0_; have BK101 := n1_; have HB := n2_; clear n0_ n1_ n2_; (try clear hb); (try clear hb2); (try clear hk); (try clear hi))
    refine hK.out _ _ ⟨(blk_cell BK101.out 0).trans rfl, (blk_cell BK101.out 1).trans rfl, (blk_cell BK101.out 2).trans rfl, (blk_cell BK101.out 3).trans rfl, (blk_cell BK101.out 4).trans rfl, (blk_cell BK101.out 5).trans rfl, (blk_cell BK101.out 6).trans rfl, (blk_cell BK101.out 7).trans rfl⟩ (fun hHeld => ?_)
    clear hK K
    refine norm_ (a' := ?_) ?_ ?_
    rotate_left
    ·show Act.put _ (some 25) _ = _
     simp only [Act.put, List.setIfInBounds_toArray, List.set_cons_zero, List.set_cons_succ, i64_w, i32_w]
     rfl
    refine pure_ (i := 23) (N := some 26) (v := ?_) (a' := ?_) #[true, true, true, true, true, true, true, true, true, true, true, true, true, true, true, true, true, true, true, true, true, true, true, true, false] rfl rfl (any_of HT_.out (by kernel_rfl)) (fun _ _ _ h => h) (Or.inl ⟨by rfl, ?_⟩) ?_ ?_
    (rotate_left; · (intro w'; go_simp; with_reducible rfl))
    (rotate_left; · (simp only [Act.put, List.setIfInBounds_toArray, List.set_cons_zero, List.set_cons_succ, i64_w, i32_w]; rfl))
    refine pure_ (i := 24) (N := some 2) (v := ?_) (a' := ?_) #[true, true, true, true, true, true, true, true, true, true, true, true, true, true, true, true, true, true, true, true, true, true, true, true, true] rfl rfl (any_of HT_.out (by kernel_rfl)) (fun _ _ _ h => h) (Or.inl ⟨by rfl, ?_⟩) ?_ ?_
    (rotate_left; · (intro w'; go_simp; with_reducible rfl))
    (rotate_left; · (simp only [Act.put, List.setIfInBounds_toArray, List.set_cons_zero, List.set_cons_succ, i64_w, i32_w]; rfl))
    refine done_ (done_of HT_.out (by kernel_rfl)) ?_
    try go_wp2
    go_ret
    exact ⟨by first | rfl | (simp [errW_none, errW_some] <;> rfl) | (simp [*, errW_none, errW_some] <;> rfl), by repeat (first | (with_reducible first | exact HB.out | apply below_alloc | apply pw_below_drewN | apply below_drew1 | refine below_set ?_ GE101.out) | exact HB.out)⟩
   ·rw [if_neg c8] at H
    exact absurd H (by simp)
  ·rw [if_neg c6] at H
   exact absurd H (by simp)
 ·rw [if_neg c4] at H
  exact absurd H (by simp)

-- GIVEN: function 31 (seal_Put): its Lean function and its contract stand in a text of this session's

/-! ### wire_Msg: function 15 -/
def wire_Msg.f (a0_0 : Int) (a0_1 : Int) (a0_2 : Int) (a0_3 : Int) (a0_4 : Int) (a0_5 : Int) (a0_6 : Int) (a0_7 : Int) (a0_8 : Int) (a0_9 : Int) (a0_10 : Int) (a0_11 : ByteArray) (a0_12 : ByteArray) (a0_13 : ByteArray) : Option (ByteArray) := (wire_nums.f (([a0_0, a0_1, a0_2, a0_3, a0_4, a0_5] : List Int))).bind fun t113 => (if 1 + t113.size ≤ 9223372036854775807 then ((wire_Call.f a0_6 a0_7 a0_8 a0_9 a0_10 a0_11 a0_12 a0_13).bind fun t114 => (if ((⟨#[109]⟩ : ByteArray) ++ t113).size + t114.size ≤ 9223372036854775807 then ((seal_Put.f (((⟨#[109]⟩ : ByteArray) ++ t113) ++ t114)).bind fun t115 => (some t115)) else (none))) else (none))
def wire_Msg.T1 : Bool × List (List Nat × List Nat) := (true, [([], []), ([0], [0]), ([], []), ([2], [2]), ([], []), ([4], [4]), ([], []), ([6], [6]), ([], []), ([8], [8]), ([], []), ([10], [10]), ([1, 3, 5, 7, 9, 11], [1, 3, 5, 7, 9, 11]), ([12], [12]), ([13], [13]), ([], []), ([15], [15]), ([16, 13], [16]), ([14, 17], [14, 17]), ([18, 17], [18]), ([19, 19, 0, 1, 2, 3, 4, 5, 6, 7, 8, 9, 10, 11, 12, 13, 14, 15, 16, 17, 18, 19], [19])])
def wire_Msg.B1 : List Nat := [0, 1, 0, 4, 0, 16, 0, 64, 0, 256, 0, 1024, 4095, 8191, 16383, 0, 32768, 114687, 262143, 524287, 1048575]
theorem wire_Msg.tab1 : rtab .any (opsOf Try.f15 1) = wire_Msg.T1 := by kernel_rfl
theorem wire_Msg.bits1 : waitsOk wire_Msg.T1.2 wire_Msg.B1 = true := by kernel_rfl
set_option maxHeartbeats 8000000 in
set_option maxRecDepth 100000 in
theorem wire_Msg.calls (a0_0 : Int) (a0_1 : Int) (a0_2 : Int) (a0_3 : Int) (a0_4 : Int) (a0_5 : Int) (a0_6 : Int) (a0_7 : Int) (a0_8 : Int) (a0_9 : Int) (a0_10 : Int) (a0_11 : ByteArray) (a0_12 : ByteArray) (a0_13 : ByteArray) (r : ByteArray) (w : World) (h : wire_Msg.f a0_0 a0_1 a0_2 a0_3 a0_4 a0_5 a0_6 a0_7 a0_8 a0_9 a0_10 a0_11 a0_12 a0_13 = some r) :
  Calls Try.prog 15 #[.agg #[.int .i64 a0_0, .int .i64 a0_1, .int .i64 a0_2, .int .i64 a0_3, .int .i64 a0_4, .int .i64 a0_5, .int .i64 a0_6, .int .i64 a0_7, .int .i64 a0_8, .int .i64 a0_9, .int .i64 a0_10, .string a0_11, .string a0_12, .string a0_13]] w fun e w' => e = .returned (.string r) ∧ Below w.heap.size w w' := by
 have hu32 := Try.underlying32
 have hu23 := Try.underlying23
 have HB := Aside0.mk (Below.refl w.heap.size w)
 have H : ((wire_nums.f (([a0_0, a0_1, a0_2, a0_3, a0_4, a0_5] : List Int))).bind fun t113 => (if 1 + t113.size ≤ 9223372036854775807 then ((wire_Call.f a0_6 a0_7 a0_8 a0_9 a0_10 a0_11 a0_12 a0_13).bind fun t114 => (if ((⟨#[109]⟩ : ByteArray) ++ t113).size + t114.size ≤ 9223372036854775807 then ((seal_Put.f (((⟨#[109]⟩ : ByteArray) ++ t113) ++ t114)).bind fun t115 => (some t115)) else (none))) else (none))) = some r := h
 clear h
 obtain ⟨y110, hy110⟩ : ∃ y_ : List Int, y_ = (([a0_0, a0_1, a0_2, a0_3, a0_4, a0_5] : List Int)) := ⟨_, rfl⟩
 replace H : ((wire_nums.f y110).bind fun t113 => (if 1 + t113.size ≤ 9223372036854775807 then ((wire_Call.f a0_6 a0_7 a0_8 a0_9 a0_10 a0_11 a0_12 a0_13).bind fun t114 => (if ((⟨#[109]⟩ : ByteArray) ++ t113).size + t114.size ≤ 9223372036854775807 then ((seal_Put.f (((⟨#[109]⟩ : ByteArray) ++ t113) ++ t114)).bind fun t115 => (some t115)) else (none))) else (none))) = some r := by first | (rw [hy110]; with_reducible exact H) | (have H2_ := (Option.bind_some _ _).symm.trans H; rw [hy110]; with_reducible exact H2_) | (have H2_ := (Option.bind_some _ _).symm.trans H; with_reducible exact H2_) | with_reducible exact H | (rw [hy110]; exact H) | exact H
 have Ny110 := Aside0.mk hy110
 clear hy110
 replace H := Option.bind_eq_some_iff.mp H
 obtain ⟨t113, A20, H⟩ := H
 replace H : (if 1 + t113.size ≤ 9223372036854775807 then ((wire_Call.f a0_6 a0_7 a0_8 a0_9 a0_10 a0_11 a0_12 a0_13).bind fun t114 => (if ((⟨#[109]⟩ : ByteArray) ++ t113).size + t114.size ≤ 9223372036854775807 then ((seal_Put.f (((⟨#[109]⟩ : ByteArray) ++ t113) ++ t114)).bind fun t115 => (some t115)) else (none))) else (none)) = some r := H
 have A2 := Aside0.mk A20
 clear A20
 by_cases c3 : 1 + t113.size ≤ 9223372036854775807
 ·rw [if_pos c3] at H
  have c3b0 := eq_true c3
  have c3b1 : decide (1 + t113.size ≤ 9223372036854775807) = true := decide_eq_true c3
  try have c3b2 : (9223372036854775807 < 1 + t113.size) = False := eq_false (Nat.not_lt.2 c3)
  replace H := Option.bind_eq_some_iff.mp H
  obtain ⟨t114, A40, H⟩ := H
  replace H : (if ((⟨#[109]⟩ : ByteArray) ++ t113).size + t114.size ≤ 9223372036854775807 then ((seal_Put.f (((⟨#[109]⟩ : ByteArray) ++ t113) ++ t114)).bind fun t115 => (some t115)) else (none)) = some r := H
  have A4 := Aside0.mk A40
  clear A40
  by_cases c5 : ((⟨#[109]⟩ : ByteArray) ++ t113).size + t114.size ≤ 9223372036854775807
  ·rw [if_pos c5] at H
   have c5b0 := eq_true c5
   have c5b1 : decide (((⟨#[109]⟩ : ByteArray) ++ t113).size + t114.size ≤ 9223372036854775807) = true := decide_eq_true c5
   try have c5b2 : (9223372036854775807 < ((⟨#[109]⟩ : ByteArray) ++ t113).size + t114.size) = False := eq_false (Nat.not_lt.2 c5)
   try have c5b2_ : (9223372036854775807 < 1 + t113.size + t114.size) = False := (by have h_ := c5b2; simp only [ByteArray.size_append] at h_; exact h_)
   replace H := Option.bind_eq_some_iff.mp H
   obtain ⟨t115, A60, H⟩ := H
   replace H : (some t115) = some r := H
   have A6 := Aside0.mk A60
   clear A60
   obtain rfl := Option.some.inj H
   go_enter Try.func15, Try.ntmps15
   try go_wp2_with (first | ((with_reducible refine gate_dst (N := 1) rfl ?_); refine box_event ?hg (N := 1) ?hd (cs := #[.int .i64 a0_0, .int .i64 a0_1, .int .i64 a0_2, .int .i64 a0_3, .int .i64 a0_4, .int .i64 a0_5, .int .i64 a0_6, .int .i64 a0_7, .int .i64 a0_8, .int .i64 a0_9, .int .i64 a0_10, .string a0_11, .string a0_12, .string a0_13]) (t := 32) ?hr ?_; (case hd => rfl); (case hg => rfl); (case hr => first | (go_simp; done) | (go_simp; rfl)); intro gb109 hg w7 hbox hb; have n0_ := Aside0.mk (below_step (by repeat (first | (with_reducible first | exact HB.out | apply below_alloc | apply pw_below_drewN | apply below_drew1) | exact HB.out)) hb); have n1_ := Aside0.mk (hbox); have n2_ := Aside0.mk ((by rw [hg]; exact (below_size (by repeat (first | (with_reducible first | exact HB.out | apply below_alloc | apply pw_below_drewN | apply below_drew1) | exact HB.out))) : w.heap.size ≤ gb109)); have n3_ := Aside0.mk ((by rw [hg]; exact (below_size (by repeat (first | (with_reducible first | exact HB.out | apply below_alloc | apply pw_below_drewN | apply below_drew1) | exact HB.out))) : w.heap.size ≤ gb109)); clear HB; have HB := n0_; have BK109 := n1_; have GW109 := n2_; have GE109 := n3_; clear n0_ n1_ n2_ n3_; clear hb hbox hg))
   have n0_ := Aside0.mk (blk_drew BK109.out)
   have n1_ := Aside0.mk (below_drew1 HB.out)
   (clear BK109; clear HB; have BK109 := n0_; have HB := n1_; clear n0_ n1_)
   refine start_ (n := 21) (S := fun w' => w'.cell? ⟨gb109, 0, none⟩ = some (.int .i64 a0_0) ∧ w'.cell? ⟨gb109, 1, none⟩ = some (.int .i64 a0_1) ∧ w'.cell? ⟨gb109, 2, none⟩ = some (.int .i64 a0_2) ∧ w'.cell? ⟨gb109, 3, none⟩ = some (.int .i64 a0_3) ∧ w'.cell? ⟨gb109, 4, none⟩ = some (.int .i64 a0_4) ∧ w'.cell? ⟨gb109, 5, none⟩ = some (.int .i64 a0_5) ∧ w'.cell? ⟨gb109, 6, none⟩ = some (.int .i64 a0_6) ∧ w'.cell? ⟨gb109, 7, none⟩ = some (.int .i64 a0_7) ∧ w'.cell? ⟨gb109, 8, none⟩ = some (.int .i64 a0_8) ∧ w'.cell? ⟨gb109, 9, none⟩ = some (.int .i64 a0_9) ∧ w'.cell? ⟨gb109, 10, none⟩ = some (.int .i64 a0_10) ∧ w'.cell? ⟨gb109, 11, none⟩ = some (.string a0_11) ∧ w'.cell? ⟨gb109, 12, none⟩ = some (.string a0_12) ∧ w'.cell? ⟨gb109, 13, none⟩ = some (.string a0_13)) (ds := []) #[false, false, false, false, false, false, false, false, false, false, false, false, false, false, false, false, false, false, false, false, false] (by kernel_rfl) rfl rfl ⟨(blk_cell BK109.out 0).trans rfl, (blk_cell BK109.out 1).trans rfl, (blk_cell BK109.out 2).trans rfl, (blk_cell BK109.out 3).trans rfl, (blk_cell BK109.out 4).trans rfl, (blk_cell BK109.out 5).trans rfl, (blk_cell BK109.out 6).trans rfl, (blk_cell BK109.out 7).trans rfl, (blk_cell BK109.out 8).trans rfl, (blk_cell BK109.out 9).trans rfl, (blk_cell BK109.out 10).trans rfl, (blk_cell BK109.out 11).trans rfl, (blk_cell BK109.out 12).trans rfl, (blk_cell BK109.out 13).trans rfl⟩ (fun hHeld => ?_); refine with_tabW wire_Msg.tab1 wire_Msg.bits1 (fun HT_ HW_ => ?_)
   generalize w7.drew = w8 at BK109 HB hHeld ⊢
   refine pure_ (i := 0) (N := some 3) (v := ?_) (a' := ?_) #[true, false, false, false, false, false, false, false, false, false, false, false, false, false, false, false, false, false, false, false, false] rfl rfl (any_of HT_.out (by kernel_rfl)) (fun _ _ _ h => h) (Or.inl ⟨by rfl, ?_⟩) ?_ ?_
   (rotate_left; · (intro w'; go_simp; with_reducible rfl))
   (rotate_left; · (simp only [Act.put, List.setIfInBounds_toArray, List.set_cons_zero, List.set_cons_succ, i64_w, i32_w]; rfl))
   refine pure_ (i := 2) (N := some 5) (v := ?_) (a' := ?_) #[true, false, true, false, false, false, false, false, false, false, false, false, false, false, false, false, false, false, false, false, false] rfl rfl (any_of HT_.out (by kernel_rfl)) (fun _ _ _ h => h) (Or.inl ⟨by rfl, ?_⟩) ?_ ?_
   (rotate_left; · (intro w'; go_simp; with_reducible rfl))
   (rotate_left; · (simp only [Act.put, List.setIfInBounds_toArray, List.set_cons_zero, List.set_cons_succ, i64_w, i32_w]; rfl))
   refine pure_ (i := 4) (N := some 7) (v := ?_) (a' := ?_) #[true, false, true, false, true, false, false, false, false, false, false, false, false, false, false, false, false, false, false, false, false] rfl rfl (any_of HT_.out (by kernel_rfl)) (fun _ _ _ h => h) (Or.inl ⟨by rfl, ?_⟩) ?_ ?_
   (rotate_left; · (intro w'; go_simp; with_reducible rfl))
   (rotate_left; · (simp only [Act.put, List.setIfInBounds_toArray, List.set_cons_zero, List.set_cons_succ, i64_w, i32_w]; rfl))
   refine pure_ (i := 6) (N := some 9) (v := ?_) (a' := ?_) #[true, false, true, false, true, false, true, false, false, false, false, false, false, false, false, false, false, false, false, false, false] rfl rfl (any_of HT_.out (by kernel_rfl)) (fun _ _ _ h => h) (Or.inl ⟨by rfl, ?_⟩) ?_ ?_
   (rotate_left; · (intro w'; go_simp; with_reducible rfl))
   (rotate_left; · (simp only [Act.put, List.setIfInBounds_toArray, List.set_cons_zero, List.set_cons_succ, i64_w, i32_w]; rfl))
   refine pure_ (i := 8) (N := some 11) (v := ?_) (a' := ?_) #[true, false, true, false, true, false, true, false, true, false, false, false, false, false, false, false, false, false, false, false, false] rfl rfl (any_of HT_.out (by kernel_rfl)) (fun _ _ _ h => h) (Or.inl ⟨by rfl, ?_⟩) ?_ ?_
   (rotate_left; · (intro w'; go_simp; with_reducible rfl))
   (rotate_left; · (simp only [Act.put, List.setIfInBounds_toArray, List.set_cons_zero, List.set_cons_succ, i64_w, i32_w]; rfl))
   refine pure_ (i := 10) (N := some 13) (v := ?_) (a' := ?_) #[true, false, true, false, true, false, true, false, true, false, true, false, false, false, false, false, false, false, false, false, false] rfl rfl (any_of HT_.out (by kernel_rfl)) (fun _ _ _ h => h) (Or.inl ⟨by rfl, ?_⟩) ?_ ?_
   (rotate_left; · (intro w'; go_simp; with_reducible rfl))
   (rotate_left; · (simp only [Act.put, List.setIfInBounds_toArray, List.set_cons_zero, List.set_cons_succ, i64_w, i32_w]; rfl))
   refine pure_ (i := 15) (N := some 18) (v := ?_) (a' := ?_) #[true, false, true, false, true, false, true, false, true, false, true, false, false, false, false, true, false, false, false, false, false] rfl rfl (any_of HT_.out (by kernel_rfl)) (fun _ _ _ h => h) (Or.inl ⟨by rfl, ?_⟩) ?_ ?_
   (rotate_left; · (intro w'; go_simp; with_reducible rfl))
   (rotate_left; · (simp only [Act.put, List.setIfInBounds_toArray, List.set_cons_zero, List.set_cons_succ, i64_w, i32_w]; rfl))
   refine take_ (i := 1) (N := some 4) (v := ?_) (a' := ?_) #[true, true, true, false, true, false, true, false, true, false, true, false, false, false, false, true, false, false, false, false, false] rfl rfl (take_ofW HT_.out HW_.out (by kernel_rfl)) (fun _ _ _ h => h) (Or.inl ⟨by rfl, ?_⟩) hHeld ?_ ?_
   rotate_left
   ·rintro w' ⟨s0, s1, s2, s3, s4, s5, s6, s7, s8, s9, s10, s11, s12, s13⟩
    go_simp
    with_reducible rfl
   (rotate_left; · (simp only [Act.put, List.setIfInBounds_toArray, List.set_cons_zero, List.set_cons_succ, i64_w, i32_w]; rfl))
   refine take_ (i := 3) (N := some 6) (v := ?_) (a' := ?_) #[true, true, true, true, true, false, true, false, true, false, true, false, false, false, false, true, false, false, false, false, false] rfl rfl (take_ofW HT_.out HW_.out (by kernel_rfl)) (fun _ _ _ h => h) (Or.inl ⟨by rfl, ?_⟩) hHeld ?_ ?_
   rotate_left
   ·rintro w' ⟨s0, s1, s2, s3, s4, s5, s6, s7, s8, s9, s10, s11, s12, s13⟩
    go_simp
    with_reducible rfl
   (rotate_left; · (simp only [Act.put, List.setIfInBounds_toArray, List.set_cons_zero, List.set_cons_succ, i64_w, i32_w]; rfl))
   refine take_ (i := 5) (N := some 8) (v := ?_) (a' := ?_) #[true, true, true, true, true, true, true, false, true, false, true, false, false, false, false, true, false, false, false, false, false] rfl rfl (take_ofW HT_.out HW_.out (by kernel_rfl)) (fun _ _ _ h => h) (Or.inl ⟨by rfl, ?_⟩) hHeld ?_ ?_
   rotate_left
   ·rintro w' ⟨s0, s1, s2, s3, s4, s5, s6, s7, s8, s9, s10, s11, s12, s13⟩
    go_simp
    with_reducible rfl
   (rotate_left; · (simp only [Act.put, List.setIfInBounds_toArray, List.set_cons_zero, List.set_cons_succ, i64_w, i32_w]; rfl))
   refine take_ (i := 7) (N := some 10) (v := ?_) (a' := ?_) #[true, true, true, true, true, true, true, true, true, false, true, false, false, false, false, true, false, false, false, false, false] rfl rfl (take_ofW HT_.out HW_.out (by kernel_rfl)) (fun _ _ _ h => h) (Or.inl ⟨by rfl, ?_⟩) hHeld ?_ ?_
   rotate_left
   ·rintro w' ⟨s0, s1, s2, s3, s4, s5, s6, s7, s8, s9, s10, s11, s12, s13⟩
    go_simp
    with_reducible rfl
   (rotate_left; · (simp only [Act.put, List.setIfInBounds_toArray, List.set_cons_zero, List.set_cons_succ, i64_w, i32_w]; rfl))
   refine take_ (i := 9) (N := some 12) (v := ?_) (a' := ?_) #[true, true, true, true, true, true, true, true, true, true, true, false, false, false, false, true, false, false, false, false, false] rfl rfl (take_ofW HT_.out HW_.out (by kernel_rfl)) (fun _ _ _ h => h) (Or.inl ⟨by rfl, ?_⟩) hHeld ?_ ?_
   rotate_left
   ·rintro w' ⟨s0, s1, s2, s3, s4, s5, s6, s7, s8, s9, s10, s11, s12, s13⟩
    go_simp
    with_reducible rfl
   (rotate_left; · (simp only [Act.put, List.setIfInBounds_toArray, List.set_cons_zero, List.set_cons_succ, i64_w, i32_w]; rfl))
   refine take_ (i := 11) (N := some 14) (v := ?_) (a' := ?_) #[true, true, true, true, true, true, true, true, true, true, true, true, false, false, false, true, false, false, false, false, false] rfl rfl (take_ofW HT_.out HW_.out (by kernel_rfl)) (fun _ _ _ h => h) (Or.inl ⟨by rfl, ?_⟩) hHeld ?_ ?_
   rotate_left
   ·rintro w' ⟨s0, s1, s2, s3, s4, s5, s6, s7, s8, s9, s10, s11, s12, s13⟩
    go_simp
    with_reducible rfl
   (rotate_left; · (simp only [Act.put, List.setIfInBounds_toArray, List.set_cons_zero, List.set_cons_succ, i64_w, i32_w]; rfl))
   refine take_ (i := 16) (N := some 19) (v := ?_) (a' := ?_) #[true, true, true, true, true, true, true, true, true, true, true, true, false, false, false, true, true, false, false, false, false] rfl rfl (take_ofW HT_.out HW_.out (by kernel_rfl)) (fun _ _ _ h => h) (Or.inl ⟨by rfl, ?_⟩) hHeld ?_ ?_
   rotate_left
   ·rintro w' ⟨s0, s1, s2, s3, s4, s5, s6, s7, s8, s9, s10, s11, s12, s13⟩
    go_simp
    with_reducible rfl
   (rotate_left; · (simp only [Act.put, List.setIfInBounds_toArray, List.set_cons_zero, List.set_cons_succ, i64_w, i32_w]; rfl))
   refine one_ (i := 12) (N := some 15) #[true, true, true, true, true, true, true, true, true, true, true, true, true, false, false, true, true, false, false, false, false] rfl rfl (one_of HT_.out (by kernel_rfl)) (by decide) (fun K hK => ?_)
   refine Kd.R_lit_step (Kd.int .i64) _ 3 ?hg (N := 15) ?hd (xs := ([a0_0, a0_1, a0_2, a0_3, a0_4, a0_5] : List Int)) (inner := [.int .i64 a0_0, .int .i64 a0_1, .int .i64 a0_2, .int .i64 a0_3, .int .i64 a0_4, .int .i64 a0_5]) (ok := fun _ => True) (okp := fun _ => True) ?hr ?hp (fun _ hk => hk) trivial (Below.refl _ _) (Nat.le_refl _) (by simp) ?_; (case hd => rfl); (case hg => rfl); (case hr => first | (go_simp; done) | (go_simp; rfl)); (case hp => exact (Reps.one (show Kd.M (Kd.int .i64) _ _ _ a0_0 [.int .i64 a0_0] from rfl) (Reps.one (show Kd.M (Kd.int .i64) _ _ _ a0_1 [.int .i64 a0_1] from rfl) (Reps.one (show Kd.M (Kd.int .i64) _ _ _ a0_2 [.int .i64 a0_2] from rfl) (Reps.one (show Kd.M (Kd.int .i64) _ _ _ a0_3 [.int .i64 a0_3] from rfl) (Reps.one (show Kd.M (Kd.int .i64) _ _ _ a0_4 [.int .i64 a0_4] from rfl) (Reps.one (show Kd.M (Kd.int .i64) _ _ _ a0_5 [.int .i64 a0_5] from rfl) (Reps.none _ _))))))))
   intro v111 w9 ho10 hb hg_ hnew_
   clear hg_ hnew_
   (first | rw [← Ny110.out] at ho10 | (simp only [Int.reduceToNat] at ho10; rw [← Ny110.out] at ho10))
   have n0_ := Aside0.mk (Kd.R_lower ho10 (below_size (by repeat (first | (with_reducible first | exact HB.out | apply below_alloc | apply pw_below_drewN | apply below_drew1 | refine below_set ?_ GE109.out) | exact HB.out))))
   have n1_ := Aside0.mk (blk_below (g := gb109) (o := .cells #[.int .i64 a0_0, .int .i64 a0_1, .int .i64 a0_2, .int .i64 a0_3, .int .i64 a0_4, .int .i64 a0_5, .int .i64 a0_6, .int .i64 a0_7, .int .i64 a0_8, .int .i64 a0_9, .int .i64 a0_10, .string a0_11, .string a0_12, .string a0_13] 32 (0, 0)) (by (with_reducible repeat (first | refine blk_drewN ?_ _ | refine blk_drew ?_ | refine blk_alloc ?_ _)); exact BK109.out) hb)
   have n2_ := Aside0.mk (below_step (by repeat (first | (with_reducible first | exact HB.out | apply below_alloc | apply pw_below_drewN | apply below_drew1 | refine below_set ?_ GE109.out) | exact HB.out)) hb)
   (clear BK109; clear HB; have HO112 := n0_; have BK109 := n1_; have HB := n2_; clear n0_ n1_ n2_; clear hb ho10)
   obtain ⟨Ao11, co11, eo11⟩ := Kd.R_slice HO112.out
   (first | subst eo11 | (injection eo11 with f1_ f2_ f3_; have f4_ := f1_.symm; have f5_ := f3_.symm; clear f1_ f2_ f3_; subst f4_; subst f5_))
   refine hK.out _ _ ⟨(blk_cell BK109.out 0).trans rfl, (blk_cell BK109.out 1).trans rfl, (blk_cell BK109.out 2).trans rfl, (blk_cell BK109.out 3).trans rfl, (blk_cell BK109.out 4).trans rfl, (blk_cell BK109.out 5).trans rfl, (blk_cell BK109.out 6).trans rfl, (blk_cell BK109.out 7).trans rfl, (blk_cell BK109.out 8).trans rfl, (blk_cell BK109.out 9).trans rfl, (blk_cell BK109.out 10).trans rfl, (blk_cell BK109.out 11).trans rfl, (blk_cell BK109.out 12).trans rfl, (blk_cell BK109.out 13).trans rfl⟩ (fun hHeld => ?_)
   clear hK K
   refine norm_ (a' := ?_) ?_ ?_
   rotate_left
   ·show Act.put _ (some 15) _ = _
    simp only [Act.put, List.setIfInBounds_toArray, List.set_cons_zero, List.set_cons_succ, i64_w, i32_w]
    rfl
   refine one_ (i := 13) (N := some 16) #[true, true, true, true, true, true, true, true, true, true, true, true, true, true, false, true, true, false, false, false, false] rfl rfl (one_of HT_.out (by kernel_rfl)) (by decide) (fun K hK => ?_)
   refine goes_ Try.func27 (by kernel_rfl) rfl #[.slice Ao11 y110.length co11] (by rfl) rfl rfl (by (try simp only [List.map_toArray, List.map_cons, List.map_nil]); first | done | rfl | (simp only [List.length_drop, List.length_take]; rfl)) ?_
   with_reducible refine (wire_nums.calls _ _ y110 t113 _ ?side1 ?side2 A2.out).mono ?_
   (case side1 => repeat (first | exact (Kd.R_reads' HO112.out).2.2 | (with_reducible refine Kd.C_alloc ?_ _) | (with_reducible refine Kd.C_drewN ?_ _) | (with_reducible refine Kd.C_drew ?_)))
   (case side2 => exact (Kd.R_reads' HO112.out).2.1)
   rintro e w12 ⟨rfl, hb⟩
   refine ⟨_, rfl, ?_⟩
   have n0_ := Aside0.mk (Kd.R_below (by (with_reducible repeat (first | apply Kd.R_alloc | apply Kd.R_drewN | apply Kd.R_drew)); exact HO112.out) hb)
   have n1_ := Aside0.mk (blk_below (g := gb109) (o := .cells #[.int .i64 a0_0, .int .i64 a0_1, .int .i64 a0_2, .int .i64 a0_3, .int .i64 a0_4, .int .i64 a0_5, .int .i64 a0_6, .int .i64 a0_7, .int .i64 a0_8, .int .i64 a0_9, .int .i64 a0_10, .string a0_11, .string a0_12, .string a0_13] 32 (0, 0)) (by (with_reducible repeat (first | refine blk_drewN ?_ _ | refine blk_drew ?_ | refine blk_alloc ?_ _)); exact BK109.out) hb)
   have n2_ := Aside0.mk (below_step (by repeat (first | (with_reducible first | exact HB.out | apply below_alloc | apply pw_below_drewN | apply below_drew1 | refine below_set ?_ GE109.out) | exact HB.out)) hb)
   (clear HO112; clear BK109; clear HB; have HO112 := n0_; have BK109 := n1_; have HB := n2_; clear n0_ n1_ n2_; (try clear hb); (try clear hb2); (try clear hk); (try clear hi))
   refine hK.out _ _ ⟨(blk_cell BK109.out 0).trans rfl, (blk_cell BK109.out 1).trans rfl, (blk_cell BK109.out 2).trans rfl, (blk_cell BK109.out 3).trans rfl, (blk_cell BK109.out 4).trans rfl, (blk_cell BK109.out 5).trans rfl, (blk_cell BK109.out 6).trans rfl, (blk_cell BK109.out 7).trans rfl, (blk_cell BK109.out 8).trans rfl, (blk_cell BK109.out 9).trans rfl, (blk_cell BK109.out 10).trans rfl, (blk_cell BK109.out 11).trans rfl, (blk_cell BK109.out 12).trans rfl, (blk_cell BK109.out 13).trans rfl⟩ (fun hHeld => ?_)
   clear hK K
   refine norm_ (a' := ?_) ?_ ?_
   rotate_left
   ·show Act.put _ (some 16) _ = _
    simp only [Act.put, List.setIfInBounds_toArray, List.set_cons_zero, List.set_cons_succ, i64_w, i32_w]
    rfl
   refine pure_ (i := 14) (N := some 17) (v := ?_) (a' := ?_) #[true, true, true, true, true, true, true, true, true, true, true, true, true, true, true, true, true, false, false, false, false] rfl rfl (any_of HT_.out (by kernel_rfl)) (fun _ _ _ h => h) (Or.inl ⟨by rfl, ?_⟩) ?_ ?_
   (rotate_left; · (intro w'; go_simp; with_reducible rfl))
   (rotate_left; · (simp only [Act.put, List.setIfInBounds_toArray, List.set_cons_zero, List.set_cons_succ, i64_w, i32_w]; rfl))
   refine one_ (i := 17) (N := some 20) #[true, true, true, true, true, true, true, true, true, true, true, true, true, true, true, true, true, true, false, false, false] rfl rfl (one_of HT_.out (by kernel_rfl)) (by decide) (fun K hK => ?_)
   refine goes_ Try.func12 (by kernel_rfl) rfl #[.agg #[.int .i64 a0_6, .int .i64 a0_7, .int .i64 a0_8, .int .i64 a0_9, .int .i64 a0_10, .string a0_11, .string a0_12, .string a0_13]] (by rfl) rfl rfl (by (try simp only [List.map_toArray, List.map_cons, List.map_nil]); first | done | rfl | (simp only [List.length_drop, List.length_take]; rfl)) ?_
   with_reducible refine (wire_Call.calls a0_6 a0_7 a0_8 a0_9 a0_10 a0_11 a0_12 a0_13 t114 _ A4.out).mono ?_
   rintro e w13 ⟨rfl, hb⟩
   refine ⟨_, rfl, ?_⟩
   have n0_ := Aside0.mk (Kd.R_below (by (with_reducible repeat (first | apply Kd.R_alloc | apply Kd.R_drewN | apply Kd.R_drew)); exact HO112.out) hb)
   have n1_ := Aside0.mk (blk_below (g := gb109) (o := .cells #[.int .i64 a0_0, .int .i64 a0_1, .int .i64 a0_2, .int .i64 a0_3, .int .i64 a0_4, .int .i64 a0_5, .int .i64 a0_6, .int .i64 a0_7, .int .i64 a0_8, .int .i64 a0_9, .int .i64 a0_10, .string a0_11, .string a0_12, .string a0_13] 32 (0, 0)) (by (with_reducible repeat (first | refine blk_drewN ?_ _ | refine blk_drew ?_ | refine blk_alloc ?_ _)); exact BK109.out) hb)
   have n2_ := Aside0.mk (below_step (by repeat (first | (with_reducible first | exact HB.out | apply below_alloc | apply pw_below_drewN | apply below_drew1 | refine below_set ?_ GE109.out) | exact HB.out)) hb)
   (clear HO112; clear BK109; clear HB; have HO112 := n0_; have BK109 := n1_; have HB := n2_; clear n0_ n1_ n2_; (try clear hb); (try clear hb2); (try clear hk); (try clear hi))
   refine hK.out _ _ ⟨(blk_cell BK109.out 0).trans rfl, (blk_cell BK109.out 1).trans rfl, (blk_cell BK109.out 2).trans rfl, (blk_cell BK109.out 3).trans rfl, (blk_cell BK109.out 4).trans rfl, (blk_cell BK109.out 5).trans rfl, (blk_cell BK109.out 6).trans rfl, (blk_cell BK109.out 7).trans rfl, (blk_cell BK109.out 8).trans rfl, (blk_cell BK109.out 9).trans rfl, (blk_cell BK109.out 10).trans rfl, (blk_cell BK109.out 11).trans rfl, (blk_cell BK109.out 12).trans rfl, (blk_cell BK109.out 13).trans rfl⟩ (fun hHeld => ?_)
   clear hK K
   refine norm_ (a' := ?_) ?_ ?_
   rotate_left
   ·show Act.put _ (some 20) _ = _
    simp only [Act.put, List.setIfInBounds_toArray, List.set_cons_zero, List.set_cons_succ, i64_w, i32_w]
    rfl
   refine pure_ (i := 18) (N := some 21) (v := ?_) (a' := ?_) #[true, true, true, true, true, true, true, true, true, true, true, true, true, true, true, true, true, true, true, false, false] rfl rfl (any_of HT_.out (by kernel_rfl)) (fun _ _ _ h => h) (Or.inl ⟨by rfl, ?_⟩) ?_ ?_
   (rotate_left; · (intro w'; go_simp; with_reducible rfl))
   (rotate_left; · (simp only [Act.put, List.setIfInBounds_toArray, List.set_cons_zero, List.set_cons_succ, i64_w, i32_w]; rfl))
   refine one_ (i := 19) (N := some 22) #[true, true, true, true, true, true, true, true, true, true, true, true, true, true, true, true, true, true, true, true, false] rfl rfl (one_of HT_.out (by kernel_rfl)) (by decide) (fun K hK => ?_)
   refine goes_ Try.func31 (by kernel_rfl) rfl #[.string (((⟨#[109]⟩ : ByteArray) ++ t113) ++ t114)] (by rfl) rfl rfl (by (try simp only [List.map_toArray, List.map_cons, List.map_nil]); first | done | rfl | (simp only [List.length_drop, List.length_take]; rfl)) ?_
   with_reducible refine (seal_Put.calls (((⟨#[109]⟩ : ByteArray) ++ t113) ++ t114) t115 _ A6.out).mono ?_
   rintro e w14 ⟨rfl, hb⟩
   refine ⟨_, rfl, ?_⟩
   have n0_ := Aside0.mk (Kd.R_below (by (with_reducible repeat (first | apply Kd.R_alloc | apply Kd.R_drewN | apply Kd.R_drew)); exact HO112.out) hb)
   have n1_ := Aside0.mk (blk_below (g := gb109) (o := .cells #[.int .i64 a0_0, .int .i64 a0_1, .int .i64 a0_2, .int .i64 a0_3, .int .i64 a0_4, .int .i64 a0_5, .int .i64 a0_6, .int .i64 a0_7, .int .i64 a0_8, .int .i64 a0_9, .int .i64 a0_10, .string a0_11, .string a0_12, .string a0_13] 32 (0, 0)) (by (with_reducible repeat (first | refine blk_drewN ?_ _ | refine blk_drew ?_ | refine blk_alloc ?_ _)); exact BK109.out) hb)
   have n2_ := Aside0.mk (below_step (by repeat (first | (with_reducible first | exact HB.out | apply below_alloc | apply pw_below_drewN | apply below_drew1 | refine below_set ?_ GE109.out) | exact HB.out)) hb)
   (clear HO112; clear BK109; clear HB; have HO112 := n0_; have BK109 := n1_; have HB := n2_; clear n0_ n1_ n2_; (try clear hb); (try clear hb2); (try clear hk); (try clear hi))
   refine hK.out _ _ ⟨(blk_cell BK109.out 0).trans rfl, (blk_cell BK109.out 1).trans rfl, (blk_cell BK109.out 2).trans rfl, (blk_cell BK109.out 3).trans rfl, (blk_cell BK109.out 4).trans rfl, (blk_cell BK109.out 5).trans rfl, (blk_cell BK109.out 6).trans rfl, (blk_cell BK109.out 7).trans rfl, (blk_cell BK109.out 8).trans rfl, (blk_cell BK109.out 9).trans rfl, (blk_cell BK109.out 10).trans rfl, (blk_cell BK109.out 11).trans rfl, (blk_cell BK109.out 12).trans rfl, (blk_cell BK109.out 13).trans rfl⟩ (fun hHeld => ?_)
   clear hK K
   refine norm_ (a' := ?_) ?_ ?_
   rotate_left
   ·show Act.put _ (some 22) _ = _
    simp only [Act.put, List.setIfInBounds_toArray, List.set_cons_zero, List.set_cons_succ, i64_w, i32_w]
    rfl
   refine pure_ (i := 20) (N := some 2) (v := ?_) (a' := ?_) #[true, true, true, true, true, true, true, true, true, true, true, true, true, true, true, true, true, true, true, true, true] rfl rfl (any_of HT_.out (by kernel_rfl)) (fun _ _ _ h => h) (Or.inl ⟨by rfl, ?_⟩) ?_ ?_
   (rotate_left; · (intro w'; go_simp; with_reducible rfl))
   (rotate_left; · (simp only [Act.put, List.setIfInBounds_toArray, List.set_cons_zero, List.set_cons_succ, i64_w, i32_w]; rfl))
   refine done_ (done_of HT_.out (by kernel_rfl)) ?_
   try go_wp2
   go_ret
   exact ⟨by first | rfl | (simp [errW_none, errW_some] <;> rfl) | (simp [*, errW_none, errW_some] <;> rfl), by repeat (first | (with_reducible first | exact HB.out | apply below_alloc | apply pw_below_drewN | apply below_drew1 | refine below_set ?_ GE109.out) | exact HB.out)⟩
  ·rw [if_neg c5] at H
   exact absurd H (by simp)
 ·rw [if_neg c3] at H
  exact absurd H (by simp)

-- GIVEN: function 23 (wire_TakeMsg): its Lean function and its contract stand in a text of this session's

/-! ### copyholdlaw15_shown: function 10 -/
def copyholdlaw15_shown.f  : Option (Bool) := (wire_Msg.f 2 3 0 0 0 0 0 0 0 0 0 (⟨#[]⟩ : ByteArray) (⟨#[]⟩ : ByteArray) (⟨#[]⟩ : ByteArray)).bind fun t116 => ((wire_TakeMsg.f t116).bind fun bt117 => ((wire_Call.f 0 0 0 0 0 (⟨#[]⟩ : ByteArray) (⟨#[]⟩ : ByteArray) (⟨#[]⟩ : ByteArray)).bind fun t133 => (if t133.toList = ([0, 0, 0, 0, 0, 0, 0, 0] : List UInt8) then (if bt117.2.2.2.2.2.2.2.2.2.2.2.2.2.2 = 0 then (if bt117.1 = 2 then (some (bt117.2.1 == 3)) else (some false)) else (some false)) else (some false))))
set_option maxHeartbeats 8000000 in
set_option maxRecDepth 100000 in
theorem copyholdlaw15_shown.calls  (r : Bool) (w : World) (h : copyholdlaw15_shown.f  = some r) :
  Calls Try.prog 10 #[] w fun e w' => e = .returned (.bool r) ∧ Below w.heap.size w w' := by
 have hu32 := Try.underlying32
 have hu23 := Try.underlying23
 have HB := Aside0.mk (Below.refl w.heap.size w)
 have H : ((wire_Msg.f 2 3 0 0 0 0 0 0 0 0 0 (⟨#[]⟩ : ByteArray) (⟨#[]⟩ : ByteArray) (⟨#[]⟩ : ByteArray)).bind fun t116 => ((wire_TakeMsg.f t116).bind fun bt117 => ((wire_Call.f 0 0 0 0 0 (⟨#[]⟩ : ByteArray) (⟨#[]⟩ : ByteArray) (⟨#[]⟩ : ByteArray)).bind fun t133 => (if t133.toList = ([0, 0, 0, 0, 0, 0, 0, 0] : List UInt8) then (if bt117.2.2.2.2.2.2.2.2.2.2.2.2.2.2 = 0 then (if bt117.1 = 2 then (some (bt117.2.1 == 3)) else (some false)) else (some false)) else (some false))))) = some r := h
 clear h
 replace H := Option.bind_eq_some_iff.mp H
 obtain ⟨t116, A10, H⟩ := H
 replace H : ((wire_TakeMsg.f t116).bind fun bt117 => ((wire_Call.f 0 0 0 0 0 (⟨#[]⟩ : ByteArray) (⟨#[]⟩ : ByteArray) (⟨#[]⟩ : ByteArray)).bind fun t133 => (if t133.toList = ([0, 0, 0, 0, 0, 0, 0, 0] : List UInt8) then (if bt117.2.2.2.2.2.2.2.2.2.2.2.2.2.2 = 0 then (if bt117.1 = 2 then (some (bt117.2.1 == 3)) else (some false)) else (some false)) else (some false)))) = some r := H
 have A1 := Aside0.mk A10
 clear A10
 replace H := Option.bind_eq_some_iff.mp H
 obtain ⟨⟨t117, t118, t119, t120, t121, t122, t123, t124, t125, t126, t127, t128, t129, t130, t131⟩, A20, H⟩ := H
 replace H : ((wire_Call.f 0 0 0 0 0 (⟨#[]⟩ : ByteArray) (⟨#[]⟩ : ByteArray) (⟨#[]⟩ : ByteArray)).bind fun t133 => (if t133.toList = ([0, 0, 0, 0, 0, 0, 0, 0] : List UInt8) then (if t131 = 0 then (if t117 = 2 then (some (t118 == 3)) else (some false)) else (some false)) else (some false))) = some r := H
 have A2 := Aside0.mk A20
 clear A20
 replace H := Option.bind_eq_some_iff.mp H
 obtain ⟨t133, A30, H⟩ := H
 replace H : (if t133.toList = ([0, 0, 0, 0, 0, 0, 0, 0] : List UInt8) then (if t131 = 0 then (if t117 = 2 then (some (t118 == 3)) else (some false)) else (some false)) else (some false)) = some r := H
 have A3 := Aside0.mk A30
 clear A30
 by_cases c4 : t133.toList = ([0, 0, 0, 0, 0, 0, 0, 0] : List UInt8)
 ·rw [if_pos c4] at H
  have c4b0 : (t133.toList == ([0, 0, 0, 0, 0, 0, 0, 0] : List UInt8)) = true := beq_iff_eq.mpr c4
  have c4b1 : (t133.toList != ([0, 0, 0, 0, 0, 0, 0, 0] : List UInt8)) = false := bne_eq_false_iff_eq.mpr c4
  clear c4
  by_cases c5 : t131 = 0
  ·rw [if_pos c5] at H
   have c5b0 : (t131 == 0) = true := beq_iff_eq.mpr c5
   have c5b1 : (t131 != 0) = false := bne_eq_false_iff_eq.mpr c5
   clear c5
   by_cases c6 : t117 = 2
   ·rw [if_pos c6] at H
    have c6b0 : (t117 == 2) = true := beq_iff_eq.mpr c6
    have c6b1 : (t117 != 2) = false := bne_eq_false_iff_eq.mpr c6
    clear c6
    obtain rfl := Option.some.inj H
    go_enter Try.func10, Try.ntmps10
    go_wp2_with (first | ((with_reducible refine gate_callee (f := 15) rfl ?_); refine goesL_ (some 5) rfl rfl Try.func15 (by kernel_rfl) rfl #[.agg #[.int .i64 2, .int .i64 3, .int .i64 0, .int .i64 0, .int .i64 0, .int .i64 0, .int .i64 0, .int .i64 0, .int .i64 0, .int .i64 0, .int .i64 0, .string (⟨#[]⟩ : ByteArray), .string (⟨#[]⟩ : ByteArray), .string (⟨#[]⟩ : ByteArray)]] rfl (by (try simp only [List.map_toArray, List.map_cons, List.map_nil]); first | done | rfl | (simp only [List.length_drop, List.length_take]; rfl)) ?_; (with_reducible refine (wire_Msg.calls 2 3 0 0 0 0 0 0 0 0 0 (⟨#[]⟩ : ByteArray) (⟨#[]⟩ : ByteArray) (⟨#[]⟩ : ByteArray) t116 _ A1.out).mono ?_); rintro e w7 ⟨rfl, hb⟩; refine ⟨_, rfl, ?_⟩; have n0_ := Aside0.mk (below_step (by repeat (first | (with_reducible first | exact HB.out | apply below_alloc | apply pw_below_drewN | apply below_drew1) | exact HB.out)) hb); clear HB; have HB := n0_; clear n0_; (try clear hb); (try clear hb2); (try clear hk); (try clear hi)) | ((with_reducible refine gate_callee (f := 23) rfl ?_); refine goesL_ (some 6) rfl rfl Try.func23 (by kernel_rfl) rfl #[.string t116] rfl (by (try simp only [List.map_toArray, List.map_cons, List.map_nil]); first | done | rfl | (simp only [List.length_drop, List.length_take]; rfl)) ?_; (with_reducible refine (wire_TakeMsg.calls t116 t117 t118 t119 t120 t121 t122 t123 t124 t125 t126 t127 t128 t129 t130 t131 _ A2.out).mono ?_); rintro e w8 ⟨rfl, hb⟩; refine ⟨_, rfl, ?_⟩; have n0_ := Aside0.mk (below_step (by repeat (first | (with_reducible first | exact HB.out | apply below_alloc | apply pw_below_drewN | apply below_drew1) | exact HB.out)) hb); clear HB; have HB := n0_; clear n0_; (try clear hb); (try clear hb2); (try clear hk); (try clear hi)) | ((with_reducible refine gate_dst (N := 1) rfl ?_); refine box_event ?hg (N := 1) ?hd (cs := #[.int .i64 0, .int .i64 0, .int .i64 0, .int .i64 0, .int .i64 0, .int .i64 0, .int .i64 0, .int .i64 0, .int .i64 0, .int .i64 0, .int .i64 0, .string (⟨#[]⟩ : ByteArray), .string (⟨#[]⟩ : ByteArray), .string (⟨#[]⟩ : ByteArray)]) (t := 32) ?hr ?_; (case hd => rfl); (case hg => rfl); (case hr => first | (go_simp; done) | (go_simp; rfl)); intro gb132 hg w9 hbox hb; have n0_ := Aside0.mk (below_step (by repeat (first | (with_reducible first | exact HB.out | apply below_alloc | apply pw_below_drewN | apply below_drew1) | exact HB.out)) hb); have n1_ := Aside0.mk (hbox); have n2_ := Aside0.mk ((by rw [hg]; exact (below_size (by repeat (first | (with_reducible first | exact HB.out | apply below_alloc | apply pw_below_drewN | apply below_drew1) | exact HB.out))) : w.heap.size ≤ gb132)); have n3_ := Aside0.mk ((by rw [hg]; exact (below_size (by repeat (first | (with_reducible first | exact HB.out | apply below_alloc | apply pw_below_drewN | apply below_drew1) | exact HB.out))) : w.heap.size ≤ gb132)); clear HB; have HB := n0_; have BK132 := n1_; have GW132 := n2_; have GE132 := n3_; clear n0_ n1_ n2_ n3_; clear hb hbox hg; have hcz10_0 : w9.cell? ⟨gb132, 0, none⟩ = some (.int .i64 0) := (blk_cell BK132.out 0).trans rfl; have hcz10_1 : w9.cell? ⟨gb132, 1, none⟩ = some (.int .i64 0) := (blk_cell BK132.out 1).trans rfl; have hcz10_2 : w9.cell? ⟨gb132, 2, none⟩ = some (.int .i64 0) := (blk_cell BK132.out 2).trans rfl; have hcz10_3 : w9.cell? ⟨gb132, 3, none⟩ = some (.int .i64 0) := (blk_cell BK132.out 3).trans rfl; have hcz10_4 : w9.cell? ⟨gb132, 4, none⟩ = some (.int .i64 0) := (blk_cell BK132.out 4).trans rfl; have hcz10_5 : w9.cell? ⟨gb132, 5, none⟩ = some (.int .i64 0) := (blk_cell BK132.out 5).trans rfl; have hcz10_6 : w9.cell? ⟨gb132, 6, none⟩ = some (.int .i64 0) := (blk_cell BK132.out 6).trans rfl; have hcz10_7 : w9.cell? ⟨gb132, 7, none⟩ = some (.int .i64 0) := (blk_cell BK132.out 7).trans rfl; have hcz10_8 : w9.cell? ⟨gb132, 8, none⟩ = some (.int .i64 0) := (blk_cell BK132.out 8).trans rfl; have hcz10_9 : w9.cell? ⟨gb132, 9, none⟩ = some (.int .i64 0) := (blk_cell BK132.out 9).trans rfl; have hcz10_10 : w9.cell? ⟨gb132, 10, none⟩ = some (.int .i64 0) := (blk_cell BK132.out 10).trans rfl; have hcz10_11 : w9.cell? ⟨gb132, 11, none⟩ = some (.string (⟨#[]⟩ : ByteArray)) := (blk_cell BK132.out 11).trans rfl; have hcz10_12 : w9.cell? ⟨gb132, 12, none⟩ = some (.string (⟨#[]⟩ : ByteArray)) := (blk_cell BK132.out 12).trans rfl; have hcz10_13 : w9.cell? ⟨gb132, 13, none⟩ = some (.string (⟨#[]⟩ : ByteArray)) := (blk_cell BK132.out 13).trans rfl; have hfz10_0 := blk_frozen BK132.out 0; have hfz10_1 := blk_frozen BK132.out 1; have hfz10_2 := blk_frozen BK132.out 2; have hfz10_3 := blk_frozen BK132.out 3; have hfz10_4 := blk_frozen BK132.out 4; have hfz10_5 := blk_frozen BK132.out 5; have hfz10_6 := blk_frozen BK132.out 6; have hfz10_7 := blk_frozen BK132.out 7; have hfz10_8 := blk_frozen BK132.out 8; have hfz10_9 := blk_frozen BK132.out 9; have hfz10_10 := blk_frozen BK132.out 10; have hfz10_11 := blk_frozen BK132.out 11; have hfz10_12 := blk_frozen BK132.out 12; have hfz10_13 := blk_frozen BK132.out 13) | ((with_reducible refine gate_callee (f := 12) rfl ?_); refine goesL_ (some 10) rfl rfl Try.func12 (by kernel_rfl) rfl #[.agg #[.int .i64 0, .int .i64 0, .int .i64 0, .int .i64 0, .int .i64 0, .string (⟨#[]⟩ : ByteArray), .string (⟨#[]⟩ : ByteArray), .string (⟨#[]⟩ : ByteArray)]] rfl (by (try simp only [List.map_toArray, List.map_cons, List.map_nil]); first | done | rfl | (simp only [List.length_drop, List.length_take]; rfl)) ?_; (with_reducible refine (wire_Call.calls 0 0 0 0 0 (⟨#[]⟩ : ByteArray) (⟨#[]⟩ : ByteArray) (⟨#[]⟩ : ByteArray) t133 _ A3.out).mono ?_); rintro e w11 ⟨rfl, hb⟩; refine ⟨_, rfl, ?_⟩; have n0_ := Aside0.mk (blk_below (g := gb132) (o := .cells #[.int .i64 t117, .int .i64 t118, .int .i64 t119, .int .i64 t120, .int .i64 t121, .int .i64 t122, .int .i64 t123, .int .i64 t124, .int .i64 t125, .int .i64 t126, .int .i64 t127, .string t128, .string t129, .string t130] 32 (0, 0)) (by (with_reducible repeat (first | refine blk_drewN ?_ _ | refine blk_drew ?_ | refine blk_alloc ?_ _)); refine blk_put (cs := #[.int .i64 t117, .int .i64 t118, .int .i64 t119, .int .i64 t120, .int .i64 t121, .int .i64 t122, .int .i64 t123, .int .i64 t124, .int .i64 t125, .int .i64 t126, .int .i64 t127, .string t128, .string t129, .string (⟨#[]⟩ : ByteArray)]) ?_ 13 _ rfl; (with_reducible repeat (first | refine blk_drewN ?_ _ | refine blk_drew ?_ | refine blk_alloc ?_ _)); refine blk_put (cs := #[.int .i64 t117, .int .i64 t118, .int .i64 t119, .int .i64 t120, .int .i64 t121, .int .i64 t122, .int .i64 t123, .int .i64 t124, .int .i64 t125, .int .i64 t126, .int .i64 t127, .string t128, .string (⟨#[]⟩ : ByteArray), .string (⟨#[]⟩ : ByteArray)]) ?_ 12 _ rfl; (with_reducible repeat (first | refine blk_drewN ?_ _ | refine blk_drew ?_ | refine blk_alloc ?_ _)); refine blk_put (cs := #[.int .i64 t117, .int .i64 t118, .int .i64 t119, .int .i64 t120, .int .i64 t121, .int .i64 t122, .int .i64 t123, .int .i64 t124, .int .i64 t125, .int .i64 t126, .int .i64 t127, .string (⟨#[]⟩ : ByteArray), .string (⟨#[]⟩ : ByteArray), .string (⟨#[]⟩ : ByteArray)]) ?_ 11 _ rfl; (with_reducible repeat (first | refine blk_drewN ?_ _ | refine blk_drew ?_ | refine blk_alloc ?_ _)); refine blk_put (cs := #[.int .i64 t117, .int .i64 t118, .int .i64 t119, .int .i64 t120, .int .i64 t121, .int .i64 t122, .int .i64 t123, .int .i64 t124, .int .i64 t125, .int .i64 t126, .int .i64 0, .string (⟨#[]⟩ : ByteArray), .string (⟨#[]⟩ : ByteArray), .string (⟨#[]⟩ : ByteArray)]) ?_ 10 _ rfl; (with_reducible repeat (first | refine blk_drewN ?_ _ | refine blk_drew ?_ | refine blk_alloc ?_ _)); refine blk_put (cs := #[.int .i64 t117, .int .i64 t118, .int .i64 t119, .int .i64 t120, .int .i64 t121, .int .i64 t122, .int .i64 t123, .int .i64 t124, .int .i64 t125, .int .i64 0, .int .i64 0, .string (⟨#[]⟩ : ByteArray), .string (⟨#[]⟩ : ByteArray), .string (⟨#[]⟩ : ByteArray)]) ?_ 9 _ rfl; (with_reducible repeat (first | refine blk_drewN ?_ _ | refine blk_drew ?_ | refine blk_alloc ?_ _)); refine blk_put (cs := #[.int .i64 t117, .int .i64 t118, .int .i64 t119, .int .i64 t120, .int .i64 t121, .int .i64 t122, .int .i64 t123, .int .i64 t124, .int .i64 0, .int .i64 0, .int .i64 0, .string (⟨#[]⟩ : ByteArray), .string (⟨#[]⟩ : ByteArray), .string (⟨#[]⟩ : ByteArray)]) ?_ 8 _ rfl; (with_reducible repeat (first | refine blk_drewN ?_ _ | refine blk_drew ?_ | refine blk_alloc ?_ _)); refine blk_put (cs := #[.int .i64 t117, .int .i64 t118, .int .i64 t119, .int .i64 t120, .int .i64 t121, .int .i64 t122, .int .i64 t123, .int .i64 0, .int .i64 0, .int .i64 0, .int .i64 0, .string (⟨#[]⟩ : ByteArray), .string (⟨#[]⟩ : ByteArray), .string (⟨#[]⟩ : ByteArray)]) ?_ 7 _ rfl; (with_reducible repeat (first | refine blk_drewN ?_ _ | refine blk_drew ?_ | refine blk_alloc ?_ _)); refine blk_put (cs := #[.int .i64 t117, .int .i64 t118, .int .i64 t119, .int .i64 t120, .int .i64 t121, .int .i64 t122, .int .i64 0, .int .i64 0, .int .i64 0, .int .i64 0, .int .i64 0, .string (⟨#[]⟩ : ByteArray), .string (⟨#[]⟩ : ByteArray), .string (⟨#[]⟩ : ByteArray)]) ?_ 6 _ rfl; (with_reducible repeat (first | refine blk_drewN ?_ _ | refine blk_drew ?_ | refine blk_alloc ?_ _)); refine blk_put (cs := #[.int .i64 t117, .int .i64 t118, .int .i64 t119, .int .i64 t120, .int .i64 t121, .int .i64 0, .int .i64 0, .int .i64 0, .int .i64 0, .int .i64 0, .int .i64 0, .string (⟨#[]⟩ : ByteArray), .string (⟨#[]⟩ : ByteArray), .string (⟨#[]⟩ : ByteArray)]) ?_ 5 _ rfl; (with_reducible repeat (first | refine blk_drewN ?_ _ | refine blk_drew ?_ | refine blk_alloc ?_ _)); refine blk_put (cs := #[.int .i64 t117, .int .i64 t118, .int .i64 t119, .int .i64 t120, .int .i64 0, .int .i64 0, .int .i64 0, .int .i64 0, .int .i64 0, .int .i64 0, .int .i64 0, .string (⟨#[]⟩ : ByteArray), .string (⟨#[]⟩ : ByteArray), .string (⟨#[]⟩ : ByteArray)]) ?_ 4 _ rfl; (with_reducible repeat (first | refine blk_drewN ?_ _ | refine blk_drew ?_ | refine blk_alloc ?_ _)); refine blk_put (cs := #[.int .i64 t117, .int .i64 t118, .int .i64 t119, .int .i64 0, .int .i64 0, .int .i64 0, .int .i64 0, .int .i64 0, .int .i64 0, .int .i64 0, .int .i64 0, .string (⟨#[]⟩ : ByteArray), .string (⟨#[]⟩ : ByteArray), .string (⟨#[]⟩ : ByteArray)]) ?_ 3 _ rfl; (with_reducible repeat (first | refine blk_drewN ?_ _ | refine blk_drew ?_ | refine blk_alloc ?_ _)); refine blk_put (cs := #[.int .i64 t117, .int .i64 t118, .int .i64 0, .int .i64 0, .int .i64 0, .int .i64 0, .int .i64 0, .int .i64 0, .int .i64 0, .int .i64 0, .int .i64 0, .string (⟨#[]⟩ : ByteArray), .string (⟨#[]⟩ : ByteArray), .string (⟨#[]⟩ : ByteArray)]) ?_ 2 _ rfl; (with_reducible repeat (first | refine blk_drewN ?_ _ | refine blk_drew ?_ | refine blk_alloc ?_ _)); refine blk_put (cs := #[.int .i64 t117, .int .i64 0, .int .i64 0, .int .i64 0, .int .i64 0, .int .i64 0, .int .i64 0, .int .i64 0, .int .i64 0, .int .i64 0, .int .i64 0, .string (⟨#[]⟩ : ByteArray), .string (⟨#[]⟩ : ByteArray), .string (⟨#[]⟩ : ByteArray)]) ?_ 1 _ rfl; (with_reducible repeat (first | refine blk_drewN ?_ _ | refine blk_drew ?_ | refine blk_alloc ?_ _)); refine blk_put (cs := #[.int .i64 0, .int .i64 0, .int .i64 0, .int .i64 0, .int .i64 0, .int .i64 0, .int .i64 0, .int .i64 0, .int .i64 0, .int .i64 0, .int .i64 0, .string (⟨#[]⟩ : ByteArray), .string (⟨#[]⟩ : ByteArray), .string (⟨#[]⟩ : ByteArray)]) ?_ 0 _ rfl; (with_reducible repeat (first | refine blk_drewN ?_ _ | refine blk_drew ?_ | refine blk_alloc ?_ _)); exact BK132.out) hb); have n1_ := Aside0.mk (below_step (by repeat (first | (with_reducible first | exact HB.out | apply below_alloc | apply pw_below_drewN | apply below_drew1 | refine below_set ?_ GE132.out) | exact HB.out)) hb); clear BK132; clear HB; have BK132 := n0_; have HB := n1_; clear n0_ n1_; (try clear hb); (try clear hb2); (try clear hk); (try clear hi); have hcz12_0 : w11.cell? ⟨gb132, 0, none⟩ = some (.int .i64 t117) := (blk_cell BK132.out 0).trans rfl; have hcz12_1 : w11.cell? ⟨gb132, 1, none⟩ = some (.int .i64 t118) := (blk_cell BK132.out 1).trans rfl; have hcz12_2 : w11.cell? ⟨gb132, 2, none⟩ = some (.int .i64 t119) := (blk_cell BK132.out 2).trans rfl; have hcz12_3 : w11.cell? ⟨gb132, 3, none⟩ = some (.int .i64 t120) := (blk_cell BK132.out 3).trans rfl; have hcz12_4 : w11.cell? ⟨gb132, 4, none⟩ = some (.int .i64 t121) := (blk_cell BK132.out 4).trans rfl; have hcz12_5 : w11.cell? ⟨gb132, 5, none⟩ = some (.int .i64 t122) := (blk_cell BK132.out 5).trans rfl; have hcz12_6 : w11.cell? ⟨gb132, 6, none⟩ = some (.int .i64 t123) := (blk_cell BK132.out 6).trans rfl; have hcz12_7 : w11.cell? ⟨gb132, 7, none⟩ = some (.int .i64 t124) := (blk_cell BK132.out 7).trans rfl; have hcz12_8 : w11.cell? ⟨gb132, 8, none⟩ = some (.int .i64 t125) := (blk_cell BK132.out 8).trans rfl; have hcz12_9 : w11.cell? ⟨gb132, 9, none⟩ = some (.int .i64 t126) := (blk_cell BK132.out 9).trans rfl; have hcz12_10 : w11.cell? ⟨gb132, 10, none⟩ = some (.int .i64 t127) := (blk_cell BK132.out 10).trans rfl; have hcz12_11 : w11.cell? ⟨gb132, 11, none⟩ = some (.string t128) := (blk_cell BK132.out 11).trans rfl; have hcz12_12 : w11.cell? ⟨gb132, 12, none⟩ = some (.string t129) := (blk_cell BK132.out 12).trans rfl; have hcz12_13 : w11.cell? ⟨gb132, 13, none⟩ = some (.string t130) := (blk_cell BK132.out 13).trans rfl; have hfz12_0 := blk_frozen BK132.out 0; have hfz12_1 := blk_frozen BK132.out 1; have hfz12_2 := blk_frozen BK132.out 2; have hfz12_3 := blk_frozen BK132.out 3; have hfz12_4 := blk_frozen BK132.out 4; have hfz12_5 := blk_frozen BK132.out 5; have hfz12_6 := blk_frozen BK132.out 6; have hfz12_7 := blk_frozen BK132.out 7; have hfz12_8 := blk_frozen BK132.out 8; have hfz12_9 := blk_frozen BK132.out 9; have hfz12_10 := blk_frozen BK132.out 10; have hfz12_11 := blk_frozen BK132.out 11; have hfz12_12 := blk_frozen BK132.out 12; have hfz12_13 := blk_frozen BK132.out 13))
    go_ret
    exact ⟨by first | rfl | (simp [errW_none, errW_some] <;> rfl) | (simp [*, errW_none, errW_some] <;> rfl), by repeat (first | (with_reducible first | exact HB.out | apply below_alloc | apply pw_below_drewN | apply below_drew1 | refine below_set ?_ GE132.out) | exact HB.out)⟩
   ·rw [if_neg c6] at H
    have c6b0 : (t117 == 2) = false := beq_eq_false_iff_ne.mpr c6
    have c6b1 : (t117 != 2) = true := bne_iff_ne.mpr c6
    obtain rfl := Option.some.inj H
    go_enter Try.func10, Try.ntmps10
    go_wp2_with (first | ((with_reducible refine gate_callee (f := 15) rfl ?_); refine goesL_ (some 5) rfl rfl Try.func15 (by kernel_rfl) rfl #[.agg #[.int .i64 2, .int .i64 3, .int .i64 0, .int .i64 0, .int .i64 0, .int .i64 0, .int .i64 0, .int .i64 0, .int .i64 0, .int .i64 0, .int .i64 0, .string (⟨#[]⟩ : ByteArray), .string (⟨#[]⟩ : ByteArray), .string (⟨#[]⟩ : ByteArray)]] rfl (by (try simp only [List.map_toArray, List.map_cons, List.map_nil]); first | done | rfl | (simp only [List.length_drop, List.length_take]; rfl)) ?_; (with_reducible refine (wire_Msg.calls 2 3 0 0 0 0 0 0 0 0 0 (⟨#[]⟩ : ByteArray) (⟨#[]⟩ : ByteArray) (⟨#[]⟩ : ByteArray) t116 _ A1.out).mono ?_); rintro e w13 ⟨rfl, hb⟩; refine ⟨_, rfl, ?_⟩; have n0_ := Aside0.mk (below_step (by repeat (first | (with_reducible first | exact HB.out | apply below_alloc | apply pw_below_drewN | apply below_drew1) | exact HB.out)) hb); clear HB; have HB := n0_; clear n0_; (try clear hb); (try clear hb2); (try clear hk); (try clear hi)) | ((with_reducible refine gate_callee (f := 23) rfl ?_); refine goesL_ (some 6) rfl rfl Try.func23 (by kernel_rfl) rfl #[.string t116] rfl (by (try simp only [List.map_toArray, List.map_cons, List.map_nil]); first | done | rfl | (simp only [List.length_drop, List.length_take]; rfl)) ?_; (with_reducible refine (wire_TakeMsg.calls t116 t117 t118 t119 t120 t121 t122 t123 t124 t125 t126 t127 t128 t129 t130 t131 _ A2.out).mono ?_); rintro e w14 ⟨rfl, hb⟩; refine ⟨_, rfl, ?_⟩; have n0_ := Aside0.mk (below_step (by repeat (first | (with_reducible first | exact HB.out | apply below_alloc | apply pw_below_drewN | apply below_drew1) | exact HB.out)) hb); clear HB; have HB := n0_; clear n0_; (try clear hb); (try clear hb2); (try clear hk); (try clear hi)) | ((with_reducible refine gate_dst (N := 1) rfl ?_); refine box_event ?hg (N := 1) ?hd (cs := #[.int .i64 0, .int .i64 0, .int .i64 0, .int .i64 0, .int .i64 0, .int .i64 0, .int .i64 0, .int .i64 0, .int .i64 0, .int .i64 0, .int .i64 0, .string (⟨#[]⟩ : ByteArray), .string (⟨#[]⟩ : ByteArray), .string (⟨#[]⟩ : ByteArray)]) (t := 32) ?hr ?_; (case hd => rfl); (case hg => rfl); (case hr => first | (go_simp; done) | (go_simp; rfl)); intro gb132 hg w15 hbox hb; have n0_ := Aside0.mk (below_step (by repeat (first | (with_reducible first | exact HB.out | apply below_alloc | apply pw_below_drewN | apply below_drew1) | exact HB.out)) hb); have n1_ := Aside0.mk (hbox); have n2_ := Aside0.mk ((by rw [hg]; exact (below_size (by repeat (first | (with_reducible first | exact HB.out | apply below_alloc | apply pw_below_drewN | apply below_drew1) | exact HB.out))) : w.heap.size ≤ gb132)); have n3_ := Aside0.mk ((by rw [hg]; exact (below_size (by repeat (first | (with_reducible first | exact HB.out | apply below_alloc | apply pw_below_drewN | apply below_drew1) | exact HB.out))) : w.heap.size ≤ gb132)); clear HB; have HB := n0_; have BK132 := n1_; have GW132 := n2_; have GE132 := n3_; clear n0_ n1_ n2_ n3_; clear hb hbox hg; have hcz16_0 : w15.cell? ⟨gb132, 0, none⟩ = some (.int .i64 0) := (blk_cell BK132.out 0).trans rfl; have hcz16_1 : w15.cell? ⟨gb132, 1, none⟩ = some (.int .i64 0) := (blk_cell BK132.out 1).trans rfl; have hcz16_2 : w15.cell? ⟨gb132, 2, none⟩ = some (.int .i64 0) := (blk_cell BK132.out 2).trans rfl; have hcz16_3 : w15.cell? ⟨gb132, 3, none⟩ = some (.int .i64 0) := (blk_cell BK132.out 3).trans rfl; have hcz16_4 : w15.cell? ⟨gb132, 4, none⟩ = some (.int .i64 0) := (blk_cell BK132.out 4).trans rfl; have hcz16_5 : w15.cell? ⟨gb132, 5, none⟩ = some (.int .i64 0) := (blk_cell BK132.out 5).trans rfl; have hcz16_6 : w15.cell? ⟨gb132, 6, none⟩ = some (.int .i64 0) := (blk_cell BK132.out 6).trans rfl; have hcz16_7 : w15.cell? ⟨gb132, 7, none⟩ = some (.int .i64 0) := (blk_cell BK132.out 7).trans rfl; have hcz16_8 : w15.cell? ⟨gb132, 8, none⟩ = some (.int .i64 0) := (blk_cell BK132.out 8).trans rfl; have hcz16_9 : w15.cell? ⟨gb132, 9, none⟩ = some (.int .i64 0) := (blk_cell BK132.out 9).trans rfl; have hcz16_10 : w15.cell? ⟨gb132, 10, none⟩ = some (.int .i64 0) := (blk_cell BK132.out 10).trans rfl; have hcz16_11 : w15.cell? ⟨gb132, 11, none⟩ = some (.string (⟨#[]⟩ : ByteArray)) := (blk_cell BK132.out 11).trans rfl; have hcz16_12 : w15.cell? ⟨gb132, 12, none⟩ = some (.string (⟨#[]⟩ : ByteArray)) := (blk_cell BK132.out 12).trans rfl; have hcz16_13 : w15.cell? ⟨gb132, 13, none⟩ = some (.string (⟨#[]⟩ : ByteArray)) := (blk_cell BK132.out 13).trans rfl; have hfz16_0 := blk_frozen BK132.out 0; have hfz16_1 := blk_frozen BK132.out 1; have hfz16_2 := blk_frozen BK132.out 2; have hfz16_3 := blk_frozen BK132.out 3; have hfz16_4 := blk_frozen BK132.out 4; have hfz16_5 := blk_frozen BK132.out 5; have hfz16_6 := blk_frozen BK132.out 6; have hfz16_7 := blk_frozen BK132.out 7; have hfz16_8 := blk_frozen BK132.out 8; have hfz16_9 := blk_frozen BK132.out 9; have hfz16_10 := blk_frozen BK132.out 10; have hfz16_11 := blk_frozen BK132.out 11; have hfz16_12 := blk_frozen BK132.out 12; have hfz16_13 := blk_frozen BK132.out 13) | ((with_reducible refine gate_callee (f := 12) rfl ?_); refine goesL_ (some 10) rfl rfl Try.func12 (by kernel_rfl) rfl #[.agg #[.int .i64 0, .int .i64 0, .int .i64 0, .int .i64 0, .int .i64 0, .string (⟨#[]⟩ : ByteArray), .string (⟨#[]⟩ : ByteArray), .string (⟨#[]⟩ : ByteArray)]] rfl (by (try simp only [List.map_toArray, List.map_cons, List.map_nil]); first | done | rfl | (simp only [List.length_drop, List.length_take]; rfl)) ?_; (with_reducible refine (wire_Call.calls 0 0 0 0 0 (⟨#[]⟩ : ByteArray) (⟨#[]⟩ : ByteArray) (⟨#[]⟩ : ByteArray) t133 _ A3.out).mono ?_); rintro e w17 ⟨rfl, hb⟩; refine ⟨_, rfl, ?_⟩; have n0_ := Aside0.mk (blk_below (g := gb132) (o := .cells #[.int .i64 t117, .int .i64 t118, .int .i64 t119, .int .i64 t120, .int .i64 t121, .int .i64 t122, .int .i64 t123, .int .i64 t124, .int .i64 t125, .int .i64 t126, .int .i64 t127, .string t128, .string t129, .string t130] 32 (0, 0)) (by (with_reducible repeat (first | refine blk_drewN ?_ _ | refine blk_drew ?_ | refine blk_alloc ?_ _)); refine blk_put (cs := #[.int .i64 t117, .int .i64 t118, .int .i64 t119, .int .i64 t120, .int .i64 t121, .int .i64 t122, .int .i64 t123, .int .i64 t124, .int .i64 t125, .int .i64 t126, .int .i64 t127, .string t128, .string t129, .string (⟨#[]⟩ : ByteArray)]) ?_ 13 _ rfl; (with_reducible repeat (first | refine blk_drewN ?_ _ | refine blk_drew ?_ | refine blk_alloc ?_ _)); refine blk_put (cs := #[.int .i64 t117, .int .i64 t118, .int .i64 t119, .int .i64 t120, .int .i64 t121, .int .i64 t122, .int .i64 t123, .int .i64 t124, .int .i64 t125, .int .i64 t126, .int .i64 t127, .string t128, .string (⟨#[]⟩ : ByteArray), .string (⟨#[]⟩ : ByteArray)]) ?_ 12 _ rfl; (with_reducible repeat (first | refine blk_drewN ?_ _ | refine blk_drew ?_ | refine blk_alloc ?_ _)); refine blk_put (cs := #[.int .i64 t117, .int .i64 t118, .int .i64 t119, .int .i64 t120, .int .i64 t121, .int .i64 t122, .int .i64 t123, .int .i64 t124, .int .i64 t125, .int .i64 t126, .int .i64 t127, .string (⟨#[]⟩ : ByteArray), .string (⟨#[]⟩ : ByteArray), .string (⟨#[]⟩ : ByteArray)]) ?_ 11 _ rfl; (with_reducible repeat (first | refine blk_drewN ?_ _ | refine blk_drew ?_ | refine blk_alloc ?_ _)); refine blk_put (cs := #[.int .i64 t117, .int .i64 t118, .int .i64 t119, .int .i64 t120, .int .i64 t121, .int .i64 t122, .int .i64 t123, .int .i64 t124, .int .i64 t125, .int .i64 t126, .int .i64 0, .string (⟨#[]⟩ : ByteArray), .string (⟨#[]⟩ : ByteArray), .string (⟨#[]⟩ : ByteArray)]) ?_ 10 _ rfl; (with_reducible repeat (first | refine blk_drewN ?_ _ | refine blk_drew ?_ | refine blk_alloc ?_ _)); refine blk_put (cs := #[.int .i64 t117, .int .i64 t118, .int .i64 t119, .int .i64 t120, .int .i64 t121, .int .i64 t122, .int .i64 t123, .int .i64 t124, .int .i64 t125, .int .i64 0, .int .i64 0, .string (⟨#[]⟩ : ByteArray), .string (⟨#[]⟩ : ByteArray), .string (⟨#[]⟩ : ByteArray)]) ?_ 9 _ rfl; (with_reducible repeat (first | refine blk_drewN ?_ _ | refine blk_drew ?_ | refine blk_alloc ?_ _)); refine blk_put (cs := #[.int .i64 t117, .int .i64 t118, .int .i64 t119, .int .i64 t120, .int .i64 t121, .int .i64 t122, .int .i64 t123, .int .i64 t124, .int .i64 0, .int .i64 0, .int .i64 0, .string (⟨#[]⟩ : ByteArray), .string (⟨#[]⟩ : ByteArray), .string (⟨#[]⟩ : ByteArray)]) ?_ 8 _ rfl; (with_reducible repeat (first | refine blk_drewN ?_ _ | refine blk_drew ?_ | refine blk_alloc ?_ _)); refine blk_put (cs := #[.int .i64 t117, .int .i64 t118, .int .i64 t119, .int .i64 t120, .int .i64 t121, .int .i64 t122, .int .i64 t123, .int .i64 0, .int .i64 0, .int .i64 0, .int .i64 0, .string (⟨#[]⟩ : ByteArray), .string (⟨#[]⟩ : ByteArray), .string (⟨#[]⟩ : ByteArray)]) ?_ 7 _ rfl; (with_reducible repeat (first | refine blk_drewN ?_ _ | refine blk_drew ?_ | refine blk_alloc ?_ _)); refine blk_put (cs := #[.int .i64 t117, .int .i64 t118, .int .i64 t119, .int .i64 t120, .int .i64 t121, .int .i64 t122, .int .i64 0, .int .i64 0, .int .i64 0, .int .i64 0, .int .i64 0, .string (⟨#[]⟩ : ByteArray), .string (⟨#[]⟩ : ByteArray), .string (⟨#[]⟩ : ByteArray)]) ?_ 6 _ rfl; (with_reducible repeat (first | refine blk_drewN ?_ _ | refine blk_drew ?_ | refine blk_alloc ?_ _)); refine blk_put (cs := #[.int .i64 t117, .int .i64 t118, .int .i64 t119, .int .i64 t120, .int .i64 t121, .int .i64 0, .int .i64 0, .int .i64 0, .int .i64 0, .int .i64 0, .int .i64 0, .string (⟨#[]⟩ : ByteArray), .string (⟨#[]⟩ : ByteArray), .string (⟨#[]⟩ : ByteArray)]) ?_ 5 _ rfl; (with_reducible repeat (first | refine blk_drewN ?_ _ | refine blk_drew ?_ | refine blk_alloc ?_ _)); refine blk_put (cs := #[.int .i64 t117, .int .i64 t118, .int .i64 t119, .int .i64 t120, .int .i64 0, .int .i64 0, .int .i64 0, .int .i64 0, .int .i64 0, .int .i64 0, .int .i64 0, .string (⟨#[]⟩ : ByteArray), .string (⟨#[]⟩ : ByteArray), .string (⟨#[]⟩ : ByteArray)]) ?_ 4 _ rfl; (with_reducible repeat (first | refine blk_drewN ?_ _ | refine blk_drew ?_ | refine blk_alloc ?_ _)); refine blk_put (cs := #[.int .i64 t117, .int .i64 t118, .int .i64 t119, .int .i64 0, .int .i64 0, .int .i64 0, .int .i64 0, .int .i64 0, .int .i64 0, .int .i64 0, .int .i64 0, .string (⟨#[]⟩ : ByteArray), .string (⟨#[]⟩ : ByteArray), .string (⟨#[]⟩ : ByteArray)]) ?_ 3 _ rfl; (with_reducible repeat (first | refine blk_drewN ?_ _ | refine blk_drew ?_ | refine blk_alloc ?_ _)); refine blk_put (cs := #[.int .i64 t117, .int .i64 t118, .int .i64 0, .int .i64 0, .int .i64 0, .int .i64 0, .int .i64 0, .int .i64 0, .int .i64 0, .int .i64 0, .int .i64 0, .string (⟨#[]⟩ : ByteArray), .string (⟨#[]⟩ : ByteArray), .string (⟨#[]⟩ : ByteArray)]) ?_ 2 _ rfl; (with_reducible repeat (first | refine blk_drewN ?_ _ | refine blk_drew ?_ | refine blk_alloc ?_ _)); refine blk_put (cs := #[.int .i64 t117, .int .i64 0, .int .i64 0, .int .i64 0, .int .i64 0, .int .i64 0, .int .i64 0, .int .i64 0, .int .i64 0, .int .i64 0, .int .i64 0, .string (⟨#[]⟩ : ByteArray), .string (⟨#[]⟩ : ByteArray), .string (⟨#[]⟩ : ByteArray)]) ?_ 1 _ rfl; (with_reducible repeat (first | refine blk_drewN ?_ _ | refine blk_drew ?_ | refine blk_alloc ?_ _)); refine blk_put (cs := #[.int .i64 0, .int .i64 0, .int .i64 0, .int .i64 0, .int .i64 0, .int .i64 0, .int .i64 0, .int .i64 0, .int .i64 0, .int .i64 0, .int .i64 0, .string (⟨#[]⟩ : ByteArray), .string (⟨#[]⟩ : ByteArray), .string (⟨#[]⟩ : ByteArray)]) ?_ 0 _ rfl; (with_reducible repeat (first | refine blk_drewN ?_ _ | refine blk_drew ?_ | refine blk_alloc ?_ _)); exact BK132.out) hb); have n1_ := Aside0.mk (below_step (by repeat (first | (with_reducible first | exact HB.out | apply below_alloc | apply pw_below_drewN | apply below_drew1 | refine below_set ?_ GE132.out) | exact HB.out)) hb); clear BK132; clear HB; have BK132 := n0_; have HB := n1_; clear n0_ n1_; (try clear hb); (try clear hb2); (try clear hk); (try clear hi); have hcz18_0 : w17.cell? ⟨gb132, 0, none⟩ = some (.int .i64 t117) := (blk_cell BK132.out 0).trans rfl; have hcz18_1 : w17.cell? ⟨gb132, 1, none⟩ = some (.int .i64 t118) := (blk_cell BK132.out 1).trans rfl; have hcz18_2 : w17.cell? ⟨gb132, 2, none⟩ = some (.int .i64 t119) := (blk_cell BK132.out 2).trans rfl; have hcz18_3 : w17.cell? ⟨gb132, 3, none⟩ = some (.int .i64 t120) := (blk_cell BK132.out 3).trans rfl; have hcz18_4 : w17.cell? ⟨gb132, 4, none⟩ = some (.int .i64 t121) := (blk_cell BK132.out 4).trans rfl; have hcz18_5 : w17.cell? ⟨gb132, 5, none⟩ = some (.int .i64 t122) := (blk_cell BK132.out 5).trans rfl; have hcz18_6 : w17.cell? ⟨gb132, 6, none⟩ = some (.int .i64 t123) := (blk_cell BK132.out 6).trans rfl; have hcz18_7 : w17.cell? ⟨gb132, 7, none⟩ = some (.int .i64 t124) := (blk_cell BK132.out 7).trans rfl; have hcz18_8 : w17.cell? ⟨gb132, 8, none⟩ = some (.int .i64 t125) := (blk_cell BK132.out 8).trans rfl; have hcz18_9 : w17.cell? ⟨gb132, 9, none⟩ = some (.int .i64 t126) := (blk_cell BK132.out 9).trans rfl; have hcz18_10 : w17.cell? ⟨gb132, 10, none⟩ = some (.int .i64 t127) := (blk_cell BK132.out 10).trans rfl; have hcz18_11 : w17.cell? ⟨gb132, 11, none⟩ = some (.string t128) := (blk_cell BK132.out 11).trans rfl; have hcz18_12 : w17.cell? ⟨gb132, 12, none⟩ = some (.string t129) := (blk_cell BK132.out 12).trans rfl; have hcz18_13 : w17.cell? ⟨gb132, 13, none⟩ = some (.string t130) := (blk_cell BK132.out 13).trans rfl; have hfz18_0 := blk_frozen BK132.out 0; have hfz18_1 := blk_frozen BK132.out 1; have hfz18_2 := blk_frozen BK132.out 2; have hfz18_3 := blk_frozen BK132.out 3; have hfz18_4 := blk_frozen BK132.out 4; have hfz18_5 := blk_frozen BK132.out 5; have hfz18_6 := blk_frozen BK132.out 6; have hfz18_7 := blk_frozen BK132.out 7; have hfz18_8 := blk_frozen BK132.out 8; have hfz18_9 := blk_frozen BK132.out 9; have hfz18_10 := blk_frozen BK132.out 10; have hfz18_11 := blk_frozen BK132.out 11; have hfz18_12 := blk_frozen BK132.out 12; have hfz18_13 := blk_frozen BK132.out 13))
    go_ret
    exact ⟨by first | rfl | (simp [errW_none, errW_some] <;> rfl) | (simp [*, errW_none, errW_some] <;> rfl), by repeat (first | (with_reducible first | exact HB.out | apply below_alloc | apply pw_below_drewN | apply below_drew1 | refine below_set ?_ GE132.out) | exact HB.out)⟩
  ·rw [if_neg c5] at H
   have c5b0 : (t131 == 0) = false := beq_eq_false_iff_ne.mpr c5
   have c5b1 : (t131 != 0) = true := bne_iff_ne.mpr c5
   obtain rfl := Option.some.inj H
   go_enter Try.func10, Try.ntmps10
   go_wp2_with (first | ((with_reducible refine gate_callee (f := 15) rfl ?_); refine goesL_ (some 5) rfl rfl Try.func15 (by kernel_rfl) rfl #[.agg #[.int .i64 2, .int .i64 3, .int .i64 0, .int .i64 0, .int .i64 0, .int .i64 0, .int .i64 0, .int .i64 0, .int .i64 0, .int .i64 0, .int .i64 0, .string (⟨#[]⟩ : ByteArray), .string (⟨#[]⟩ : ByteArray), .string (⟨#[]⟩ : ByteArray)]] rfl (by (try simp only [List.map_toArray, List.map_cons, List.map_nil]); first | done | rfl | (simp only [List.length_drop, List.length_take]; rfl)) ?_; (with_reducible refine (wire_Msg.calls 2 3 0 0 0 0 0 0 0 0 0 (⟨#[]⟩ : ByteArray) (⟨#[]⟩ : ByteArray) (⟨#[]⟩ : ByteArray) t116 _ A1.out).mono ?_); rintro e w19 ⟨rfl, hb⟩; refine ⟨_, rfl, ?_⟩; have n0_ := Aside0.mk (below_step (by repeat (first | (with_reducible first | exact HB.out | apply below_alloc | apply pw_below_drewN | apply below_drew1) | exact HB.out)) hb); clear HB; have HB := n0_; clear n0_; (try clear hb); (try clear hb2); (try clear hk); (try clear hi)) | ((with_reducible refine gate_callee (f := 23) rfl ?_); refine goesL_ (some 6) rfl rfl Try.func23 (by kernel_rfl) rfl #[.string t116] rfl (by (try simp only [List.map_toArray, List.map_cons, List.map_nil]); first | done | rfl | (simp only [List.length_drop, List.length_take]; rfl)) ?_; (with_reducible refine (wire_TakeMsg.calls t116 t117 t118 t119 t120 t121 t122 t123 t124 t125 t126 t127 t128 t129 t130 t131 _ A2.out).mono ?_); rintro e w20 ⟨rfl, hb⟩; refine ⟨_, rfl, ?_⟩; have n0_ := Aside0.mk (below_step (by repeat (first | (with_reducible first | exact HB.out | apply below_alloc | apply pw_below_drewN | apply below_drew1) | exact HB.out)) hb); clear HB; have HB := n0_; clear n0_; (try clear hb); (try clear hb2); (try clear hk); (try clear hi)) | ((with_reducible refine gate_dst (N := 1) rfl ?_); refine box_event ?hg (N := 1) ?hd (cs := #[.int .i64 0, .int .i64 0, .int .i64 0, .int .i64 0, .int .i64 0, .int .i64 0, .int .i64 0, .int .i64 0, .int .i64 0, .int .i64 0, .int .i64 0, .string (⟨#[]⟩ : ByteArray), .string (⟨#[]⟩ : ByteArray), .string (⟨#[]⟩ : ByteArray)]) (t := 32) ?hr ?_; (case hd => rfl); (case hg => rfl); (case hr => first | (go_simp; done) | (go_simp; rfl)); intro gb132 hg w21 hbox hb; have n0_ := Aside0.mk (below_step (by repeat (first | (with_reducible first | exact HB.out | apply below_alloc | apply pw_below_drewN | apply below_drew1) | exact HB.out)) hb); have n1_ := Aside0.mk (hbox); have n2_ := Aside0.mk ((by rw [hg]; exact (below_size (by repeat (first | (with_reducible first | exact HB.out | apply below_alloc | apply pw_below_drewN | apply below_drew1) | exact HB.out))) : w.heap.size ≤ gb132)); have n3_ := Aside0.mk ((by rw [hg]; exact (below_size (by repeat (first | (with_reducible first | exact HB.out | apply below_alloc | apply pw_below_drewN | apply below_drew1) | exact HB.out))) : w.heap.size ≤ gb132)); clear HB; have HB := n0_; have BK132 := n1_; have GW132 := n2_; have GE132 := n3_; clear n0_ n1_ n2_ n3_; clear hb hbox hg; have hcz22_0 : w21.cell? ⟨gb132, 0, none⟩ = some (.int .i64 0) := (blk_cell BK132.out 0).trans rfl; have hcz22_1 : w21.cell? ⟨gb132, 1, none⟩ = some (.int .i64 0) := (blk_cell BK132.out 1).trans rfl; have hcz22_2 : w21.cell? ⟨gb132, 2, none⟩ = some (.int .i64 0) := (blk_cell BK132.out 2).trans rfl; have hcz22_3 : w21.cell? ⟨gb132, 3, none⟩ = some (.int .i64 0) := (blk_cell BK132.out 3).trans rfl; have hcz22_4 : w21.cell? ⟨gb132, 4, none⟩ = some (.int .i64 0) := (blk_cell BK132.out 4).trans rfl; have hcz22_5 : w21.cell? ⟨gb132, 5, none⟩ = some (.int .i64 0) := (blk_cell BK132.out 5).trans rfl; have hcz22_6 : w21.cell? ⟨gb132, 6, none⟩ = some (.int .i64 0) := (blk_cell BK132.out 6).trans rfl; have hcz22_7 : w21.cell? ⟨gb132, 7, none⟩ = some (.int .i64 0) := (blk_cell BK132.out 7).trans rfl; have hcz22_8 : w21.cell? ⟨gb132, 8, none⟩ = some (.int .i64 0) := (blk_cell BK132.out 8).trans rfl; have hcz22_9 : w21.cell? ⟨gb132, 9, none⟩ = some (.int .i64 0) := (blk_cell BK132.out 9).trans rfl; have hcz22_10 : w21.cell? ⟨gb132, 10, none⟩ = some (.int .i64 0) := (blk_cell BK132.out 10).trans rfl; have hcz22_11 : w21.cell? ⟨gb132, 11, none⟩ = some (.string (⟨#[]⟩ : ByteArray)) := (blk_cell BK132.out 11).trans rfl; have hcz22_12 : w21.cell? ⟨gb132, 12, none⟩ = some (.string (⟨#[]⟩ : ByteArray)) := (blk_cell BK132.out 12).trans rfl; have hcz22_13 : w21.cell? ⟨gb132, 13, none⟩ = some (.string (⟨#[]⟩ : ByteArray)) := (blk_cell BK132.out 13).trans rfl; have hfz22_0 := blk_frozen BK132.out 0; have hfz22_1 := blk_frozen BK132.out 1; have hfz22_2 := blk_frozen BK132.out 2; have hfz22_3 := blk_frozen BK132.out 3; have hfz22_4 := blk_frozen BK132.out 4; have hfz22_5 := blk_frozen BK132.out 5; have hfz22_6 := blk_frozen BK132.out 6; have hfz22_7 := blk_frozen BK132.out 7; have hfz22_8 := blk_frozen BK132.out 8; have hfz22_9 := blk_frozen BK132.out 9; have hfz22_10 := blk_frozen BK132.out 10; have hfz22_11 := blk_frozen BK132.out 11; have hfz22_12 := blk_frozen BK132.out 12; have hfz22_13 := blk_frozen BK132.out 13) | ((with_reducible refine gate_callee (f := 12) rfl ?_); refine goesL_ (some 10) rfl rfl Try.func12 (by kernel_rfl) rfl #[.agg #[.int .i64 0, .int .i64 0, .int .i64 0, .int .i64 0, .int .i64 0, .string (⟨#[]⟩ : ByteArray), .string (⟨#[]⟩ : ByteArray), .string (⟨#[]⟩ : ByteArray)]] rfl (by (try simp only [List.map_toArray, List.map_cons, List.map_nil]); first | done | rfl | (simp only [List.length_drop, List.length_take]; rfl)) ?_; (with_reducible refine (wire_Call.calls 0 0 0 0 0 (⟨#[]⟩ : ByteArray) (⟨#[]⟩ : ByteArray) (⟨#[]⟩ : ByteArray) t133 _ A3.out).mono ?_); rintro e w23 ⟨rfl, hb⟩; refine ⟨_, rfl, ?_⟩; have n0_ := Aside0.mk (blk_below (g := gb132) (o := .cells #[.int .i64 t117, .int .i64 t118, .int .i64 t119, .int .i64 t120, .int .i64 t121, .int .i64 t122, .int .i64 t123, .int .i64 t124, .int .i64 t125, .int .i64 t126, .int .i64 t127, .string t128, .string t129, .string t130] 32 (0, 0)) (by (with_reducible repeat (first | refine blk_drewN ?_ _ | refine blk_drew ?_ | refine blk_alloc ?_ _)); refine blk_put (cs := #[.int .i64 t117, .int .i64 t118, .int .i64 t119, .int .i64 t120, .int .i64 t121, .int .i64 t122, .int .i64 t123, .int .i64 t124, .int .i64 t125, .int .i64 t126, .int .i64 t127, .string t128, .string t129, .string (⟨#[]⟩ : ByteArray)]) ?_ 13 _ rfl; (with_reducible repeat (first | refine blk_drewN ?_ _ | refine blk_drew ?_ | refine blk_alloc ?_ _)); refine blk_put (cs := #[.int .i64 t117, .int .i64 t118, .int .i64 t119, .int .i64 t120, .int .i64 t121, .int .i64 t122, .int .i64 t123, .int .i64 t124, .int .i64 t125, .int .i64 t126, .int .i64 t127, .string t128, .string (⟨#[]⟩ : ByteArray), .string (⟨#[]⟩ : ByteArray)]) ?_ 12 _ rfl; (with_reducible repeat (first | refine blk_drewN ?_ _ | refine blk_drew ?_ | refine blk_alloc ?_ _)); refine blk_put (cs := #[.int .i64 t117, .int .i64 t118, .int .i64 t119, .int .i64 t120, .int .i64 t121, .int .i64 t122, .int .i64 t123, .int .i64 t124, .int .i64 t125, .int .i64 t126, .int .i64 t127, .string (⟨#[]⟩ : ByteArray), .string (⟨#[]⟩ : ByteArray), .string (⟨#[]⟩ : ByteArray)]) ?_ 11 _ rfl; (with_reducible repeat (first | refine blk_drewN ?_ _ | refine blk_drew ?_ | refine blk_alloc ?_ _)); refine blk_put (cs := #[.int .i64 t117, .int .i64 t118, .int .i64 t119, .int .i64 t120, .int .i64 t121, .int .i64 t122, .int .i64 t123, .int .i64 t124, .int .i64 t125, .int .i64 t126, .int .i64 0, .string (⟨#[]⟩ : ByteArray), .string (⟨#[]⟩ : ByteArray), .string (⟨#[]⟩ : ByteArray)]) ?_ 10 _ rfl; (with_reducible repeat (first | refine blk_drewN ?_ _ | refine blk_drew ?_ | refine blk_alloc ?_ _)); refine blk_put (cs := #[.int .i64 t117, .int .i64 t118, .int .i64 t119, .int .i64 t120, .int .i64 t121, .int .i64 t122, .int .i64 t123, .int .i64 t124, .int .i64 t125, .int .i64 0, .int .i64 0, .string (⟨#[]⟩ : ByteArray), .string (⟨#[]⟩ : ByteArray), .string (⟨#[]⟩ : ByteArray)]) ?_ 9 _ rfl; (with_reducible repeat (first | refine blk_drewN ?_ _ | refine blk_drew ?_ | refine blk_alloc ?_ _)); refine blk_put (cs := #[.int .i64 t117, .int .i64 t118, .int .i64 t119, .int .i64 t120, .int .i64 t121, .int .i64 t122, .int .i64 t123, .int .i64 t124, .int .i64 0, .int .i64 0, .int .i64 0, .string (⟨#[]⟩ : ByteArray), .string (⟨#[]⟩ : ByteArray), .string (⟨#[]⟩ : ByteArray)]) ?_ 8 _ rfl; (with_reducible repeat (first | refine blk_drewN ?_ _ | refine blk_drew ?_ | refine blk_alloc ?_ _)); refine blk_put (cs := #[.int .i64 t117, .int .i64 t118, .int .i64 t119, .int .i64 t120, .int .i64 t121, .int .i64 t122, .int .i64 t123, .int .i64 0, .int .i64 0, .int .i64 0, .int .i64 0, .string (⟨#[]⟩ : ByteArray), .string (⟨#[]⟩ : ByteArray), .string (⟨#[]⟩ : ByteArray)]) ?_ 7 _ rfl; (with_reducible repeat (first | refine blk_drewN ?_ _ | refine blk_drew ?_ | refine blk_alloc ?_ _)); refine blk_put (cs := #[.int .i64 t117, .int .i64 t118, .int .i64 t119, .int .i64 t120, .int .i64 t121, .int .i64 t122, .int .i64 0, .int .i64 0, .int .i64 0, .int .i64 0, .int .i64 0, .string (⟨#[]⟩ : ByteArray), .string (⟨#[]⟩ : ByteArray), .string (⟨#[]⟩ : ByteArray)]) ?_ 6 _ rfl; (with_reducible repeat (first | refine blk_drewN ?_ _ | refine blk_drew ?_ | refine blk_alloc ?_ _)); refine blk_put (cs := #[.int .i64 t117, .int .i64 t118, .int .i64 t119, .int .i64 t120, .int .i64 t121, .int .i64 0, .int .i64 0, .int .i64 0, .int .i64 0, .int .i64 0, .int .i64 0, .string (⟨#[]⟩ : ByteArray), .string (⟨#[]⟩ : ByteArray), .string (⟨#[]⟩ : ByteArray)]) ?_ 5 _ rfl; (with_reducible repeat (first | refine blk_drewN ?_ _ | refine blk_drew ?_ | refine blk_alloc ?_ _)); refine blk_put (cs := #[.int .i64 t117, .int .i64 t118, .int .i64 t119, .int .i64 t120, .int .i64 0, .int .i64 0, .int .i64 0, .int .i64 0, .int .i64 0, .int .i64 0, .int .i64 0, .string (⟨#[]⟩ : ByteArray), .string (⟨#[]⟩ : ByteArray), .string (⟨#[]⟩ : ByteArray)]) ?_ 4 _ rfl; (with_reducible repeat (first | refine blk_drewN ?_ _ | refine blk_drew ?_ | refine blk_alloc ?_ _)); refine blk_put (cs := #[.int .i64 t117, .int .i64 t118, .int .i64 t119, .int .i64 0, .int .i64 0, .int .i64 0, .int .i64 0, .int .i64 0, .int .i64 0, .int .i64 0, .int .i64 0, .string (⟨#[]⟩ : ByteArray), .string (⟨#[]⟩ : ByteArray), .string (⟨#[]⟩ : ByteArray)]) ?_ 3 _ rfl; (with_reducible repeat (first | refine blk_drewN ?_ _ | refine blk_drew ?_ | refine blk_alloc ?_ _)); refine blk_put (cs := #[.int .i64 t117, .int .i64 t118, .int .i64 0, .int .i64 0, .int .i64 0, .int .i64 0, .int .i64 0, .int .i64 0, .int .i64 0, .int .i64 0, .int .i64 0, .string (⟨#[]⟩ : ByteArray), .string (⟨#[]⟩ : ByteArray), .string (⟨#[]⟩ : ByteArray)]) ?_ 2 _ rfl; (with_reducible repeat (first | refine blk_drewN ?_ _ | refine blk_drew ?_ | refine blk_alloc ?_ _)); refine blk_put (cs := #[.int .i64 t117, .int .i64 0, .int .i64 0, .int .i64 0, .int .i64 0, .int .i64 0, .int .i64 0, .int .i64 0, .int .i64 0, .int .i64 0, .int .i64 0, .string (⟨#[]⟩ : ByteArray), .string (⟨#[]⟩ : ByteArray), .string (⟨#[]⟩ : ByteArray)]) ?_ 1 _ rfl; (with_reducible repeat (first | refine blk_drewN ?_ _ | refine blk_drew ?_ | refine blk_alloc ?_ _)); refine blk_put (cs := #[.int .i64 0, .int .i64 0, .int .i64 0, .int .i64 0, .int .i64 0, .int .i64 0, .int .i64 0, .int .i64 0, .int .i64 0, .int .i64 0, .int .i64 0, .string (⟨#[]⟩ : ByteArray), .string (⟨#[]⟩ : ByteArray), .string (⟨#[]⟩ : ByteArray)]) ?_ 0 _ rfl; (with_reducible repeat (first | refine blk_drewN ?_ _ | refine blk_drew ?_ | refine blk_alloc ?_ _)); exact BK132.out) hb); have n1_ := Aside0.mk (below_step (by repeat (first | (with_reducible first | exact HB.out | apply below_alloc | apply pw_below_drewN | apply below_drew1 | refine below_set ?_ GE132.out) | exact HB.out)) hb); clear BK132; clear HB; have BK132 := n0_; have HB := n1_; clear n0_ n1_; (try clear hb); (try clear hb2); (try clear hk); (try clear hi)))
   go_ret
   exact ⟨by first | rfl | (simp [errW_none, errW_some] <;> rfl) | (simp [*, errW_none, errW_some] <;> rfl), by repeat (first | (with_reducible first | exact HB.out | apply below_alloc | apply pw_below_drewN | apply below_drew1 | refine below_set ?_ GE132.out) | exact HB.out)⟩
 ·rw [if_neg c4] at H
  have c4b0 : (t133.toList == ([0, 0, 0, 0, 0, 0, 0, 0] : List UInt8)) = false := beq_eq_false_iff_ne.mpr c4
  have c4b1 : (t133.toList != ([0, 0, 0, 0, 0, 0, 0, 0] : List UInt8)) = true := bne_iff_ne.mpr c4
  obtain rfl := Option.some.inj H
  go_enter Try.func10, Try.ntmps10
  go_wp2_with (first | ((with_reducible refine gate_callee (f := 15) rfl ?_); refine goesL_ (some 5) rfl rfl Try.func15 (by kernel_rfl) rfl #[.agg #[.int .i64 2, .int .i64 3, .int .i64 0, .int .i64 0, .int .i64 0, .int .i64 0, .int .i64 0, .int .i64 0, .int .i64 0, .int .i64 0, .int .i64 0, .string (⟨#[]⟩ : ByteArray), .string (⟨#[]⟩ : ByteArray), .string (⟨#[]⟩ : ByteArray)]] rfl (by (try simp only [List.map_toArray, List.map_cons, List.map_nil]); first | done | rfl | (simp only [List.length_drop, List.length_take]; rfl)) ?_; (with_reducible refine (wire_Msg.calls 2 3 0 0 0 0 0 0 0 0 0 (⟨#[]⟩ : ByteArray) (⟨#[]⟩ : ByteArray) (⟨#[]⟩ : ByteArray) t116 _ A1.out).mono ?_); rintro e w24 ⟨rfl, hb⟩; refine ⟨_, rfl, ?_⟩; have n0_ := Aside0.mk (below_step (by repeat (first | (with_reducible first | exact HB.out | apply below_alloc | apply pw_below_drewN | apply below_drew1) | exact HB.out)) hb); clear HB; have HB := n0_; clear n0_; (try clear hb); (try clear hb2); (try clear hk); (try clear hi)) | ((with_reducible refine gate_callee (f := 23) rfl ?_); refine goesL_ (some 6) rfl rfl Try.func23 (by kernel_rfl) rfl #[.string t116] rfl (by (try simp only [List.map_toArray, List.map_cons, List.map_nil]); first | done | rfl | (simp only [List.length_drop, List.length_take]; rfl)) ?_; (with_reducible refine (wire_TakeMsg.calls t116 t117 t118 t119 t120 t121 t122 t123 t124 t125 t126 t127 t128 t129 t130 t131 _ A2.out).mono ?_); rintro e w25 ⟨rfl, hb⟩; refine ⟨_, rfl, ?_⟩; have n0_ := Aside0.mk (below_step (by repeat (first | (with_reducible first | exact HB.out | apply below_alloc | apply pw_below_drewN | apply below_drew1) | exact HB.out)) hb); clear HB; have HB := n0_; clear n0_; (try clear hb); (try clear hb2); (try clear hk); (try clear hi)) | ((with_reducible refine gate_dst (N := 1) rfl ?_); refine box_event ?hg (N := 1) ?hd (cs := #[.int .i64 0, .int .i64 0, .int .i64 0, .int .i64 0, .int .i64 0, .int .i64 0, .int .i64 0, .int .i64 0, .int .i64 0, .int .i64 0, .int .i64 0, .string (⟨#[]⟩ : ByteArray), .string (⟨#[]⟩ : ByteArray), .string (⟨#[]⟩ : ByteArray)]) (t := 32) ?hr ?_; (case hd => rfl); (case hg => rfl); (case hr => first | (go_simp; done) | (go_simp; rfl)); intro gb132 hg w26 hbox hb; have n0_ := Aside0.mk (below_step (by repeat (first | (with_reducible first | exact HB.out | apply below_alloc | apply pw_below_drewN | apply below_drew1) | exact HB.out)) hb); have n1_ := Aside0.mk (hbox); have n2_ := Aside0.mk ((by rw [hg]; exact (below_size (by repeat (first | (with_reducible first | exact HB.out | apply below_alloc | apply pw_below_drewN | apply below_drew1) | exact HB.out))) : w.heap.size ≤ gb132)); have n3_ := Aside0.mk ((by rw [hg]; exact (below_size (by repeat (first | (with_reducible first | exact HB.out | apply below_alloc | apply pw_below_drewN | apply below_drew1) | exact HB.out))) : w.heap.size ≤ gb132)); clear HB; have HB := n0_; have BK132 := n1_; have GW132 := n2_; have GE132 := n3_; clear n0_ n1_ n2_ n3_; clear hb hbox hg; have hcz27_0 : w26.cell? ⟨gb132, 0, none⟩ = some (.int .i64 0) := (blk_cell BK132.out 0).trans rfl; have hcz27_1 : w26.cell? ⟨gb132, 1, none⟩ = some (.int .i64 0) := (blk_cell BK132.out 1).trans rfl; have hcz27_2 : w26.cell? ⟨gb132, 2, none⟩ = some (.int .i64 0) := (blk_cell BK132.out 2).trans rfl; have hcz27_3 : w26.cell? ⟨gb132, 3, none⟩ = some (.int .i64 0) := (blk_cell BK132.out 3).trans rfl; have hcz27_4 : w26.cell? ⟨gb132, 4, none⟩ = some (.int .i64 0) := (blk_cell BK132.out 4).trans rfl; have hcz27_5 : w26.cell? ⟨gb132, 5, none⟩ = some (.int .i64 0) := (blk_cell BK132.out 5).trans rfl; have hcz27_6 : w26.cell? ⟨gb132, 6, none⟩ = some (.int .i64 0) := (blk_cell BK132.out 6).trans rfl; have hcz27_7 : w26.cell? ⟨gb132, 7, none⟩ = some (.int .i64 0) := (blk_cell BK132.out 7).trans rfl; have hcz27_8 : w26.cell? ⟨gb132, 8, none⟩ = some (.int .i64 0) := (blk_cell BK132.out 8).trans rfl; have hcz27_9 : w26.cell? ⟨gb132, 9, none⟩ = some (.int .i64 0) := (blk_cell BK132.out 9).trans rfl; have hcz27_10 : w26.cell? ⟨gb132, 10, none⟩ = some (.int .i64 0) := (blk_cell BK132.out 10).trans rfl; have hcz27_11 : w26.cell? ⟨gb132, 11, none⟩ = some (.string (⟨#[]⟩ : ByteArray)) := (blk_cell BK132.out 11).trans rfl; have hcz27_12 : w26.cell? ⟨gb132, 12, none⟩ = some (.string (⟨#[]⟩ : ByteArray)) := (blk_cell BK132.out 12).trans rfl; have hcz27_13 : w26.cell? ⟨gb132, 13, none⟩ = some (.string (⟨#[]⟩ : ByteArray)) := (blk_cell BK132.out 13).trans rfl; have hfz27_0 := blk_frozen BK132.out 0; have hfz27_1 := blk_frozen BK132.out 1; have hfz27_2 := blk_frozen BK132.out 2; have hfz27_3 := blk_frozen BK132.out 3; have hfz27_4 := blk_frozen BK132.out 4; have hfz27_5 := blk_frozen BK132.out 5; have hfz27_6 := blk_frozen BK132.out 6; have hfz27_7 := blk_frozen BK132.out 7; have hfz27_8 := blk_frozen BK132.out 8; have hfz27_9 := blk_frozen BK132.out 9; have hfz27_10 := blk_frozen BK132.out 10; have hfz27_11 := blk_frozen BK132.out 11; have hfz27_12 := blk_frozen BK132.out 12; have hfz27_13 := blk_frozen BK132.out 13) | ((with_reducible refine gate_callee (f := 12) rfl ?_); refine goesL_ (some 10) rfl rfl Try.func12 (by kernel_rfl) rfl #[.agg #[.int .i64 0, .int .i64 0, .int .i64 0, .int .i64 0, .int .i64 0, .string (⟨#[]⟩ : ByteArray), .string (⟨#[]⟩ : ByteArray), .string (⟨#[]⟩ : ByteArray)]] rfl (by (try simp only [List.map_toArray, List.map_cons, List.map_nil]); first | done | rfl | (simp only [List.length_drop, List.length_take]; rfl)) ?_; (with_reducible refine (wire_Call.calls 0 0 0 0 0 (⟨#[]⟩ : ByteArray) (⟨#[]⟩ : ByteArray) (⟨#[]⟩ : ByteArray) t133 _ A3.out).mono ?_); rintro e w28 ⟨rfl, hb⟩; refine ⟨_, rfl, ?_⟩; have n0_ := Aside0.mk (blk_below (g := gb132) (o := .cells #[.int .i64 t117, .int .i64 t118, .int .i64 t119, .int .i64 t120, .int .i64 t121, .int .i64 t122, .int .i64 t123, .int .i64 t124, .int .i64 t125, .int .i64 t126, .int .i64 t127, .string t128, .string t129, .string t130] 32 (0, 0)) (by (with_reducible repeat (first | refine blk_drewN ?_ _ | refine blk_drew ?_ | refine blk_alloc ?_ _)); refine blk_put (cs := #[.int .i64 t117, .int .i64 t118, .int .i64 t119, .int .i64 t120, .int .i64 t121, .int .i64 t122, .int .i64 t123, .int .i64 t124, .int .i64 t125, .int .i64 t126, .int .i64 t127, .string t128, .string t129, .string (⟨#[]⟩ : ByteArray)]) ?_ 13 _ rfl; (with_reducible repeat (first | refine blk_drewN ?_ _ | refine blk_drew ?_ | refine blk_alloc ?_ _)); refine blk_put (cs := #[.int .i64 t117, .int .i64 t118, .int .i64 t119, .int .i64 t120, .int .i64 t121, .int .i64 t122, .int .i64 t123, .int .i64 t124, .int .i64 t125, .int .i64 t126, .int .i64 t127, .string t128, .string (⟨#[]⟩ : ByteArray), .string (⟨#[]⟩ : ByteArray)]) ?_ 12 _ rfl; (with_reducible repeat (first | refine blk_drewN ?_ _ | refine blk_drew ?_ | refine blk_alloc ?_ _)); refine blk_put (cs := #[.int .i64 t117, .int .i64 t118, .int .i64 t119, .int .i64 t120, .int .i64 t121, .int .i64 t122, .int .i64 t123, .int .i64 t124, .int .i64 t125, .int .i64 t126, .int .i64 t127, .string (⟨#[]⟩ : ByteArray), .string (⟨#[]⟩ : ByteArray), .string (⟨#[]⟩ : ByteArray)]) ?_ 11 _ rfl; (with_reducible repeat (first | refine blk_drewN ?_ _ | refine blk_drew ?_ | refine blk_alloc ?_ _)); refine blk_put (cs := #[.int .i64 t117, .int .i64 t118, .int .i64 t119, .int .i64 t120, .int .i64 t121, .int .i64 t122, .int .i64 t123, .int .i64 t124, .int .i64 t125, .int .i64 t126, .int .i64 0, .string (⟨#[]⟩ : ByteArray), .string (⟨#[]⟩ : ByteArray), .string (⟨#[]⟩ : ByteArray)]) ?_ 10 _ rfl; (with_reducible repeat (first | refine blk_drewN ?_ _ | refine blk_drew ?_ | refine blk_alloc ?_ _)); refine blk_put (cs := #[.int .i64 t117, .int .i64 t118, .int .i64 t119, .int .i64 t120, .int .i64 t121, .int .i64 t122, .int .i64 t123, .int .i64 t124, .int .i64 t125, .int .i64 0, .int .i64 0, .string (⟨#[]⟩ : ByteArray), .string (⟨#[]⟩ : ByteArray), .string (⟨#[]⟩ : ByteArray)]) ?_ 9 _ rfl; (with_reducible repeat (first | refine blk_drewN ?_ _ | refine blk_drew ?_ | refine blk_alloc ?_ _)); refine blk_put (cs := #[.int .i64 t117, .int .i64 t118, .int .i64 t119, .int .i64 t120, .int .i64 t121, .int .i64 t122, .int .i64 t123, .int .i64 t124, .int .i64 0, .int .i64 0, .int .i64 0, .string (⟨#[]⟩ : ByteArray), .string (⟨#[]⟩ : ByteArray), .string (⟨#[]⟩ : ByteArray)]) ?_ 8 _ rfl; (with_reducible repeat (first | refine blk_drewN ?_ _ | refine blk_drew ?_ | refine blk_alloc ?_ _)); refine blk_put (cs := #[.int .i64 t117, .int .i64 t118, .int .i64 t119, .int .i64 t120, .int .i64 t121, .int .i64 t122, .int .i64 t123, .int .i64 0, .int .i64 0, .int .i64 0, .int .i64 0, .string (⟨#[]⟩ : ByteArray), .string (⟨#[]⟩ : ByteArray), .string (⟨#[]⟩ : ByteArray)]) ?_ 7 _ rfl; (with_reducible repeat (first | refine blk_drewN ?_ _ | refine blk_drew ?_ | refine blk_alloc ?_ _)); refine blk_put (cs := #[.int .i64 t117, .int .i64 t118, .int .i64 t119, .int .i64 t120, .int .i64 t121, .int .i64 t122, .int .i64 0, .int .i64 0, .int .i64 0, .int .i64 0, .int .i64 0, .string (⟨#[]⟩ : ByteArray), .string (⟨#[]⟩ : ByteArray), .string (⟨#[]⟩ : ByteArray)]) ?_ 6 _ rfl; (with_reducible repeat (first | refine blk_drewN ?_ _ | refine blk_drew ?_ | refine blk_alloc ?_ _)); refine blk_put (cs := #[.int .i64 t117, .int .i64 t118, .int .i64 t119, .int .i64 t120, .int .i64 t121, .int .i64 0, .int .i64 0, .int .i64 0, .int .i64 0, .int .i64 0, .int .i64 0, .string (⟨#[]⟩ : ByteArray), .string (⟨#[]⟩ : ByteArray), .string (⟨#[]⟩ : ByteArray)]) ?_ 5 _ rfl; (with_reducible repeat (first | refine blk_drewN ?_ _ | refine blk_drew ?_ | refine blk_alloc ?_ _)); refine blk_put (cs := #[.int .i64 t117, .int .i64 t118, .int .i64 t119, .int .i64 t120, .int .i64 0, .int .i64 0, .int .i64 0, .int .i64 0, .int .i64 0, .int .i64 0, .int .i64 0, .string (⟨#[]⟩ : ByteArray), .string (⟨#[]⟩ : ByteArray), .string (⟨#[]⟩ : ByteArray)]) ?_ 4 _ rfl; (with_reducible repeat (first | refine blk_drewN ?_ _ | refine blk_drew ?_ | refine blk_alloc ?_ _)); refine blk_put (cs := #[.int .i64 t117, .int .i64 t118, .int .i64 t119, .int .i64 0, .int .i64 0, .int .i64 0, .int .i64 0, .int .i64 0, .int .i64 0, .int .i64 0, .int .i64 0, .string (⟨#[]⟩ : ByteArray), .string (⟨#[]⟩ : ByteArray), .string (⟨#[]⟩ : ByteArray)]) ?_ 3 _ rfl; (with_reducible repeat (first | refine blk_drewN ?_ _ | refine blk_drew ?_ | refine blk_alloc ?_ _)); refine blk_put (cs := #[.int .i64 t117, .int .i64 t118, .int .i64 0, .int .i64 0, .int .i64 0, .int .i64 0, .int .i64 0, .int .i64 0, .int .i64 0, .int .i64 0, .int .i64 0, .string (⟨#[]⟩ : ByteArray), .string (⟨#[]⟩ : ByteArray), .string (⟨#[]⟩ : ByteArray)]) ?_ 2 _ rfl; (with_reducible repeat (first | refine blk_drewN ?_ _ | refine blk_drew ?_ | refine blk_alloc ?_ _)); refine blk_put (cs := #[.int .i64 t117, .int .i64 0, .int .i64 0, .int .i64 0, .int .i64 0, .int .i64 0, .int .i64 0, .int .i64 0, .int .i64 0, .int .i64 0, .int .i64 0, .string (⟨#[]⟩ : ByteArray), .string (⟨#[]⟩ : ByteArray), .string (⟨#[]⟩ : ByteArray)]) ?_ 1 _ rfl; (with_reducible repeat (first | refine blk_drewN ?_ _ | refine blk_drew ?_ | refine blk_alloc ?_ _)); refine blk_put (cs := #[.int .i64 0, .int .i64 0, .int .i64 0, .int .i64 0, .int .i64 0, .int .i64 0, .int .i64 0, .int .i64 0, .int .i64 0, .int .i64 0, .int .i64 0, .string (⟨#[]⟩ : ByteArray), .string (⟨#[]⟩ : ByteArray), .string (⟨#[]⟩ : ByteArray)]) ?_ 0 _ rfl; (with_reducible repeat (first | refine blk_drewN ?_ _ | refine blk_drew ?_ | refine blk_alloc ?_ _)); exact BK132.out) hb); have n1_ := Aside0.mk (below_step (by repeat (first | (with_reducible first | exact HB.out | apply below_alloc | apply pw_below_drewN | apply below_drew1 | refine below_set ?_ GE132.out) | exact HB.out)) hb); clear BK132; clear HB; have BK132 := n0_; have HB := n1_; clear n0_ n1_; (try clear hb); (try clear hb2); (try clear hk); (try clear hi)))
  go_ret
  exact ⟨by first | rfl | (simp [errW_none, errW_some] <;> rfl) | (simp [*, errW_none, errW_some] <;> rfl), by repeat (first | (with_reducible first | exact HB.out | apply below_alloc | apply pw_below_drewN | apply below_drew1 | refine below_set ?_ GE132.out) | exact HB.out)⟩

/-! ### copyholdlaw15_short: function 11 -/
def copyholdlaw15_short.f (a0_0 : Int) (a0_1 : Int) (a0_2 : Int) (a0_3 : Int) (a0_4 : Int) (a0_5 : ByteArray) (a0_6 : ByteArray) (a0_7 : ByteArray) : Option (Bool) := some (decide ((wrap64 ((wrap64 ((a0_5.size : Int) + (a0_6.size : Int))) + (a0_7.size : Int))) ≤ 4000))
set_option maxHeartbeats 8000000 in
set_option maxRecDepth 100000 in
theorem copyholdlaw15_short.calls (a0_0 : Int) (a0_1 : Int) (a0_2 : Int) (a0_3 : Int) (a0_4 : Int) (a0_5 : ByteArray) (a0_6 : ByteArray) (a0_7 : ByteArray) (r : Bool) (w : World) (h : copyholdlaw15_short.f a0_0 a0_1 a0_2 a0_3 a0_4 a0_5 a0_6 a0_7 = some r) :
  Calls Try.prog 11 #[.agg #[.int .i64 a0_0, .int .i64 a0_1, .int .i64 a0_2, .int .i64 a0_3, .int .i64 a0_4, .string a0_5, .string a0_6, .string a0_7]] w fun e w' => e = .returned (.bool r) ∧ Below w.heap.size w w' := by
 have hu23 := Try.underlying23
 have HB := Aside0.mk (Below.refl w.heap.size w)
 have H : (some (decide ((wrap64 ((wrap64 ((a0_5.size : Int) + (a0_6.size : Int))) + (a0_7.size : Int))) ≤ 4000))) = some r := h
 clear h
 obtain rfl := Option.some.inj H
 go_enter Try.func11, Try.ntmps11
 go_wp2_with (first | ((with_reducible refine gate_dst (N := 1) rfl ?_); refine box_event ?hg (N := 1) ?hd (cs := #[.int .i64 a0_0, .int .i64 a0_1, .int .i64 a0_2, .int .i64 a0_3, .int .i64 a0_4, .string a0_5, .string a0_6, .string a0_7]) (t := 23) ?hr ?_; (case hd => rfl); (case hg => rfl); (case hr => first | (go_simp; done) | (go_simp; rfl)); intro gb134 hg w2 hbox hb; have n0_ := Aside0.mk (below_step (by repeat (first | (with_reducible first | exact HB.out | apply below_alloc | apply pw_below_drewN | apply below_drew1) | exact HB.out)) hb); have n1_ := Aside0.mk (hbox); have n2_ := Aside0.mk ((by rw [hg]; exact (below_size (by repeat (first | (with_reducible first | exact HB.out | apply below_alloc | apply pw_below_drewN | apply below_drew1) | exact HB.out))) : w.heap.size ≤ gb134)); have n3_ := Aside0.mk ((by rw [hg]; exact (below_size (by repeat (first | (with_reducible first | exact HB.out | apply below_alloc | apply pw_below_drewN | apply below_drew1) | exact HB.out))) : w.heap.size ≤ gb134)); clear HB; have HB := n0_; have BK134 := n1_; have GW134 := n2_; have GE134 := n3_; clear n0_ n1_ n2_ n3_; clear hb hbox hg; have hcz3_0 : w2.cell? ⟨gb134, 0, none⟩ = some (.int .i64 a0_0) := (blk_cell BK134.out 0).trans rfl; have hcz3_1 : w2.cell? ⟨gb134, 1, none⟩ = some (.int .i64 a0_1) := (blk_cell BK134.out 1).trans rfl; have hcz3_2 : w2.cell? ⟨gb134, 2, none⟩ = some (.int .i64 a0_2) := (blk_cell BK134.out 2).trans rfl; have hcz3_3 : w2.cell? ⟨gb134, 3, none⟩ = some (.int .i64 a0_3) := (blk_cell BK134.out 3).trans rfl; have hcz3_4 : w2.cell? ⟨gb134, 4, none⟩ = some (.int .i64 a0_4) := (blk_cell BK134.out 4).trans rfl; have hcz3_5 : w2.cell? ⟨gb134, 5, none⟩ = some (.string a0_5) := (blk_cell BK134.out 5).trans rfl; have hcz3_6 : w2.cell? ⟨gb134, 6, none⟩ = some (.string a0_6) := (blk_cell BK134.out 6).trans rfl; have hcz3_7 : w2.cell? ⟨gb134, 7, none⟩ = some (.string a0_7) := (blk_cell BK134.out 7).trans rfl; have hfz3_0 := blk_frozen BK134.out 0; have hfz3_1 := blk_frozen BK134.out 1; have hfz3_2 := blk_frozen BK134.out 2; have hfz3_3 := blk_frozen BK134.out 3; have hfz3_4 := blk_frozen BK134.out 4; have hfz3_5 := blk_frozen BK134.out 5; have hfz3_6 := blk_frozen BK134.out 6; have hfz3_7 := blk_frozen BK134.out 7))
 go_ret
 exact ⟨by first | rfl | (simp [errW_none, errW_some] <;> rfl) | (simp [*, errW_none, errW_some] <;> rfl), by repeat (first | (with_reducible first | exact HB.out | apply below_alloc | apply pw_below_drewN | apply below_drew1 | refine below_set ?_ GE134.out) | exact HB.out)⟩

-- GIVEN: function 13 (wire_TakeCall): its Lean function and its contract stand in a text of this session's

end Go.Proofs.Ytgnmhbkialgeaaa.Q
end

section
/- The machine's side of laws of this seat: Go functions as Lean functions, and the proof that a call of each comes to what its function says (written by a program of this session, px.py, that runs the kit's print). -/
namespace Go.Proofs.Ytgnmhbkialgeaaa.Q
open Go.RowKit Go.Proofs.YtgnmhbkialgeaaaW.PrintWords Go.Proofs.YtgnmhbkialgeaaaW.PrintLast Go.Proofs.YtgnmhbkialgeaaaW.PrintMore
attribute [local go_sem] max2_int min2_int max_two min_two max_three min_three max_four min_four   -- for this text's walks alone
attribute [local go_sem high] Go.Proofs.Ytgnmhbkialgeaaa.px_xor_u8 Go.Proofs.Ytgnmhbkialgeaaa.px_xor_u16 Go.Proofs.Ytgnmhbkialgeaaa.px_xor_u32 Go.Proofs.Ytgnmhbkialgeaaa.px_xor_u64
set_option linter.unusedVariables false
set_option linter.unusedSimpArgs false

attribute [local go_sem high] eqA23
/-! ### copyholdlaw15_WireCalls: function 3 -/
end Go.Proofs.Ytgnmhbkialgeaaa.Q
end