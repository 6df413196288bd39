import Derived.Test.YtcbfnfggnocndaaZRedo26
import Derived.Test.YtcbfnfggnocndaaZRedo27
import Derived.Test.YtcbfnfggnocndaaZRedo22
import Derived.Test.YtcbfnfggnocndaaZRedo1
import Derived.Laws.IdiomStrings
import Derived.Test.YtcbfnfggnocndaaZRedo23
import Derived.RangeFuncBox
import Derived.RangeFuncNested
import Derived.RangeFuncLeaves
import Derived.Shelf.Abstract
import Derived.Shelf.AbstractIn
import Derived.WalkKit
import Derived.OwnWalkIn
import Derived.TacticsInMore
import Derived.LoopNIn
import Derived.LoopIn
import Derived.Maps.AppendAt
import Derived.Lib.Hide
import Derived.Outline
import Derived.BigQuiet
set_option linter.unusedVariables false
set_option linter.unusedSimpArgs false
section
namespace Go.Proofs.Ytcbfnfggnocndaa
open Go.RowKit Go.Shelf Go.Proofs.Ytcbfnfggnocndaa.Q Go.Proofs.YtcbfnfggnocndaaW.PrintWords Go.Proofs.YtcbfnfggnocndaaW.PrintLast Go.Proofs.YtcbfnfggnocndaaW.PrintMore Math
def laidP (fr mn at_ : Nat) : Nat → List ByteArray → List S88
 | _, [] => []
 | i, s :: l => ⟨((fr + (at_ + i) % mn : Nat) : Int), fillS s⟩ :: laidP fr mn at_ (i + 1) l
theorem laidP_len (fr mn at_ : Nat) : ∀ (l : List ByteArray) (i : Nat), (laidP fr mn at_ i l).length = l.length
 | [], _ => rfl
 | _ :: l, i => by unfold laidP; rw [List.length_cons, List.length_cons, laidP_len fr mn at_ l]
theorem laidP_snoc (fr mn at_ : Nat) (s : ByteArray) : ∀ (l : List ByteArray) (i : Nat), laidP fr mn at_ i (l ++ [s]) = laidP fr mn at_ i l ++ [⟨((fr + (at_ + (i + l.length)) % mn : Nat) : Int), fillS s⟩]
 | [], i => rfl
 | x :: l, i => by
  rw [List.cons_append]
  unfold laidP
  rw [laidP_snoc fr mn at_ s l (i + 1), List.cons_append, List.length_cons, show i + 1 + l.length = i + (l.length + 1) by omega]
theorem set3 {W : World} {b : Nat} {a c e x y z : Value} {t : TypeId} (h : W.heap[b]? = some (.cells #[a, c, e] t (0, 0))) :
  (((W.setCell ⟨b, 0, none⟩ x).setCell ⟨b, 1, none⟩ y).setCell ⟨b, 2, none⟩ z).heap[b]? = some (.cells #[x, y, z] t (0, 0)) :=
 heap_setCell_same _ b 2 #[x, y, e] t z (heap_setCell_same _ b 1 #[x, c, e] t y (heap_setCell_same W b 0 #[a, c, e] t x h))
structure LayS (w W : World) (Q : Nat → Prop) (fr mn : Int) (l0 : List ByteArray) (l1 : List S88) (v0 v1 : Value) : Prop where
 d : W.heap[w.heap.size]? = some (.cells #[v0, v1, .bool false] 25 (0, 0))
 r : W.heap[w.heap.size + 1]? = some (.cells #[.int .i64 fr, .int .i64 mn] 27 (0, 0))
 o : W.heap[w.heap.size + 2]? = some (.cells #[.slice none 0 0, .slice none 0 0, .bool false] 25 (0, 0))
 v0 : Kd.V Kd.string 9 W w.heap.size Q v0 l0
 v1 : Kd.V k88 88 W w.heap.size Q v1 l1
 b : Below w.heap.size w W
namespace LayS
variable {w W W' : World} {Q : Nat → Prop} {fr mn : Int} {l0 : List ByteArray} {l1 : List S88} {v0 v1 : Value}
theorem step (h : LayS w W Q fr mn l0 l1 v0 v1) (hb : Below W.heap.size W W') : LayS w W' Q fr mn l0 l1 v0 v1 :=
 ⟨(hb.block _ (blk_lt h.d)).trans h.d, (hb.block _ (blk_lt h.r)).trans h.r, (hb.block _ (blk_lt h.o)).trans h.o, Kd.V_below h.v0 hb, Kd.V_below h.v1 hb, h.b.trans (hb.mono h.b.size)⟩
theorem drew (h : LayS w W Q fr mn l0 l1 v0 v1) : LayS w W.drew Q fr mn l0 l1 v0 v1 := ⟨h.d, h.r, h.o, Kd.V_drew h.v0, Kd.V_drew h.v1, below_drew h.b⟩
theorem c0 (h : LayS w W Q fr mn l0 l1 v0 v1) : W.cell? ⟨w.heap.size, 0, none⟩ = some v0 := by rw [blk_cell h.d]; rfl
theorem c1 (h : LayS w W Q fr mn l0 l1 v0 v1) : W.cell? ⟨w.heap.size, 1, none⟩ = some v1 := by rw [blk_cell h.d]; rfl
theorem c2 (h : LayS w W Q fr mn l0 l1 v0 v1) : W.cell? ⟨w.heap.size, 2, none⟩ = some (.bool false) := by rw [blk_cell h.d]; rfl
theorem r0 (h : LayS w W Q fr mn l0 l1 v0 v1) : W.cell? ⟨w.heap.size + 1, 0, none⟩ = some (.int .i64 fr) := by rw [blk_cell h.r]; rfl
theorem r1 (h : LayS w W Q fr mn l0 l1 v0 v1) : W.cell? ⟨w.heap.size + 1, 1, none⟩ = some (.int .i64 mn) := by rw [blk_cell h.r]; rfl
theorem f0 (h : LayS w W Q fr mn l0 l1 v0 v1) : W.frozen? ⟨w.heap.size, 0, none⟩ = false := blk_frozen h.d 0
theorem f1 (h : LayS w W Q fr mn l0 l1 v0 v1) : W.frozen? ⟨w.heap.size, 1, none⟩ = false := blk_frozen h.d 1
theorem f2 (h : LayS w W Q fr mn l0 l1 v0 v1) : W.frozen? ⟨w.heap.size, 2, none⟩ = false := blk_frozen h.d 2
theorem p0 (h : LayS w W Q fr mn l0 l1 v0 v1) : W.cell? ⟨w.heap.size + 1 + 1, 0, none⟩ = some (.slice none 0 0) := by rw [blk_cell (g := w.heap.size + 1 + 1) h.o]; rfl
theorem p1 (h : LayS w W Q fr mn l0 l1 v0 v1) : W.cell? ⟨w.heap.size + 1 + 1, 1, none⟩ = some (.slice none 0 0) := by rw [blk_cell (g := w.heap.size + 1 + 1) h.o]; rfl
theorem p2 (h : LayS w W Q fr mn l0 l1 v0 v1) : W.cell? ⟨w.heap.size + 1 + 1, 2, none⟩ = some (.bool false) := by rw [blk_cell (g := w.heap.size + 1 + 1) h.o]; rfl
theorem g0 (h : LayS w W Q fr mn l0 l1 v0 v1) : W.frozen? ⟨w.heap.size + 1 + 1, 0, none⟩ = false := blk_frozen (g := w.heap.size + 1 + 1) h.o 0
theorem g1 (h : LayS w W Q fr mn l0 l1 v0 v1) : W.frozen? ⟨w.heap.size + 1 + 1, 1, none⟩ = false := blk_frozen (g := w.heap.size + 1 + 1) h.o 1
theorem g2 (h : LayS w W Q fr mn l0 l1 v0 v1) : W.frozen? ⟨w.heap.size + 1 + 1, 2, none⟩ = false := blk_frozen (g := w.heap.size + 1 + 1) h.o 2
theorem set {u0 u1 : Value} {k0 : List ByteArray} {k1 : List S88} (h : LayS w W Q fr mn l0 l1 v0 v1) (hQ : ∀ k, Q k → k ≠ w.heap.size) (h0 : Kd.V Kd.string 9 W w.heap.size Q u0 k0) (h1 : Kd.V k88 88 W w.heap.size Q u1 k1) :
  LayS w (((W.setCell ⟨w.heap.size, 0, none⟩ u0).setCell ⟨w.heap.size, 1, none⟩ u1).setCell ⟨w.heap.size, 2, none⟩ (.bool false)) Q fr mn k0 k1 u0 u1 := by
 refine ⟨set3 h.d, ?_, ?_, ?_, ?_, ?_⟩
 ·rw [heap_setCell_other _ ⟨w.heap.size, 2, none⟩ _ _ (show w.heap.size + 1 ≠ w.heap.size by omega), heap_setCell_other _ ⟨w.heap.size, 1, none⟩ _ _ (show w.heap.size + 1 ≠ w.heap.size by omega), heap_setCell_other _ ⟨w.heap.size, 0, none⟩ _ _ (show w.heap.size + 1 ≠ w.heap.size by omega)]; exact h.r
 ·rw [heap_setCell_other _ ⟨w.heap.size, 2, none⟩ _ _ (show w.heap.size + 2 ≠ w.heap.size by omega), heap_setCell_other _ ⟨w.heap.size, 1, none⟩ _ _ (show w.heap.size + 2 ≠ w.heap.size by omega), heap_setCell_other _ ⟨w.heap.size, 0, none⟩ _ _ (show w.heap.size + 2 ≠ w.heap.size by omega)]; exact h.o
 ·exact Kd.V_far (Kd.V_far (Kd.V_far h0 hQ _) hQ _) hQ _
 ·exact Kd.V_far (Kd.V_far (Kd.V_far h1 hQ _) hQ _) hQ _
 ·exact ((h.b.setCell (p := ⟨w.heap.size, 0, none⟩) (Nat.le_refl _) _).setCell (p := ⟨w.heap.size, 1, none⟩) (Nat.le_refl _) _).setCell (p := ⟨w.heap.size, 2, none⟩) (Nat.le_refl _) _
end LayS
set_option maxHeartbeats 4000000 in
set_option maxRecDepth 1000000 in
theorem lay_calls (P0 P1 : Nat → Prop) (A0 : Option Addr) (c0 : Nat) (l0 : List ByteArray) (A1 : Option Addr) (c1 : Nat) (l1 : List S88) (fr mn at_ : Nat) (A3 : Option Addr) (c3 : Nat) (l : List ByteArray) (w : World)
  (hs0 : Kd.V Kd.string 9 w w.heap.size P0 (.slice A0 l0.length c0) l0) (hs1 : Kd.V k88 88 w w.heap.size P1 (.slice A1 l1.length c1) l1) (hr : RdS w A3 l) (hll : l.length ≤ 1000000) (hsz : ∀ s ∈ l, s.size ≤ 64)
  (hm : 1 ≤ mn) (hfm : fr + mn ≤ l0.length) (hn0 : l0.length ≤ 1000000000) (hl1 : l1.length + l.length ≤ 1000000000) (hat : at_ ≤ 1000000000) :
  Calls Try.prog 32 #[.agg #[.slice A0 l0.length c0, .slice A1 l1.length c1, .bool false], .agg #[.int .i64 fr, .int .i64 mn], .int .i64 at_, .slice A3 l.length c3] w fun e w' => ∃ v0 v1, e = .returned (.agg #[v0, v1, .bool false]) ∧
   Kd.V Kd.string 9 w' w.heap.size (fun k => (P0 k ∨ P1 k) ∨ w.heap.size ≤ k) v0 l0 ∧ Kd.V k88 88 w' w.heap.size (fun k => (P0 k ∨ P1 k) ∨ w.heap.size ≤ k) v1 (l1 ++ laidP fr mn at_ 0 l) ∧ Below w.heap.size w w' := by
 obtain ⟨Q, hQ⟩ : ∃ Q : Nat → Prop, Q = fun k => ((P0 k ∨ P1 k) ∧ k < w.heap.size) ∨ w.heap.size + 3 ≤ k := ⟨_, rfl⟩
 have hQne : ∀ k, Q k → k ≠ w.heap.size ∧ k ≠ w.heap.size + 1 ∧ k ≠ w.heap.size + 2 := by
  intro k hk
  rw [hQ] at hk
  rcases hk with ⟨_, hk⟩ | hk <;> omega
 have hQup : ∀ k, w.heap.size + 3 ≤ k → Q k := fun k hk => by rw [hQ]; exact .inr hk
 have hQout : ∀ k, Q k → (P0 k ∨ P1 k) ∨ w.heap.size ≤ k := by
  intro k hk
  rw [hQ] at hk
  rcases hk with ⟨hk, _⟩ | hk
  ·exact .inl hk
  ·exact .inr (by omega)
 have ha0 : Kd.V Kd.string 9 w w.heap.size Q (.slice A0 l0.length c0) l0 := Kd.V_mono (Kd.V_bound hs0) (fun k hk => by rw [hQ]; exact .inl ⟨.inl hk.1, hk.2⟩)
 have ha1 : Kd.V k88 88 w w.heap.size Q (.slice A1 l1.length c1) l1 := Kd.V_mono (Kd.V_bound hs1) (fun k hk => by rw [hQ]; exact .inl ⟨.inr hk.1, hk.2⟩)
 obtain ⟨W1, hW1⟩ : ∃ W1, W1 = ((w.alloc (.cells #[.slice A0 l0.length c0, .slice A1 l1.length c1, .bool false] 25)).alloc (.cells #[.int .i64 fr, .int .i64 mn] 27)).alloc (.cells #[.slice none 0 0, .slice none 0 0, .bool false] 25) := ⟨_, rfl⟩
 have hx0 := Bx2.new w (.slice A0 l0.length c0) (.slice A1 l1.length c1) (.bool false) fr mn
 obtain ⟨W2, hW2⟩ : ∃ W2, W2 = (w.alloc (.cells #[.slice A0 l0.length c0, .slice A1 l1.length c1, .bool false] 25)).alloc (.cells #[.int .i64 fr, .int .i64 mn] 27) := ⟨_, rfl⟩
 have hz2 : W2.heap.size = w.heap.size + 2 := by rw [hW2, World.size_alloc, World.size_alloc]
 rw [← hW2] at hx0 hW1
 have b3 := (Below.refl W2.heap.size W2).alloc (Nat.le_refl _) (.cells #[.slice none 0 0, .slice none 0 0, .bool false] 25)
 rw [← hW1] at b3
 have hx := hx0.step b3
 have hs : LayS w W1 Q fr mn l0 (l1 ++ laidP fr mn at_ 0 (l.take 0)) (.slice A0 l0.length c0) (.slice A1 l1.length c1) :=
  ⟨hx.d, hx.r, by rw [← hz2, hW1]; exact heap_alloc_new W2 _, Kd.V_step ha0 (fun k _ hk => hx.b.block k hk), by rw [List.take_zero]; unfold laidP; rw [List.append_nil]; exact Kd.V_step ha1 (fun k _ hk => hx.b.block k hk), hx.b⟩
 have hz1 : w.heap.size + 3 ≤ W1.heap.size := by rw [hW1, World.size_alloc, hz2]; omega
 have HS1 := Lib.hid hs; have HZ1 := Lib.hid hz1
 have HQ1 := Lib.hid hQne; have HQ2 := Lib.hid hQup; have HQ3 := Lib.hid hQout; have HR := Lib.hid hr; have HSZ := Lib.hid hsz; have HW1 := Lib.hid hW1; have HW2 := Lib.hid hW2
 clear hs0 hs1 hr hsz hQ hQne hQup hQout ha0 ha1 hx0 hx b3 hs hz1 hz2 hW1 hW2
 go_enter Try.func32, Try.ntmps32
 go_wp2_with fail
 rw [← HW2.out, ← HW1.out]
 go_loopg [13] l.length (fun gk v13 wx => ∃ i : Nat, i + gk = l.length ∧ v13 = .int .i64 i ∧ Hid (∃ v0 v1, LayS w wx Q fr mn l0 (l1 ++ laidP fr mn at_ 0 (l.take i)) v0 v1) ∧ Hid (w.heap.size + 3 ≤ wx.heap.size))
 case atStart => exact ⟨0, by omega, rfl, Lib.hid ⟨_, _, HS1.out⟩, HZ1⟩
 case round =>
  clear HS1 HZ1
  obtain ⟨i, hig, rfl, HI, HZ⟩ := hrel
  obtain ⟨u0, u1, hs⟩ := HI.out
  obtain ⟨B0, d0, rfl⟩ := Kd.V_slice hs.v0
  obtain ⟨B1, d1, rfl⟩ := Kd.V_slice hs.v1
  cases gk with
  | zero =>
   obtain rfl : i = l.length := by omega
   rw [List.take_of_length_le (Nat.le_refl _)] at hs
   have HS := Lib.hid hs
   have hiz : decide ((l.length : Int) < (l.length : Int)) = false := decide_eq_false (by omega)
   have hizn : decide (l.length < l.length) = false := decide_eq_false (by omega)
   clear hig hs HI
   have q0 := HS.out.c0; have q1 := HS.out.c1; have q2 := HS.out.c2
   have p0 := HS.out.p0; have p1 := HS.out.p1; have p2 := HS.out.p2
   have g0 := HS.out.g0; have g1 := HS.out.g1; have g2 := HS.out.g2
   go_wp2_with fail
   refine bodyPost_ret (v := .agg #[.slice B0 l0.length d0, .slice B1 (l1 ++ laidP fr mn at_ 0 l).length d1, .bool false]) (by simp [results, Try.results32, go_sem, p0, p1, p2]) rfl ⟨_, _, rfl, ?_, ?_, ?_⟩
   ·exact Kd.V_mono (Kd.V_far (Kd.V_far (Kd.V_far HS.out.v0 (fun k hk => (HQ1.out k hk).2.2) _) (fun k hk => (HQ1.out k hk).2.2) _) (fun k hk => (HQ1.out k hk).2.2) _) HQ3.out
   ·exact Kd.V_mono (Kd.V_far (Kd.V_far (Kd.V_far HS.out.v1 (fun k hk => (HQ1.out k hk).2.2) _) (fun k hk => (HQ1.out k hk).2.2) _) (fun k hk => (HQ1.out k hk).2.2) _) HQ3.out
   ·exact ((HS.out.b.setCell (p := ⟨w.heap.size + 1 + 1, 0, none⟩) (by show w.heap.size ≤ w.heap.size + 1 + 1; omega) _).setCell (p := ⟨w.heap.size + 1 + 1, 1, none⟩) (by show w.heap.size ≤ w.heap.size + 1 + 1; omega) _).setCell (p := ⟨w.heap.size + 1 + 1, 2, none⟩) (by show w.heap.size ≤ w.heap.size + 1 + 1; omega) _
  | succ g =>
   have hi : i < l.length := by omega
   have hiz : decide ((i : Int) < (l.length : Int)) = true := decide_eq_true (by omega)
   have hizn : decide (i < l.length) = true := decide_eq_true (by omega)
   obtain ⟨ad, hA, hcell⟩ := HR.out.at_ i hi
   subst hA
   replace hcell := (hs.b.cell (World.block_lt_of_cell? w _ hcell)).trans hcell
   obtain ⟨m, hm2⟩ : ∃ m, m = (at_ + i) % mn := ⟨_, rfl⟩
   have hml : m < mn := by rw [hm2]; exact Nat.mod_lt _ (by omega)
   have hrem : Int.tmod ((at_ : Int) + (i : Int)) (mn : Int) = (m : Int) := by
    rw [show (at_ : Int) + (i : Int) = ((at_ + i : Nat) : Int) by omega, hm2]; rfl
   have hsn : l1 ++ laidP fr mn at_ 0 (l.take (i + 1)) = (l1 ++ laidP fr mn at_ 0 (l.take i)) ++ [⟨((fr + m : Nat) : Int), fillS l[i]⟩] := by
    rw [List.take_succ_eq_append_getElem hi, laidP_snoc, Nat.zero_add, List.length_take, Nat.min_eq_left (by omega), ← hm2, List.append_assoc]
   have hsx := HSZ.out _ (List.getElem_mem hi)
   have hLl : (l1 ++ laidP fr mn at_ 0 (l.take i)).length ≤ 1000000000 := by rw [List.length_append, laidP_len, List.length_take, Nat.min_eq_left (by omega)]; omega
   obtain ⟨LL, hLL⟩ : ∃ LL, LL = l1 ++ laidP fr mn at_ 0 (l.take i) := ⟨_, rfl⟩
   rw [← hLL] at hs hsn hLl
   have HSN := Lib.hid hsn
   have hww : w.heap.size + 3 ≤ wr.drew.heap.size := HZ.out
   have HS := Lib.hid hs.drew
   clear hsn hLL hm2 HI
   generalize l[i] = sx at *
   have hw1 : wrap64 ((fr : Int) + (m : Int)) = (fr : Int) + (m : Int) := w64 (by omega) (by omega)
   have hwr : ∀ W, LayS w W Q fr mn l0 LL (.slice B0 l0.length d0) (.slice B1 LL.length d1) → w.heap.size + 3 ≤ W.heap.size → Calls Try.prog 50 #[.agg #[.slice B0 l0.length d0, .slice B1 LL.length d1, .bool false], .int .i64 (wrap64 ((fr : Int) + (m : Int))), .string sx] W fun e w' =>
     ∃ v0 v1, e = .returned (.tuple #[.agg #[v0, v1, .bool false], .int .i64 0]) ∧ LayS w w' Q fr mn l0 LL (.slice B0 l0.length d0) (.slice B1 LL.length d1) ∧ w.heap.size + 3 ≤ w'.heap.size ∧ Kd.V Kd.string 9 w' w.heap.size Q v0 l0 ∧ Kd.V k88 88 w' w.heap.size Q v1 (LL ++ [⟨((fr + m : Nat) : Int), fillS sx⟩]) := by
    intro W hW hz
    rw [hw1]
    clear hw1
    have hwf : disk_Write.f l0 LL false ((fr : Int) + (m : Int)) sx = some (l0, LL ++ [⟨((fr + m : Nat) : Int), fillS sx⟩], false, 0) := by
     unfold disk_Write.f
     rw [if_pos hLl]
     unfold writeR
     rw [if_neg (by decide), if_neg (by omega), if_neg (by omega)]
     rfl
    refine (disk_Write.calls Q B0 d0 l0 Q B1 d1 LL false _ sx _ _ _ _ W hW.v0 hW.v1 hwf).mono ?_
    rintro e w4 ⟨v0, v1, rfl, h0, h1, hb⟩
    have hq : ∀ k, ((Q k ∨ Q k) ∨ W.heap.size ≤ k) → Q k := by
     rintro k ((hk | hk) | hk)
     ·exact hk
     ·exact hk
     ·exact HQ2.out k (by omega)
    exact ⟨v0, v1, rfl, hW.step hb, Nat.le_trans hz hb.size, Kd.V_mono h0 hq, Kd.V_mono h1 hq⟩
   have HWR := Lib.hid (fun W h => hwr W h)
   clear hwr hs hw1
   have hlz2 : ((mn : Int) == 0) = false := beq_eq_false_iff_ne.2 (by omega)
   have hlz : ¬ ((mn : Int) = 0) := by omega
   have hmz : ¬ mn = 0 := by omega
   have hw0 : wrap64 ((at_ : Int) + (i : Int)) = (at_ : Int) + (i : Int) := w64 (by omega) (by omega)
   clear hLl
   go_wp2_with fail
   refine start_ (n := 16) (S := fun w' => w'.cell? ⟨w.heap.size, 0, none⟩ = some (.slice B0 l0.length d0) ∧ w'.cell? ⟨w.heap.size, 1, none⟩ = some (.slice B1 LL.length d1) ∧ w'.cell? ⟨w.heap.size, 2, none⟩ = some (.bool false) ∧ w'.cell? ⟨w.heap.size + 1, 0, none⟩ = some (.int .i64 (fr : Int)) ∧ w'.cell? ⟨w.heap.size + 1, 1, none⟩ = some (.int .i64 (mn : Int))) (ds := [15]) #[false, false, false, false, false, false, false, false, false, false, false, false, false, false, false, false] (by kernel_rfl) rfl rfl ⟨HS.out.c0, HS.out.c1, HS.out.c2, HS.out.r0, HS.out.r1⟩ (fun hHeld => ?_)
   refine pure_ (i := 1) (N := some 20) (v := ?_) (a' := ?_) #[false, true, false, false, false, false, false, false, false, false, false, false, false, false, false, false] rfl rfl (by kernel_rfl) (fun _ _ _ h => h) (Or.inl ⟨by rfl, ?_⟩) ?_ ?_
   (rotate_left; · (intro w'; go_simp; with_reducible rfl))
   (rotate_left; · (simp only [Act.put, List.setIfInBounds_toArray, List.set_cons_zero, List.set_cons_succ, i64_w, i32_w]; rfl))
   refine pure_ (i := 3) (N := some 22) (v := ?_) (a' := ?_) #[false, true, false, true, false, false, false, false, false, false, false, false, false, false, false, false] rfl rfl (by kernel_rfl) (fun _ _ _ h => h) (Or.inl ⟨by rfl, ?_⟩) ?_ ?_
   (rotate_left; · (intro w'; go_simp; with_reducible rfl))
   (rotate_left; · (simp only [Act.put, List.setIfInBounds_toArray, List.set_cons_zero, List.set_cons_succ, i64_w, i32_w]; rfl))
   refine pure_ (i := 4) (N := some 23) (v := ?_) (a' := ?_) #[false, true, false, true, true, false, false, false, false, false, false, false, false, false, false, false] rfl rfl (by kernel_rfl) (fun _ _ _ h => h) (Or.inl ⟨by rfl, ?_⟩) ?_ ?_
   (rotate_left; · (intro w'; go_simp; with_reducible rfl))
   (rotate_left; · (simp only [Act.put, List.setIfInBounds_toArray, List.set_cons_zero, List.set_cons_succ, i64_w, i32_w]; rfl))
   refine pure_ (i := 5) (N := some 24) (v := ?_) (a' := ?_) #[false, true, false, true, true, true, false, false, false, false, false, false, false, false, false, false] rfl rfl (by kernel_rfl) (fun _ _ _ h => h) (Or.inl ⟨by rfl, ?_⟩) ?_ ?_
   (rotate_left; · (intro w'; go_simp; with_reducible rfl))
   (rotate_left; · (simp only [Act.put, List.setIfInBounds_toArray, List.set_cons_zero, List.set_cons_succ, i64_w, i32_w]; rfl))
   refine pure_ (i := 6) (N := some 25) (v := ?_) (a' := ?_) #[false, true, false, true, true, true, true, false, false, false, false, false, false, false, false, false] rfl rfl (by kernel_rfl) (fun _ _ _ h => h) (Or.inl ⟨by rfl, ?_⟩) ?_ ?_
   (rotate_left; · (intro w'; go_simp; with_reducible rfl))
   (rotate_left; · (simp only [Act.put, List.setIfInBounds_toArray, List.set_cons_zero, List.set_cons_succ, i64_w, i32_w]; rfl))
   refine pure_ (i := 10) (N := some 29) (v := ?_) (a' := ?_) #[false, true, false, true, true, true, true, false, false, false, true, false, false, false, false, false] rfl rfl (by kernel_rfl) (fun _ _ _ h => h) (Or.inl ⟨by rfl, ?_⟩) ?_ ?_
   (rotate_left; · (intro w'; go_simp; with_reducible rfl))
   (rotate_left; · (simp only [Act.put, List.setIfInBounds_toArray, List.set_cons_zero, List.set_cons_succ, i64_w, i32_w]; rfl))
   refine take_ (i := 0) (N := some 19) (v := ?_) (a' := ?_) #[true, true, false, true, true, true, true, false, false, false, true, false, false, false, false, false] rfl rfl (by kernel_rfl) (fun _ _ _ h => h) (Or.inl ⟨by rfl, ?_⟩) hHeld ?_ ?_
   rotate_left
   ·rintro w' ⟨s0, s1, s2, s3, s4⟩
    go_simp
    with_reducible rfl
   (rotate_left; · (simp only [Act.put, List.setIfInBounds_toArray, List.set_cons_zero, List.set_cons_succ, i64_w, i32_w]; rfl))
   refine take_ (i := 2) (N := some 21) (v := ?_) (a' := ?_) #[true, true, true, true, true, true, true, false, false, false, true, false, false, false, false, false] rfl rfl (by kernel_rfl) (fun _ _ _ h => h) (Or.inl ⟨by rfl, ?_⟩) hHeld ?_ ?_
   rotate_left
   ·rintro w' ⟨s0, s1, s2, s3, s4⟩
    go_simp
    with_reducible rfl
   (rotate_left; · (simp only [Act.put, List.setIfInBounds_toArray, List.set_cons_zero, List.set_cons_succ, i64_w, i32_w]; rfl))
   refine take_ (i := 7) (N := some 26) (v := ?_) (a' := ?_) #[true, true, true, true, true, true, true, true, false, false, true, false, false, false, false, false] rfl rfl (by kernel_rfl) (fun _ _ _ h => h) (Or.inl ⟨by rfl, ?_⟩) hHeld ?_ ?_
   rotate_left
   ·rintro w' ⟨s0, s1, s2, s3, s4⟩
    go_simp
    with_reducible rfl
   (rotate_left; · (simp only [Act.put, List.setIfInBounds_toArray, List.set_cons_zero, List.set_cons_succ, i64_w, i32_w]; rfl))
   refine pure_ (i := 8) (N := some 27) (v := ?_) (a' := ?_) #[true, true, true, true, true, true, true, true, true, false, true, false, false, false, false, false] rfl rfl (by kernel_rfl) (fun _ _ _ h => h) (Or.inl ⟨by rfl, ?_⟩) ?_ ?_
   (rotate_left; · (intro w'; go_simp; with_reducible rfl))
   (rotate_left; · (simp only [Act.put, List.setIfInBounds_toArray, List.set_cons_zero, List.set_cons_succ, i64_w, i32_w]; rfl))
   refine pure_ (i := 9) (N := some 28) (v := ?_) (a' := ?_) #[true, true, true, true, true, true, true, true, true, true, true, false, false, false, false, false] rfl rfl (by kernel_rfl) (fun _ _ _ h => h) (Or.inl ⟨by rfl, ?_⟩) ?_ ?_
   (rotate_left; · (intro w'; go_simp; with_reducible rfl))
   (rotate_left; · (simp only [Act.put, List.setIfInBounds_toArray, List.set_cons_zero, List.set_cons_succ, i64_w, i32_w]; rfl))
   refine one_ (i := 11) (N := some 30) #[true, true, true, true, true, true, true, true, true, true, true, true, false, false, false, false] rfl rfl (by kernel_rfl) (by decide) (fun K hK => ?_)
   refine goes_ Try.func50 (by kernel_rfl) rfl #[.agg #[.slice B0 l0.length d0, .slice B1 LL.length d1, .bool false], .int .i64 (wrap64 ((fr : Int) + (m : Int))), .string sx] (by rfl) rfl rfl (by simp only [List.map_toArray, List.map_cons, List.map_nil]; rfl) ?_
   with_reducible refine ((HWR.out _ HS.out hww)).mono ?_
   rintro e w4 ⟨v0, v1, rfl, hs4, hz4, hv0, hv1⟩
   refine ⟨_, rfl, ?_⟩
   obtain ⟨B2, d2, rfl⟩ := Kd.V_slice hv0
   obtain ⟨B3, d3, rfl⟩ := Kd.V_slice hv1
   have HS4 := Lib.hid hs4
   have HZ4 := Lib.hid hz4
   have HV0 := Lib.hid hv0
   have HV1 := Lib.hid hv1
   have y0 := hs4.f0
   have y1 := hs4.f1
   have y2 := hs4.f2
   clear hs4 hz4 hv0 hv1
   refine hK.out _ _ ⟨HS4.out.c0, HS4.out.c1, HS4.out.c2, HS4.out.r0, HS4.out.r1⟩ (fun hHeld => ?_)
   clear hK K
   refine norm_ (a' := ?_) ?_ ?_
   rotate_left
   ·show Act.put _ (some 30) _ = _
    simp only [Act.put, List.setIfInBounds_toArray, List.set_cons_zero, List.set_cons_succ, i64_w, i32_w]
    rfl
   refine pure_ (i := 12) (N := some 18) (v := ?_) (a' := ?_) #[true, true, true, true, true, true, true, true, true, true, true, true, true, false, false, false] rfl rfl (by kernel_rfl) (fun _ _ _ h => h) (Or.inl ⟨by rfl, ?_⟩) ?_ ?_
   (rotate_left; · (intro w'; go_simp; with_reducible rfl))
   (rotate_left; · (simp only [Act.put, List.setIfInBounds_toArray, List.set_cons_zero, List.set_cons_succ, i64_w, i32_w]; rfl))
   refine pure_ (i := 13) (N := some 31) (v := ?_) (a' := ?_) #[true, true, true, true, true, true, true, true, true, true, true, true, true, true, false, false] rfl rfl (by kernel_rfl) (fun _ _ _ h => h) (Or.inl ⟨by rfl, ?_⟩) ?_ ?_
   (rotate_left; · (intro w'; go_simp; with_reducible rfl))
   (rotate_left; · (simp only [Act.put, List.setIfInBounds_toArray, List.set_cons_zero, List.set_cons_succ, i64_w, i32_w]; rfl))
   refine pure_ (i := 14) (N := some 32) (v := ?_) (a' := ?_) #[true, true, true, true, true, true, true, true, true, true, true, true, true, true, true, false] rfl rfl (by kernel_rfl) (fun _ _ _ h => h) (Or.inl ⟨by rfl, ?_⟩) ?_ ?_
   (rotate_left; · (intro w'; go_simp; with_reducible rfl))
   (rotate_left; · (simp only [Act.put, List.setIfInBounds_toArray, List.set_cons_zero, List.set_cons_succ, i64_w, i32_w]; rfl))
   refine last_ (i := 15) (N := none) #[true, true, true, true, true, true, true, true, true, true, true, true, true, true, true, true] rfl rfl (by kernel_rfl) (by decide) (fun K hK => ?_)
   have z0 := HS4.out.c0
   have z1 := HS4.out.c1
   have z2 := HS4.out.c2
   refine skip_ (w1 := ?_) (by rfl) rfl ?_ ?_
   rotate_left
   ·go_simp
    rfl
   refine hK.out _ _ ?_
   clear hK K
   refine done_ (by kernel_rfl) ?_
   go_wp2_with fail
   go_roundg g
   case measure => omega
   case rel =>
    refine ⟨i + 1, by omega, by congr 1, Lib.hid ⟨.slice B2 l0.length d2, .slice B3 (LL.length + 1) d3, ?_⟩, Lib.hid ?_⟩
    ·rw [HSN.out]
     have hv1 := HV1.out
     rw [List.length_append] at hv1
     exact HS4.out.set (fun k hk => (HQ1.out k hk).1) HV0.out hv1
    ·have hz4 := HZ4.out
     simp [World.setCell]
     exact hz4
end Go.Proofs.Ytcbfnfggnocndaa
end

section
namespace Go.Proofs.Ytcbfnfggnocndaa
open Go.RowKit Go.Shelf Go.Proofs.Ytcbfnfggnocndaa.Q Go.Proofs.YtcbfnfggnocndaaW.PrintWords Go.Proofs.YtcbfnfggnocndaaW.PrintLast Go.Proofs.YtcbfnfggnocndaaW.PrintMore Math
def DskBox (W : World) (b : Nat) (x y z : Value) : Prop := W.heap[b]? = some (.cells #[x, y, z] 25 (0, 0))
theorem DskBox.facts {W : World} {b : Nat} {x y z : Value} (h : DskBox W b x y z) :
  W.cell? ⟨b, 0, none⟩ = some x ∧ W.cell? ⟨b, 1, none⟩ = some y ∧ W.cell? ⟨b, 2, none⟩ = some z ∧ W.frozen? ⟨b, 0, none⟩ = false ∧ W.frozen? ⟨b, 1, none⟩ = false ∧ W.frozen? ⟨b, 2, none⟩ = false := by
 refine ⟨by rw [blk_cell h]; rfl, by rw [blk_cell h]; rfl, by rw [blk_cell h]; rfl, blk_frozen h 0, blk_frozen h 1, blk_frozen h 2⟩
theorem ap5_new (w : World) (d0 d1 d2 : Value) (f m a u fi ma : Int) (W : World) (hW : W = ((((w.alloc (.cells #[d0, d1, d2] 25)).alloc (.cells #[.int .i64 f, .int .i64 m] 27)).alloc (.cells #[.int .i64 a, .int .i64 u, .int .u64 fi, .int .i64 ma] 30)).alloc (.cells #[.slice none 0 0, .slice none 0 0, .bool false] 25)).alloc (.cells #[.int .i64 0, .int .i64 0, .int .u64 0, .int .i64 0] 30)) :
  Bx2 w W d0 d1 d2 f m ∧ BxL w W a u fi ma ∧ DskBox W (w.heap.size + 1 + 1 + 1) (.slice none 0 0) (.slice none 0 0) (.bool false) ∧ LogBox W (w.heap.size + 1 + 1 + 1 + 1) (.int .i64 0) (.int .i64 0) (.int .u64 0) (.int .i64 0) ∧ W.heap.size = w.heap.size + 5 := by
 obtain ⟨W1, hW1⟩ : ∃ W1, W1 = ((w.alloc (.cells #[d0, d1, d2] 25)).alloc (.cells #[.int .i64 f, .int .i64 m] 27)).alloc (.cells #[.int .i64 a, .int .i64 u, .int .u64 fi, .int .i64 ma] 30) := ⟨_, rfl⟩
 obtain ⟨hx, hl, hz⟩ := bx3_new w _ _ _ _ _ _ _ _ _ W1 hW1
 rw [← hW1] at hW
 obtain ⟨W2, hW2⟩ : ∃ W2, W2 = W1.alloc (.cells #[.slice none 0 0, .slice none 0 0, .bool false] 25) := ⟨_, rfl⟩
 rw [← hW2] at hW
 have b2 := (Below.refl W1.heap.size W1).alloc (Nat.le_refl _) (.cells #[.slice none 0 0, .slice none 0 0, .bool false] 25)
 rw [← hW2] at b2
 have z2 : W2.heap.size = w.heap.size + 4 := by rw [hW2, World.size_alloc, hz]
 have b3 := (Below.refl W2.heap.size W2).alloc (Nat.le_refl _) (.cells #[.int .i64 0, .int .i64 0, .int .u64 0, .int .i64 0] 30)
 rw [← hW] at b3
 have hd : DskBox W2 (w.heap.size + 1 + 1 + 1) (.slice none 0 0) (.slice none 0 0) (.bool false) := by unfold DskBox; rw [hW2, show w.heap.size + 1 + 1 + 1 = W1.heap.size by omega]; exact heap_alloc_new W1 _
 refine ⟨(hx.step b2).step b3, (hl.step b2).step b3, (b3.block _ (blk_lt hd)).trans hd, ?_, by rw [hW, World.size_alloc, z2]⟩
 unfold LogBox; rw [hW, show w.heap.size + 1 + 1 + 1 + 1 = W2.heap.size by omega]; exact heap_alloc_new W2 _
theorem below7 {w W : World} {x0 x1 x2 y0 y1 y2 y3 : Value} (h : Below w.heap.size w W) : Below w.heap.size w (((((((W.setCell ⟨w.heap.size + 1 + 1 + 1, 0, none⟩ x0).setCell ⟨w.heap.size + 1 + 1 + 1, 1, none⟩ x1).setCell ⟨w.heap.size + 1 + 1 + 1, 2, none⟩ x2).setCell ⟨w.heap.size + 1 + 1 + 1 + 1, 0, none⟩ y0).setCell ⟨w.heap.size + 1 + 1 + 1 + 1, 1, none⟩ y1).setCell ⟨w.heap.size + 1 + 1 + 1 + 1, 2, none⟩ y2).setCell ⟨w.heap.size + 1 + 1 + 1 + 1, 3, none⟩ y3).drew :=
 have k1 : w.heap.size ≤ w.heap.size + 1 + 1 + 1 := by omega
 have k2 : w.heap.size ≤ w.heap.size + 1 + 1 + 1 + 1 := by omega
 below_drew (((((((h.setCell (p := ⟨w.heap.size + 1 + 1 + 1, 0, none⟩) k1 _).setCell (p := ⟨w.heap.size + 1 + 1 + 1, 1, none⟩) k1 _).setCell (p := ⟨w.heap.size + 1 + 1 + 1, 2, none⟩) k1 _).setCell (p := ⟨w.heap.size + 1 + 1 + 1 + 1, 0, none⟩) k2 _).setCell (p := ⟨w.heap.size + 1 + 1 + 1 + 1, 1, none⟩) k2 _).setCell (p := ⟨w.heap.size + 1 + 1 + 1 + 1, 2, none⟩) k2 _).setCell (p := ⟨w.heap.size + 1 + 1 + 1 + 1, 3, none⟩) k2 _)
theorem need_V (s : ByteArray) (k : Nat) (hk : 9 ≤ k) (hs : s.size ≤ 10000000) : V.redo_Need.f k s = some ((needN s : Nat) : Int) := by
 unfold V.redo_Need.f
 have hr := recS_size 0 s
 have h10 := numS_size10 (show s.size < 18446744073709551616 by omega)
 rw [bs (show V.redo_Record.f k 0 s = some (recS 0 s) from record_eq 0 k s hk (by omega)), bs (sectors_eq (recS 0 s).size (by omega))]
 rfl
set_option maxHeartbeats 4000000 in
set_option maxRecDepth 1000000 in
theorem append_off (A0 : Option Addr) (c0 n0 : Nat) (A1 : Option Addr) (c1 n1 : Nat) (fr mn at_ used first many : Int) (s : ByteArray) (w : World) :
  Calls Try.prog 13 #[.agg #[.slice A0 n0 c0, .slice A1 n1 c1, .bool true], .agg #[.int .i64 fr, .int .i64 mn], .agg #[.int .i64 at_, .int .i64 used, .int .u64 first, .int .i64 many], .string s] w fun e w' =>
   e = .returned (.tuple #[.agg #[.slice A0 n0 c0, .slice A1 n1 c1, .bool true], .agg #[.int .i64 at_, .int .i64 used, .int .u64 first, .int .i64 many], .int .i64 19]) ∧ Below w.heap.size w w' := by
 obtain ⟨W1, hW1⟩ : ∃ W1, W1 = ((((w.alloc (.cells #[.slice A0 n0 c0, .slice A1 n1 c1, .bool true] 25)).alloc (.cells #[.int .i64 fr, .int .i64 mn] 27)).alloc (.cells #[.int .i64 at_, .int .i64 used, .int .u64 first, .int .i64 many] 30)).alloc (.cells #[.slice none 0 0, .slice none 0 0, .bool false] 25)).alloc (.cells #[.int .i64 0, .int .i64 0, .int .u64 0, .int .i64 0] 30) := ⟨_, rfl⟩
 obtain ⟨hx, hl, hd, hg, hz⟩ := ap5_new w _ _ _ _ _ _ _ _ _ W1 hW1
 have HX := Lib.hid hx; have HL := Lib.hid hl; have HD := Lib.hid hd; have HG := Lib.hid hg; have HW1 := Lib.hid hW1
 clear hx hl hd hg hz hW1
 go_enter Try.func13, Try.ntmps13
 go_wp2_with fail
 rw [← HW1.out]
 obtain ⟨x0, x1, x2, x3, x4, x5⟩ := HD.out.facts
 obtain ⟨z0, z1, z2, z3, y0, y1, y2, y3⟩ := HG.out.facts
 have c0 := HX.out.c0; have c1 := HX.out.c1; have c2 := HX.out.c2
 have q0 := HL.out.l0; have q1 := HL.out.l1; have q2 := HL.out.l2; have q3 := HL.out.l3
 go_region
 go_wp2_with fail
 exact bodyPost_ret (v := .tuple #[.agg #[.slice A0 n0 _, .slice A1 n1 _, .bool true], .agg #[.int .i64 at_, .int .i64 used, .int .u64 first, .int .i64 many], .int .i64 19]) (by simp [results, Try.results13, go_sem, x0, x1, x2, z0, z1, z2, z3]) rfl ⟨rfl, below7 HX.out.b⟩
set_option maxHeartbeats 4000000 in
set_option maxRecDepth 1000000 in
theorem append_big (A0 : Option Addr) (c0 n0 : Nat) (A1 : Option Addr) (c1 n1 : Nat) (fr mn at_ used first many : Int) (s : ByteArray) (w : World) (h : 4096 < s.size) :
  Calls Try.prog 13 #[.agg #[.slice A0 n0 c0, .slice A1 n1 c1, .bool false], .agg #[.int .i64 fr, .int .i64 mn], .agg #[.int .i64 at_, .int .i64 used, .int .u64 first, .int .i64 many], .string s] w fun e w' =>
   e = .returned (.tuple #[.agg #[.slice A0 n0 c0, .slice A1 n1 c1, .bool false], .agg #[.int .i64 at_, .int .i64 used, .int .u64 first, .int .i64 many], .int .i64 5]) ∧ Below w.heap.size w w' := by
 obtain ⟨W1, hW1⟩ : ∃ W1, W1 = ((((w.alloc (.cells #[.slice A0 n0 c0, .slice A1 n1 c1, .bool false] 25)).alloc (.cells #[.int .i64 fr, .int .i64 mn] 27)).alloc (.cells #[.int .i64 at_, .int .i64 used, .int .u64 first, .int .i64 many] 30)).alloc (.cells #[.slice none 0 0, .slice none 0 0, .bool false] 25)).alloc (.cells #[.int .i64 0, .int .i64 0, .int .u64 0, .int .i64 0] 30) := ⟨_, rfl⟩
 obtain ⟨hx, hl, hd, hg, hz⟩ := ap5_new w _ _ _ _ _ _ _ _ _ W1 hW1
 have HX := Lib.hid hx; have HL := Lib.hid hl; have HD := Lib.hid hd; have HG := Lib.hid hg; have HW1 := Lib.hid hW1
 have g1 : decide ((4096 : Int) < (s.size : Int)) = true := decide_eq_true (by omega)
 have g1n : decide (4096 < s.size) = true := decide_eq_true h
 clear hx hl hd hg hz hW1
 go_enter Try.func13, Try.ntmps13
 go_wp2_with fail
 rw [← HW1.out]
 obtain ⟨x0, x1, x2, x3, x4, x5⟩ := HD.out.facts
 obtain ⟨z0, z1, z2, z3, y0, y1, y2, y3⟩ := HG.out.facts
 have c0 := HX.out.c0; have c1 := HX.out.c1; have c2 := HX.out.c2
 have q0 := HL.out.l0; have q1 := HL.out.l1; have q2 := HL.out.l2; have q3 := HL.out.l3
 go_region
 go_wp2_with fail
 exact bodyPost_ret (v := .tuple #[.agg #[.slice A0 n0 _, .slice A1 n1 _, .bool false], .agg #[.int .i64 at_, .int .i64 used, .int .u64 first, .int .i64 many], .int .i64 5]) (by simp [results, Try.results13, go_sem, x0, x1, x2, z0, z1, z2, z3]) rfl ⟨rfl, below7 HX.out.b⟩
set_option maxHeartbeats 4000000 in
set_option maxRecDepth 1000000 in
theorem append_room (A0 : Option Addr) (c0 n0 : Nat) (A1 : Option Addr) (c1 n1 : Nat) (fr mn at_ used first many : Int) (s : ByteArray) (w : World) (h : s.size ≤ 4096) (hr : mn < wrap64 (used + (needN s : Int))) :
  Calls Try.prog 13 #[.agg #[.slice A0 n0 c0, .slice A1 n1 c1, .bool false], .agg #[.int .i64 fr, .int .i64 mn], .agg #[.int .i64 at_, .int .i64 used, .int .u64 first, .int .i64 many], .string s] w fun e w' =>
   e = .returned (.tuple #[.agg #[.slice A0 n0 c0, .slice A1 n1 c1, .bool false], .agg #[.int .i64 at_, .int .i64 used, .int .u64 first, .int .i64 many], .int .i64 12]) ∧ Below w.heap.size w w' := by
 obtain ⟨W1, hW1⟩ : ∃ W1, W1 = ((((w.alloc (.cells #[.slice A0 n0 c0, .slice A1 n1 c1, .bool false] 25)).alloc (.cells #[.int .i64 fr, .int .i64 mn] 27)).alloc (.cells #[.int .i64 at_, .int .i64 used, .int .u64 first, .int .i64 many] 30)).alloc (.cells #[.slice none 0 0, .slice none 0 0, .bool false] 25)).alloc (.cells #[.int .i64 0, .int .i64 0, .int .u64 0, .int .i64 0] 30) := ⟨_, rfl⟩
 obtain ⟨hx, hl, hd, hg, hz⟩ := ap5_new w _ _ _ _ _ _ _ _ _ W1 hW1
 have HX := Lib.hid hx; have HL := Lib.hid hl; have HD := Lib.hid hd; have HG := Lib.hid hg; have HW1 := Lib.hid hW1
 have g1 : decide ((4096 : Int) < (s.size : Int)) = false := decide_eq_false (by omega)
 have g1n : decide (4096 < s.size) = false := decide_eq_false (by omega)
 have g2 : decide (mn < wrap64 (used + (needN s : Int))) = true := decide_eq_true hr
 have HNC := Lib.hid (V.redo_Need.calls 9 s _ W1 (need_V s 9 (Nat.le_refl _) (by omega)))
 generalize needN s = nd at *
 clear hr
 clear hx hl hd hg hz hW1
 go_enter Try.func13, Try.ntmps13
 go_wp2_with fail
 rw [← HW1.out]
 refine HNC.out.mono ?_
 rintro e w2 ⟨rfl, hb2⟩
 have HX2 := Lib.hid (HX.out.step hb2); have HL2 := Lib.hid (HL.out.step hb2); have HD2 : Hid (DskBox w2 _ _ _ _) := Lib.hid ((hb2.block _ (blk_lt HD.out)).trans HD.out); have HG2 : Hid (LogBox w2 _ _ _ _ _) := Lib.hid ((hb2.block _ (blk_lt HG.out)).trans HG.out)
 have r1 := HX2.out.r1; have p1 := HL2.out.l1
 clear hb2 HX HL HD HG HNC
 go_wp2_with fail
 clear r1 p1
 obtain ⟨x0, x1, x2, x3, x4, x5⟩ := HD2.out.facts
 obtain ⟨z0, z1, z2, z3, y0, y1, y2, y3⟩ := HG2.out.facts
 have c0 := HX2.out.c0; have c1 := HX2.out.c1; have c2 := HX2.out.c2
 have q0 := HL2.out.l0; have q1 := HL2.out.l1; have q2 := HL2.out.l2; have q3 := HL2.out.l3
 go_region
 go_wp2_with fail
 exact bodyPost_ret (v := .tuple #[.agg #[.slice A0 n0 _, .slice A1 n1 _, .bool false], .agg #[.int .i64 at_, .int .i64 used, .int .u64 first, .int .i64 many], .int .i64 12]) (by simp [results, Try.results13, go_sem, x0, x1, x2, z0, z1, z2, z3]) rfl ⟨rfl, below7 HX2.out.b⟩
end Go.Proofs.Ytcbfnfggnocndaa
end

section
namespace Go.Proofs.Ytcbfnfggnocndaa
open Go.RowKit Go.Proofs.YtcbfnfggnocndaaW.PrintWords Math
theorem bw_cell (W : World) (e : TypeId) (s : ByteArray) (j : Nat) (hj : j < s.size) : (Lib.bytesWorld W e s).cell? ⟨W.heap.size, j, none⟩ = some (.int .u8 ((s.data.toList.getD j 0).toNat : Int)) := Lib.bytesWorld_cell W e s j hj
end Go.Proofs.Ytcbfnfggnocndaa
end

section
namespace Go.Proofs.Ytcbfnfggnocndaa.Q
open Go.RowKit Go.Shelf Go.Proofs.YtcbfnfggnocndaaW.PrintWords Math
attribute [local go_sem] Oper.semAt_some
set_option maxHeartbeats 1000000 in
theorem chunk_calls (A : Option Addr) (n c : Nat) (w : World) :
    Calls Try.prog 31 #[.slice A n c, .int .i64 64] w fun e w' => e = .returned (.func (.func 49) #[] #[.pointer (some ⟨w.heap.size, 0, none⟩), .pointer (some ⟨w.heap.size + 1, 0, none⟩)]) ∧
      w' = (w.alloc (.cells #[.slice A n c] 71)).alloc (.cells #[.int .i64 64] 3) := by
  go_enter Try.func31, Try.ntmps31
  go_wp2
  go_ret
  exact ⟨rfl, rfl⟩
def pieceV (g N j : Nat) : Value := .slice (some ⟨g, 64 * j, none⟩) (min 64 (N - 64 * j)) (min 64 (N - 64 * j))
set_option maxRecDepth 100000 in
set_option maxHeartbeats 1000000 in
theorem chunk1_in (g N c K : Nat) (hK : K = (N + 63) / 64) (hNc : N ≤ c) (hN : N ≤ 1000000) (n : Nat) (hn : 1 ≤ n) (l Bs Bn n1 R : Nat) (w0 : World) (hn1 : n1 ≤ w0.heap.size)
    (hd : ∀ W, KeepX n1 R w0 W → W.cell? ⟨Bs, 0, none⟩ = some (.slice (some ⟨g, 0, none⟩) N c)) (hd2 : ∀ W, KeepX n1 R w0 W → W.cell? ⟨Bn, 0, none⟩ = some (.int .i64 64))
    (J Jx : List Nat → World → Prop) (W : World) (hW : KeepX n1 R w0 W) (hJ : AbidesFrom W.heap.size J) (hJx : AbidesFrom W.heap.size Jx)
    (hY : ∀ pre x W, J pre W → pre.length < K → YieldAt Fence.wide (n - 1) Try.prog l #[pieceV g N x] W fun e W' =>
      (e = .returned (.bool true) ∧ J (pre ++ [x]) W' ∧ KeepX n1 R W W') ∨ (e = .returned (.bool false) ∧ Jx (pre ++ [x]) W')) (h0 : J [] W) :
    CallsIn Fence.wide n Try.prog 49 #[.func (.yield l) #[] #[], .pointer (some ⟨Bs, 0, none⟩), .pointer (some ⟨Bn, 0, none⟩)] W fun e W' => (∃ v, e = .returned v) ∧
      ((∃ ys, ys = List.range K ∧ J ys W') ∨ (∃ pre, (∃ k, k ≤ K ∧ pre = List.range k) ∧ Jx pre W')) := by
  refine callsIn_of_wp Try.func49 rfl trivial ?_ rfl
  simp only [Try.ntmps49, List.size_toArray, List.length_cons, List.length_nil, Nat.reduceAdd, Nat.reduceSub, Array.replicate_succ, Array.replicate_zero, List.push_toArray, List.append_toArray, List.nil_append, List.cons_append]
  gi_wp2
  gi_loopw [4] (fun i wr => ∃ k : Nat, k ≤ K ∧ i = .int .i64 ((64 * k : Nat) : Int) ∧ J (List.range k) wr ∧ KeepX n1 R w0 wr)
    (fun i _ => 64 * K - (intOf i).toNat)
  case atStart => exact ⟨0, Nat.zero_le _, rfl, h0, hW⟩
  case round =>
    obtain ⟨k, hk, rfl, hJs, hKx⟩ := hrel
    have hq1 := hd wr hKx
    have hq2 := hd2 wr hKx
    by_cases hlt : k < K
    · have hkz : ((64 * k : Nat) : Int) < (N : Int) := by omega
      have hkn : 64 * k < N := by omega
      have hge : (wr.grownBy wr.drew none) := grown_of_below (below_drew (Below.refl _ wr)) none
      have hJd : J (List.range k) wr.drew := hJ _ _ _ none hJs hge (fun r e => by cases e)
      have hKd : KeepX n1 R w0 wr.drew := ⟨hKx.1, hKx.2⟩
      obtain ⟨m, hm⟩ : ∃ m, m = min 64 (N - 64 * k) := ⟨_, rfl⟩
      have hmi : min 64 ((N - 64 * k : Nat) : Int) = (m : Int) := by omega
      have hm1 : m ≤ N - 64 * k := by omega
      have hm2 : 64 * k + m ≤ c := by omega
      have hY2 := hY _ k wr.drew hJd (by rw [List.length_range]; exact hlt)
      unfold pieceV at hY2
      rw [← hm] at hY2
      obtain ⟨fn, tmps, assign, body, hy, hR⟩ := hY2
      have HD := Lib.hid hd; have HD2 := Lib.hid hd2; have HY := Lib.hid hY; have HM := Lib.hid hm
      clear hd hd2 hY hm hJs
      gi_wp2_with fail
      gi_region
      gi_wp2_with fail
      refine hR.mono ?_
      rintro e W3 (⟨rfl, hJ3, hk3⟩ | ⟨rfl, hJx3⟩)
      · have hq3 := HD2.out W3 (hKd.trans hk3)
        gi_wp2_with fail
        clear hmi hR hy
        go_roundw
        case rel => exact ⟨k + 1, by omega, by go_num, by rw [List.range_succ]; exact hJ3, hKd.trans hk3⟩
        case measure => simp [intOf]; omega
      · gi_wp2_with fail
        clear hmi hR hy
        refine bodyPost_ret (results_none rfl _ _ _) rfl ?_
        exact ⟨⟨_, rfl⟩, .inr ⟨_, ⟨k + 1, by omega, (List.range_succ).symm⟩, hJx3⟩⟩
    · have hkK : k = K := by omega
      subst hkK
      have hkz : ¬ ((64 * k : Nat) : Int) < (N : Int) := by omega
      gi_wp2
      go_end0
      exact ⟨⟨_, rfl⟩, .inl (by rw [← hK]; exact hJs)⟩
end Go.Proofs.Ytcbfnfggnocndaa.Q
end

section
namespace Go.Proofs.Ytcbfnfggnocndaa
open Go.RowKit Go.Shelf Go.Proofs.Ytcbfnfggnocndaa.Q Go.Proofs.YtcbfnfggnocndaaW.PrintWords Go.Proofs.YtcbfnfggnocndaaW.PrintLast Go.Proofs.YtcbfnfggnocndaaW.PrintMore Math
attribute [local go_sem] Oper.semAt_some
theorem ownFrom_obj {β : Type} (B b : Nat) (t : TypeId) (cs : Array Value) (fr : Nat × Nat) : OwnFrom B (fun (_ : β) W => W.heap[b]? = some (.cells cs t fr)) := fun s X Y row hs hg hrow =>
  blk_grown hs hg (fun e' => by obtain ⟨_, o, ho, hc⟩ := hrow b e'.symm; rw [hs] at ho; cases ho; cases hc)
theorem boxed_appended {W w1 : World} {n₀ B : Nat} {t e : TypeId} {v v' : Value} {k m : Nat} {xs ys : List Value} {tmp : Obj}
    (hv : Boxed W B t v) (hte : t ≠ e) (hrow : W.ownsRow n₀ e 1 v k xs) (hn₀ : n₀ ≤ W.heap.size) (hown' : w1.ownsRow n₀ e 1 v' m ys) (hgrow : (W.alloc tmp).grownBy w1 v.ownBlock) :
    Boxed w1 B t v ∧ Boxed (w1.setCell ⟨B, 0, none⟩ v') B t v' ∧ (w1.setCell ⟨B, 0, none⟩ v').ownsRow n₀ e 1 v' m ys ∧ KeepsOthers W (w1.setCell ⟨B, 0, none⟩ v') ∧ Q.KeepX n₀ B W (w1.setCell ⟨B, 0, none⟩ v') := by
  obtain ⟨h1, h2, _, h4, _⟩ := Boxed.appended hv hte (own_weaken hrow (Nat.zero_le _)) (Nat.zero_le _) (Nat.zero_le _) (own_weaken hown' (Nat.zero_le _)) hgrow
  refine ⟨h1, h2, hown'.kept (grownBy_setCell' w1 B v') (.inr (h1.not_row hte hown').symm), h4, ?_⟩
  have hb : Below n₀ W w1 := ((Below.refl n₀ W).alloc hn₀ tmp).grown hgrow (by rw [World.size_alloc]; omega) (fun k hk => own_base hrow k hk)
  exact (show Q.KeepX n₀ B W w1 from ⟨hb.size, fun b h _ => hb.block b h⟩).trans (Q.KeepX.set w1 0 v')
def pieceS (r : ByteArray) (j : Nat) : ByteArray := ⟨((r.data.toList.drop (64 * j)).take 64).toArray⟩
def pieces (r : ByteArray) : List ByteArray := (List.range ((r.size + 63) / 64)).map (pieceS r)
theorem pieces_len (r : ByteArray) : (pieces r).length = (r.size + 63) / 64 := by unfold pieces; rw [List.length_map, List.length_range]
theorem piece_size (r : ByteArray) (j : Nat) : (pieceS r j).size ≤ 64 := by unfold pieceS; rw [pbsz, List.length_take]; omega
theorem strOf_bytes (s : ByteArray) : strOfNums (bytesOf s) = s := by
  apply inj
  rw [nums_dl]
  unfold bytesOf
  rw [List.map_map]
  conv => rhs; rw [← List.map_id s.data.toList]
  apply List.map_congr_left
  intro x _
  simp
theorem piece_get (r : ByteArray) (x i : Nat) (h : i < min 64 (r.size - 64 * x)) : (bytesOf (pieceS r x)).getD i 0 = ((r.data.toList.getD (64 * x + i) 0).toNat : Int) := by
  have h2 : 64 * x + i < r.data.toList.length := by rw [← sz]; omega
  unfold bytesOf
  rw [show (pieceS r x).data.toList = (r.data.toList.drop (64 * x)).take 64 from rfl, List.getD_eq_getElem?_getD, List.getElem?_map, List.getElem?_take, if_pos (by omega), List.getElem?_drop, List.getElem?_eq_getElem h2, List.getD_eq_getElem?_getD, List.getElem?_eq_getElem h2]
  rfl
def pcsV (r : ByteArray) (pre : List Nat) : List Value := pre.map fun j => Value.string (pieceS r j)
theorem pcsV_len (r : ByteArray) (pre : List Nat) : (pcsV r pre).length = pre.length := List.length_map _
theorem ap_set {w7 W8 : World} {b : Nat} {d0 d1 d2 x y z k0 k1 k2 k3 u m e0 e1 e2 f0 f1 f2 f3 : Value} (hd : w7.heap[b]? = some (.cells #[d0, d1, d2] 25 (0, 0))) (hl : LogBox w7 (b + 1 + 1) k0 k1 k2 k3) (hr : DskBox w7 (b + 1 + 1 + 1) e0 e1 e2) (hs : LogBox w7 (b + 1 + 1 + 1 + 1) f0 f1 f2 f3)
    (hW : W8 = ((((w7.setCell ⟨b, 0, none⟩ x).setCell ⟨b, 1, none⟩ y).setCell ⟨b, 2, none⟩ z).setCell ⟨b + 1 + 1, 1, none⟩ u).setCell ⟨b + 1 + 1, 3, none⟩ m) :
    DskBox W8 b x y z ∧ LogBox W8 (b + 1 + 1) k0 u k2 m ∧ DskBox W8 (b + 1 + 1 + 1) e0 e1 e2 ∧ LogBox W8 (b + 1 + 1 + 1 + 1) f0 f1 f2 f3 ∧ (∀ k, k ≠ b → k ≠ b + 1 + 1 → W8.heap[k]? = w7.heap[k]?) ∧ W8.heap.size = w7.heap.size ∧ (∀ (B : Nat) (w : World), B ≤ b → Below B w w7 → Below B w W8) := by
  have hall : ∀ k, k ≠ b → k ≠ b + 1 + 1 → W8.heap[k]? = w7.heap[k]? := fun k h1 h2 => by
    rw [hW, heap_setCell_other _ ⟨b + 1 + 1, 3, none⟩ k _ h2, heap_setCell_other _ ⟨b + 1 + 1, 1, none⟩ k _ h2, heap_setCell_other _ ⟨b, 2, none⟩ k _ h1, heap_setCell_other _ ⟨b, 1, none⟩ k _ h1, heap_setCell_other _ ⟨b, 0, none⟩ k _ h1]
  refine ⟨?_, ?_, (hall _ (by omega) (by omega)).trans hr, (hall _ (by omega) (by omega)).trans hs, hall, by rw [hW]; simp [World.setCell], fun B w hB h => by rw [hW]; exact ((((h.setCell (p := ⟨b, 0, none⟩) hB _).setCell (p := ⟨b, 1, none⟩) hB _).setCell (p := ⟨b, 2, none⟩) hB _).setCell (p := ⟨b + 1 + 1, 1, none⟩) (show B ≤ b + 1 + 1 by omega) _).setCell (p := ⟨b + 1 + 1, 3, none⟩) (show B ≤ b + 1 + 1 by omega) _⟩
  · unfold DskBox
    rw [hW, heap_setCell_other _ ⟨b + 1 + 1, 3, none⟩ b _ (show b ≠ b + 1 + 1 by omega), heap_setCell_other _ ⟨b + 1 + 1, 1, none⟩ b _ (show b ≠ b + 1 + 1 by omega)]
    exact set3 hd
  · unfold LogBox
    rw [hW]
    refine heap_setCell_same _ (b + 1 + 1) 3 #[k0, u, k2, k3] _ m (heap_setCell_same _ (b + 1 + 1) 1 #[k0, k1, k2, k3] _ u ?_)
    rw [heap_setCell_other _ ⟨b, 2, none⟩ (b + 1 + 1) _ (show b + 1 + 1 ≠ b by omega), heap_setCell_other _ ⟨b, 1, none⟩ (b + 1 + 1) _ (show b + 1 + 1 ≠ b by omega), heap_setCell_other _ ⟨b, 0, none⟩ (b + 1 + 1) _ (show b + 1 + 1 ≠ b by omega)]
    exact hl
theorem ap_fin {W8 W9 : World} {b : Nat} {x y z u0 u1 u2 u3 e0 e1 e2 f0 f1 f2 f3 : Value} (hr : DskBox W8 (b + 1 + 1 + 1) e0 e1 e2) (hs : LogBox W8 (b + 1 + 1 + 1 + 1) f0 f1 f2 f3)
    (hW : W9 = (((((((W8.setCell ⟨b + 1 + 1 + 1, 0, none⟩ x).setCell ⟨b + 1 + 1 + 1, 1, none⟩ y).setCell ⟨b + 1 + 1 + 1, 2, none⟩ z).setCell ⟨b + 1 + 1 + 1 + 1, 0, none⟩ u0).setCell ⟨b + 1 + 1 + 1 + 1, 1, none⟩ u1).setCell ⟨b + 1 + 1 + 1 + 1, 2, none⟩ u2).setCell ⟨b + 1 + 1 + 1 + 1, 3, none⟩ u3).drew) :
    DskBox W9 (b + 1 + 1 + 1) x y z ∧ LogBox W9 (b + 1 + 1 + 1 + 1) u0 u1 u2 u3 ∧ (∀ k, k ≠ b + 1 + 1 + 1 → k ≠ b + 1 + 1 + 1 + 1 → W9.heap[k]? = W8.heap[k]?) ∧ W9.heap.size = W8.heap.size ∧ (∀ (B : Nat) (w : World), B ≤ b → Below B w W8 → Below B w W9) := by
  obtain ⟨V, hV⟩ : ∃ V, V = ((((((W8.setCell ⟨b + 1 + 1 + 1, 0, none⟩ x).setCell ⟨b + 1 + 1 + 1, 1, none⟩ y).setCell ⟨b + 1 + 1 + 1, 2, none⟩ z).setCell ⟨b + 1 + 1 + 1 + 1, 0, none⟩ u0).setCell ⟨b + 1 + 1 + 1 + 1, 1, none⟩ u1).setCell ⟨b + 1 + 1 + 1 + 1, 2, none⟩ u2).setCell ⟨b + 1 + 1 + 1 + 1, 3, none⟩ u3 := ⟨_, rfl⟩
  rw [← hV] at hW
  have hh : W9.heap = V.heap := by rw [hW]; rfl
  have hall : ∀ k, k ≠ b + 1 + 1 + 1 → k ≠ b + 1 + 1 + 1 + 1 → V.heap[k]? = W8.heap[k]? := fun k h1 h2 => by
    rw [hV, heap_setCell_other _ ⟨b + 1 + 1 + 1 + 1, 3, none⟩ k _ h2, heap_setCell_other _ ⟨b + 1 + 1 + 1 + 1, 2, none⟩ k _ h2, heap_setCell_other _ ⟨b + 1 + 1 + 1 + 1, 1, none⟩ k _ h2, heap_setCell_other _ ⟨b + 1 + 1 + 1 + 1, 0, none⟩ k _ h2, heap_setCell_other _ ⟨b + 1 + 1 + 1, 2, none⟩ k _ h1, heap_setCell_other _ ⟨b + 1 + 1 + 1, 1, none⟩ k _ h1, heap_setCell_other _ ⟨b + 1 + 1 + 1, 0, none⟩ k _ h1]
  refine ⟨?_, ?_, fun k h1 h2 => by rw [hh]; exact hall k h1 h2, by rw [hh, hV]; simp [World.setCell], fun B w hB h => by
    have k1 : B ≤ b + 1 + 1 + 1 := by omega
    have k2 : B ≤ b + 1 + 1 + 1 + 1 := by omega
    rw [hW, hV]; exact below_drew (((((((h.setCell (p := ⟨b + 1 + 1 + 1, 0, none⟩) k1 _).setCell (p := ⟨b + 1 + 1 + 1, 1, none⟩) k1 _).setCell (p := ⟨b + 1 + 1 + 1, 2, none⟩) k1 _).setCell (p := ⟨b + 1 + 1 + 1 + 1, 0, none⟩) k2 _).setCell (p := ⟨b + 1 + 1 + 1 + 1, 1, none⟩) k2 _).setCell (p := ⟨b + 1 + 1 + 1 + 1, 2, none⟩) k2 _).setCell (p := ⟨b + 1 + 1 + 1 + 1, 3, none⟩) k2 _)⟩
  · unfold DskBox
    have h1 : b + 1 + 1 + 1 ≠ b + 1 + 1 + 1 + 1 := by omega
    rw [hh, hV, heap_setCell_other _ ⟨b + 1 + 1 + 1 + 1, 3, none⟩ _ _ h1, heap_setCell_other _ ⟨b + 1 + 1 + 1 + 1, 2, none⟩ _ _ h1, heap_setCell_other _ ⟨b + 1 + 1 + 1 + 1, 1, none⟩ _ _ h1, heap_setCell_other _ ⟨b + 1 + 1 + 1 + 1, 0, none⟩ _ _ h1]
    exact set3 hr
  · unfold LogBox
    have h1 : b + 1 + 1 + 1 + 1 ≠ b + 1 + 1 + 1 := by omega
    rw [hh, hV]
    refine heap_setCell_same _ _ 3 #[u0, u1, u2, f3] _ u3 (heap_setCell_same _ _ 2 #[u0, u1, f2, f3] _ u2 (heap_setCell_same _ _ 1 #[u0, f1, f2, f3] _ u1 (heap_setCell_same _ _ 0 #[f0, f1, f2, f3] _ u0 ?_)))
    rw [heap_setCell_other _ ⟨b + 1 + 1 + 1, 2, none⟩ _ _ h1, heap_setCell_other _ ⟨b + 1 + 1 + 1, 1, none⟩ _ _ h1, heap_setCell_other _ ⟨b + 1 + 1 + 1, 0, none⟩ _ _ h1]
    exact hs
set_option maxHeartbeats 8000000 in
set_option maxRecDepth 1000000 in
theorem append_main (P0 P1 : Nat → Prop) (A0 : Option Addr) (c0 : Nat) (l0 : List ByteArray) (A1 : Option Addr) (c1 : Nat) (l1 : List S88) (fr mn at_ used first many : Nat) (s : ByteArray) (w : World)
    (hs0 : Kd.V Kd.string 9 w w.heap.size P0 (.slice A0 l0.length c0) l0) (hs1 : Kd.V k88 88 w w.heap.size P1 (.slice A1 l1.length c1) l1)
    (hm : 1 ≤ mn) (hfm : fr + mn ≤ l0.length) (hn0 : l0.length ≤ 1000000000) (hl1 : l1.length ≤ 100000000) (hss : s.size ≤ 4096) (hat : at_ ≤ 100000) (hmn : mn ≤ 100000) (hu : used + needN s ≤ mn) (hf : first < 18446744073709551616) (hmy : many ≤ 1000000000) :
    Calls Try.prog 13 #[.agg #[.slice A0 l0.length c0, .slice A1 l1.length c1, .bool false], .agg #[.int .i64 fr, .int .i64 mn], .agg #[.int .i64 at_, .int .i64 used, .int .u64 first, .int .i64 many], .string s] w fun e w' => ∃ v0 v1,
      e = .returned (.tuple #[.agg #[v0, v1, .bool false], .agg #[.int .i64 at_, .int .i64 ((used + needN s : Nat) : Int), .int .u64 first, .int .i64 ((many + 1 : Nat) : Int)], .int .i64 0]) ∧
      Kd.V Kd.string 9 w' w.heap.size (fun k => (P0 k ∨ P1 k) ∨ w.heap.size ≤ k) v0 l0 ∧ Kd.V k88 88 w' w.heap.size (fun k => (P0 k ∨ P1 k) ∨ w.heap.size ≤ k) v1 (l1 ++ laidP fr mn (at_ + used) 0 (pieces (recS ((first + many) % 18446744073709551616) s))) ∧ Below w.heap.size w w' := by
  obtain ⟨W1, hW1⟩ : ∃ W1, W1 = ((((w.alloc (.cells #[.slice A0 l0.length c0, .slice A1 l1.length c1, .bool false] 25)).alloc (.cells #[.int .i64 fr, .int .i64 mn] 27)).alloc (.cells #[.int .i64 at_, .int .i64 used, .int .u64 first, .int .i64 many] 30)).alloc (.cells #[.slice none 0 0, .slice none 0 0, .bool false] 25)).alloc (.cells #[.int .i64 0, .int .i64 0, .int .u64 0, .int .i64 0] 30) := ⟨_, rfl⟩
  obtain ⟨hx, hl, hd, hg, hz⟩ := ap5_new w _ _ _ _ _ _ _ _ _ W1 hW1
  have HX := Lib.hid hx; have HL := Lib.hid hl; have HD := Lib.hid hd; have HG := Lib.hid hg; have HW1 := Lib.hid hW1; have HZ := Lib.hid hz
  have HS0 := Lib.hid hs0; have HS1 := Lib.hid hs1
  have g1 : decide ((4096 : Int) < (s.size : Int)) = false := decide_eq_false (by omega)
  have g1n : decide (4096 < s.size) = false := decide_eq_false (by omega)
  have hnc := need_V s 9 (Nat.le_refl _) (by omega)
  have hNC := V.redo_Need.calls 9 s _ W1 hnc
  obtain ⟨N, hN⟩ : ∃ N, N = (first + many) % 18446744073709551616 := ⟨_, rfl⟩
  have hrec := record_eq N 9 s (Nat.le_refl _) (by omega)
  have hRC := fun W => V.redo_Record.calls 9 _ s _ W hrec
  have hrz := recS_size N s
  have hnd := needN_eq N s
  have h10 := numS_size10 (show s.size < 18446744073709551616 by omega)
  obtain ⟨rc, hrc⟩ : ∃ rc, rc = recS N s := ⟨_, rfl⟩
  rw [← hrc] at hRC hrz hnd
  obtain ⟨nd, hnd2⟩ : ∃ nd, nd = needN s := ⟨_, rfl⟩
  rw [← hnd2] at hNC hnd hu
  have g2 : decide ((mn : Int) < wrap64 ((used : Int) + (nd : Int))) = false := by rw [w64 (n := (used : Int) + (nd : Int)) (by omega) (by omega)]; exact decide_eq_false (by omega)
  have hu0 : IntKind.u64.wrap (many : Int) = (many : Int) := u64_in (by omega)
  have hu1 : IntKind.u64.wrap ((first : Int) + (many : Int)) = (N : Int) := by rw [u64_add, hN]
  have hrs : rc.size ≤ 5000 := by omega
  have HNP : Hid (12 ≤ rc.size) := Lib.hid (by omega)
  rw [← hN, ← hrc, ← hnd2]
  have HNC := Lib.hid hNC; have HRC := Lib.hid hRC; have HN := Lib.hid hN; have HRCE := Lib.hid hrc; have HND := Lib.hid hnd; have HND2 := Lib.hid hnd2; have HRS := Lib.hid hrs
  clear hs0 hs1 hx hl hd hg hz hW1 hnc hNC hN hrec hRC hrz hnd h10 hrc hnd2 hrs
  refine (callsIn_wide (n := 6)).1 ?_
  refine callsIn_of_wp_marks Try.func13 rfl trivial ?_ rfl
  simp only [Try.ntmps13, List.size_toArray, List.length_cons, List.length_nil, Nat.reduceAdd, Nat.reduceSub, Array.replicate_succ, Array.replicate_zero, List.push_toArray, List.append_toArray, List.nil_append, List.cons_append]
  gi_wp2_with fail
  rw [← HW1.out]
  refine ⟨trivial, (callsIn_wide.2 HNC.out).mono ?_⟩
  rintro e w2 ⟨rfl, hb2⟩
  have hx2 := HX.out.step hb2; have hl2 := HL.out.step hb2
  have hd2 : DskBox w2 _ _ _ _ := (hb2.block _ (blk_lt HD.out)).trans HD.out
  have hg2 : LogBox w2 _ _ _ _ _ := (hb2.block _ (blk_lt HG.out)).trans HG.out
  have hz2 : w.heap.size + 5 ≤ w2.heap.size := by have := hb2.size; have := HZ.out; omega
  obtain ⟨W3, hW3⟩ : ∃ W3, W3 = w2.alloc (.cells #[.slice none 0 0] 22) := ⟨_, rfl⟩
  have b3 := (Below.refl w2.heap.size w2).alloc (Nat.le_refl _) (.cells #[.slice none 0 0] 22)
  have ho3 : Boxed W3 w2.heap.size 22 (.slice none 0 0) := by rw [hW3]; exact heap_alloc_new w2 _
  have hz3 : W3.heap.size = w2.heap.size + 1 := by rw [hW3, World.size_alloc]
  rw [← hW3] at b3
  have hx3 := hx2.step b3; have hl3 := hl2.step b3
  have q2 := hl3.l2; have q3 := hl3.l3; have r1 := hx2.r1; have p1 := hl2.l1
  rw [hW3] at q2 q3
  have HW3 := Lib.hid hW3; have HX2 := Lib.hid hx2; have HL2 := Lib.hid hl2; have HD2 := Lib.hid hd2; have HG2 := Lib.hid hg2; have HZ2 := Lib.hid hz2; have HO3 := Lib.hid ho3; have HZ3 := Lib.hid hz3; have HB3 := Lib.hid b3
  clear hx2 hl2 hd2 hg2 hz2 hW3 b3 ho3 hz3 hx3 hl3 HNC hb2 HX HL HD HG HZ
  gi_wp2_with fail
  rw [← HW3.out]
  refine ⟨trivial, (callsIn_wide.2 (HRC.out _)).mono ?_⟩
  rintro e w4 ⟨rfl, hb4⟩
  have HB4 := Lib.hid hb4
  have kb := print_bytes (P := Try.prog) 9 71 5 Try.underlying9 Try.underlying71 Try.underlying5 rc w4
  obtain ⟨cap, hcapd⟩ : ∃ cap, cap = grownCap w4 rc.size 0 5 := ⟨_, rfl⟩
  have hge : rc.size ≤ cap := by rw [hcapd]; exact grownCap_ge _ _ _ _
  rw [← hcapd] at kb
  have HGE := Lib.hid hge
  clear hb4 hcapd hge q2 q3 r1 p1 hu0 hu1 g2 HRC
  gi_wp2_with fail
  refine ⟨trivial, (callsIn_wide.2 (Q.chunk_calls _ _ _ _)).mono ?_⟩
  rintro e w6 ⟨rfl, hw6⟩
  have HW6 := Lib.hid hw6
  clear kb hw6
  gi_wp2_with fail
  obtain ⟨W5, hW5⟩ : ∃ W5, W5 = Lib.bytesWorld w4 5 rc := ⟨_, rfl⟩
  have hw6 := HW6.out
  obtain ⟨b5, hb5⟩ : ∃ b5, b5 = W5.heap.size := ⟨_, rfl⟩
  rw [← hW5] at hw6 ⊢
  rw [← hb5]
  have z5 := Lib.bytesWorld_size w4 5 rc
  have hb45 := bytes_below (Below.refl w4.heap.size w4) (Nat.le_refl _) 5 rc
  have hC5 := Lib.bytesWorld_at_new w4 5 rc
  have hcl := fun j hj => bw_cell w4 5 rc j hj
  rw [← hW5] at z5 hb45 hC5
  obtain ⟨C, hCd⟩ : ∃ C, C = Lib.bytesCells w4 5 rc := ⟨_, rfl⟩
  rw [← hCd] at hC5
  have hb56 : Below W5.heap.size W5 w6 := by rw [hw6]; exact ((Below.refl _ W5).alloc (Nat.le_refl _) _).alloc (by rw [World.size_alloc]; omega) _
  have z6 : w6.heap.size = b5 + 2 := by rw [hw6, World.size_alloc, World.size_alloc, hb5]
  have hBs : w6.heap[b5]? = some (.cells #[.slice (some ⟨w4.heap.size, 0, none⟩) rc.size cap] 71 (0, 0)) := by
    rw [hw6, Below.heap_alloc _ _ _ (by rw [World.size_alloc]; omega), hb5]; exact heap_alloc_new W5 _
  have hBn : w6.heap[b5 + 1]? = some (.cells #[.int .i64 64] 3 (0, 0)) := by
    rw [hw6, hb5, ← World.size_alloc W5 (.cells #[.slice (some ⟨w4.heap.size, 0, none⟩) rc.size cap] 71)]; exact heap_alloc_new _ _
  have z4 := HB4.out.size
  have z3 := HZ3.out
  have zw := HZ2.out
  have hC6 : w6.heap[w4.heap.size]? = some _ := (hb56.block _ (by omega)).trans hC5
  have hb26 : Below w2.heap.size w2 w6 := by
    have h1 : Below w2.heap.size w2 W3 := by rw [HW3.out]; exact (Below.refl _ w2).alloc (Nat.le_refl _) _
    exact ((h1.trans (HB4.out.mono (by omega))).trans (hb45.mono (by omega))).trans (hb56.mono (by omega))
  have ho6 : Boxed w6 w2.heap.size 22 (.slice none 0 0) := by
    have h1 : W3.heap[w2.heap.size]? = _ := HO3.out
    exact (hb56.block _ (by omega)).trans ((hb45.block _ (by omega)).trans ((HB4.out.block _ (by omega)).trans h1))
  have hcc : ∀ (W : World), W.heap[w4.heap.size]? = w6.heap[w4.heap.size]? → ∀ j, j < rc.size → W.cell? ⟨w4.heap.size, j, none⟩ = some (.int .u8 ((rc.data.toList.getD j 0).toNat : Int)) := by
    intro W hW j hj
    rw [← hcl j hj, ← hW5]
    exact World.cell?_of_block (a := ⟨w4.heap.size, j, none⟩) (hW.trans (hb56.block _ (by omega)))
  have HCC := Lib.hid hcc; have HC6 := Lib.hid hC6; have HB26 := Lib.hid hb26; have HO6 := Lib.hid ho6; have HBS := Lib.hid hBs; have HBN := Lib.hid hBn
  have hrs := HRS.out
  have HZZ : Hid (b5 = w4.heap.size + 1 ∧ w6.heap.size = b5 + 2 ∧ w2.heap.size + 1 ≤ w4.heap.size ∧ w.heap.size + 5 ≤ w2.heap.size) := Lib.hid ⟨by omega, z6, by omega, zw⟩
  have HW5 := Lib.hid hW5; have HB5 := Lib.hid hb5
  clear hw6 hb45 hC5 hcl hb56 hcc hC6 hb26 ho6 hBs hBn hCd hW5 hb5 z5 z6 z4 z3 zw
  refine wpIn_rangeFunc_ownH rfl (by omega) (gf := 49) (lb := #[.pointer (some ⟨b5, 0, none⟩), .pointer (some ⟨b5 + 1, 0, none⟩)]) rfl trivial (enters_of Try.func49 (by kernel_rfl) rfl)
    (encs := fun x : Nat => #[Q.pieceV w4.heap.size rc.size x]) (Kp := Q.KeepX w6.heap.size w2.heap.size) (S := fun ys => ys = List.range ((rc.size + 63) / 64)) (Sp := fun pre => ∃ k, k ≤ (rc.size + 63) / 64 ∧ pre = List.range k) (N := (rc.size + 63) / 64) (w0 := w6)
    (fun lp J Jx W hW hJ hJx hY h0 => Q.chunk1_in w4.heap.size rc.size cap _ rfl HGE.out (by omega) 5 (by omega) lp b5 (b5 + 1) w6.heap.size w2.heap.size w6 (Nat.le_refl _)
      (fun W hW => by rw [hW.cell (by have hzz := HZZ.out; omega) (by have hzz := HZZ.out; omega), blk_cell HBS.out]; rfl) (fun W hW => by rw [hW.cell (by have hzz := HZZ.out; omega) (by have hzz := HZZ.out; omega), blk_cell HBN.out]; rfl) J Jx W (Q.KeepX.below hW (Nat.le_refl _)) hJ hJx hY h0)
    (fun h k => Q.KeepX.trans h k) (fun W l o o' hl ho _ _ => Q.KeepX.put W l o o' hl ho) (Below.refl _ _) (fun _ => rfl)
    (fun pre W => (∃ v, Boxed W w2.heap.size 22 v ∧ W.ownsRow w6.heap.size 9 1 v (pcsV rc pre).length (pcsV rc pre) ∧ True) ∧ (W.heap[w4.heap.size]? = some (.cells C 5 (C.size, C.size + 1)) ∧ (Below w2.heap.size w2 W ∧ w6.heap.size ≤ W.heap.size)))
    (fun _ _ _ => False)
    (OwnFrom.and (Own.from (holdsRow_own w6.heap.size w2.heap.size 22 9 1 (fun pre => (pcsV rc pre).length) (fun pre => pcsV rc pre) (fun _ _ => True)) _) (OwnFrom.and (ownFrom_obj _ _ _ _ _) (OwnFrom.and (ownFrom_below (Nat.le_refl _) (by have hzz := HZZ.out; omega)) (fun _ _ _ _ hs hg _ => Nat.le_trans hs hg.size))))
    (fun _ _ _ _ _ hs _ _ => hs)
    ⟨⟨_, HO6.out, World.ownsRow_nil _ _ _ _, trivial⟩, HC6.out, HB26.out, Nat.le_refl _⟩
    (fun x a' W => a' = { tmps := #[Value.agg #[Value.slice A0 l0.length c0, Value.slice A1 l1.length c1, Value.bool false], Value.agg #[Value.int .i64 ↑fr, Value.int .i64 ↑mn], Value.agg #[Value.int .i64 ↑at_, Value.int .i64 ↑used, Value.int .u64 ↑first, Value.int .i64 ↑many], Value.string s, Value.pointer (some ⟨w.heap.size, 0, none⟩), Value.pointer (some ⟨w.heap.size + 1, 0, none⟩), Value.pointer (some ⟨w.heap.size + 1 + 1, 0, none⟩), undef, Value.pointer (some ⟨w.heap.size + 1 + 1 + 1, 0, none⟩), Value.pointer (some ⟨w.heap.size + 1 + 1 + 1 + 1, 0, none⟩), Value.int .i64 0, Value.int .i64 ↑nd, Value.pointer (some ⟨w2.heap.size, 0, none⟩), Q.pieceV w4.heap.size rc.size x, Value.bool false, Value.pointer (some ⟨w.heap.size, 2, none⟩), Value.bool false, undef, undef, Value.bool false, Value.string s, Value.int .i64 ↑s.size, Value.bool false, undef, undef, Value.string s, Value.int .i64 ↑nd, Value.pointer (some ⟨w.heap.size + 1 + 1, 1, none⟩), Value.int .i64 ↑used, Value.int .i64 ↑nd, Value.int .i64 (↑used + ↑nd), Value.pointer (some ⟨w.heap.size + 1, 1, none⟩), Value.int .i64 ↑mn, Value.bool (decide ((mn : Int) < ↑used + ↑nd)), undef, undef, Value.pointer (some ⟨w.heap.size + 1 + 1, 2, none⟩), Value.int .u64 ↑first, Value.pointer (some ⟨w.heap.size + 1 + 1, 3, none⟩), Value.int .i64 ↑many, Value.int .u64 ↑many, Value.int .u64 ↑N, Value.string s, Value.string rc, Value.slice (some ⟨w4.heap.size, 0, none⟩) rc.size cap, Value.func (Fn.func 49) #[] #[Value.pointer (some ⟨b5, 0, none⟩), Value.pointer (some ⟨b5 + 1, 0, none⟩)], Q.pieceV w4.heap.size rc.size x, undef, undef, undef, undef, undef, undef, undef, undef, undef, undef, undef, undef, undef, undef, undef, undef, undef, undef, undef, undef, undef, undef, undef, undef, undef], defers := [] })
    (fun x a' _ X Y row hs hg hrow => hs) ?assign ?body ?done ?stop
  case assign =>
    rintro lp pre x W K hi hK
    gi_wp2_with fail
    exact hK _ _ ((KeepsOthers.refl _).from _) (Q.KeepX.refl _ _ _) hi rfl
  case body =>
    rintro lp pre x a' W hl hr ⟨⟨v, hv, hrow, _⟩, hC, hB, hsz⟩ rfl hlt
    have hc := hv.cell
    obtain ⟨i0, hi, hz0, hz1, hz2⟩ := info_parts info_str5
    have hlp : (pcsV rc pre).length ≤ 1000000 := by rw [pcsV_len]; omega
    have hcv := run_convert_bytes_arg (P := Try.prog) W 71 5 Try.underlying71 Try.underlying5 w4.heap.size (64 * x) (min 64 (rc.size - 64 * x)) (min 64 (rc.size - 64 * x)) (bytesOf (pieceS rc x))
      (by rw [bytesOf_length, pieceS, pbsz, List.length_take, List.length_drop, ← sz])
      (fun i hi => by
        rw [HCC.out W (hC.trans HC6.out.symm) (64 * x + i) (by omega)]
        rw [piece_get rc x i hi]) 9 Try.underlying9
    rw [strOf_bytes] at hcv
    have HV := Lib.hid hv; have HRW := Lib.hid hrow; have HB := Lib.hid hB; have HC := Lib.hid hC
    clear hv hrow hB hC
    unfold Q.pieceV
    gi_wp2_with (gi_at_builtin; go_must (refine wpListIn_append_own _ rfl _ _ 22 rfl w6.heap.size 9 i0 _ 1 16 Try.underlying22 hi hz0 hz1 hz2 rfl (by decide) _ _ _ rfl (HRW.out.alloc _) ⟨W.heap.size, 0, none⟩ 1 1 [.string (pieceS rc x)] rfl rfl (cell_one_new _ _ _) (by simp [Value.oneCell']) (by unfold maxLen; omega) (by omega) (by rw [World.size_alloc]; omega) ?_); intro v' w1 hown' hgrow _; obtain ⟨g', cap', rfl⟩ := ownsRow_succ hown'; obtain ⟨hv1, hv2, hr2, hk2, hb2⟩ := boxed_appended HV.out (by decide) HRW.out hsz hown' hgrow; have hc1 := hv1.cell; have hf1 := hv1.frozen; have HV2 := Lib.hid hv2; have HR2 := Lib.hid hr2; have HK2 := Lib.hid hk2; have HB2 := Lib.hid hb2; have HG := Lib.hid hgrow; clear hv1 hv2 hr2 hk2 hb2 hown' hgrow)
    have e1 : pcsV rc (pre ++ [x]) = pcsV rc pre ++ [Value.string (pieceS rc x)] := by simp [pcsV]
    have e2 : (pcsV rc (pre ++ [x])).length = (pcsV rc pre).length + 1 := by simp [pcsV]
    refine ⟨HK2.out.from _, HB2.out, ⟨_, HV2.out, by rw [e2, e1]; exact HR2.out, trivial⟩, (HB2.out.2 _ (by have hzz := HZZ.out; omega) (by have hzz := HZZ.out; omega)).trans HC.out, ?_, Nat.le_trans hsz HB2.out.1⟩
    exact ((HB.out.alloc HB.out.size _).grown HG.out (by have := HB.out.size; rw [World.size_alloc]; omega) (fun k hk => by have := own_base HRW.out k hk; have hzz := HZZ.out; omega)).setCell (p := ⟨w2.heap.size, 0, none⟩) (Nat.le_refl _) _
  case done =>
    rintro D ys W hD rfl ⟨⟨v, hv, hrow, _⟩, hC, hB, hsz⟩ hK
    have hzz := HZZ.out
    have hxW := HX2.out.step hB; have hlW := HL2.out.step hB
    have hdW : DskBox W _ _ _ _ := (hB.block _ (by omega)).trans HD2.out
    have hgW : LogBox W _ _ _ _ _ := (hB.block _ (by omega)).trans HG2.out
    have hKr : (rc.size + 63) / 64 = (pieces rc).length := (pieces_len rc).symm
    have hKp : 0 < (pieces rc).length := by rw [pieces_len]; have := HND.out; have := HNP.out; omega
    have hR : Kd.R Kd.string 9 W w6.heap.size (fun _ => True) v (pieces rc) := Kd.R_of_own (by
      have e : pcsV rc (List.range ((rc.size + 63) / 64)) = (pieces rc).map Value.string := by unfold pcsV pieces; rw [List.map_map]; rfl
      rw [e, List.length_map] at hrow; exact hrow) (fun _ _ => trivial)
    obtain ⟨g, cap3, rfl, hle3, _, hg3, hrd⟩ := img_row hR hKp
    have ha0 : Kd.V Kd.string 9 W W.heap.size (fun k => P0 k ∧ k < w.heap.size) (.slice A0 l0.length c0) l0 := Kd.V_step (Kd.V_bound HS0.out) (fun k hk _ => hxW.b.block k hk.2)
    have ha1 : Kd.V k88 88 W W.heap.size (fun k => P1 k ∧ k < w.heap.size) (.slice A1 l1.length c1) l1 := Kd.V_step (Kd.V_bound HS1.out) (fun k hk _ => hxW.b.block k hk.2)
    have hlay := lay_calls _ _ A0 c0 l0 A1 c1 l1 fr mn (at_ + used) (some ⟨g, 0, none⟩) cap3 (pieces rc) W ha0 ha1 hrd (by rw [pieces_len]; omega) (fun s hs => by
      unfold pieces at hs
      obtain ⟨j, _, rfl⟩ := List.mem_map.1 hs
      exact piece_size rc j) hm hfm hn0 (by rw [pieces_len]; omega) (by omega)
    rw [show ((at_ + used : Nat) : Int) = (at_ : Int) + (used : Int) by omega] at hlay
    have hc := hv.cell
    rw [← hKr] at hlay hc
    have HLAY := Lib.hid hlay
    have c0 := hxW.c0; have c1 := hxW.c1; have c2 := hxW.c2; have r0 := hxW.r0; have r1 := hxW.r1; have p0 := hlW.l0; have p1 := hlW.l1
    have HXW := Lib.hid hxW; have HLW := Lib.hid hlW; have HDW := Lib.hid hdW; have HGW := Lib.hid hgW; have HK := Lib.hid hK; have HSZ := Lib.hid hsz; have HHD := Lib.hid hD
    clear hxW hlW hdW hgW hlay hR ha0 ha1 hrd hv hrow hC hB hsz hK hzz hD hKr hKp hle3 hg3
    gi_wp2_with fail
    refine ⟨trivial, (callsIn_wide.2 HLAY.out).mono ?_⟩
    rintro e w7 ⟨v0, v1, rfl, hv0, hv1, hb7⟩
    obtain ⟨LN, hLN⟩ : ∃ LN, LN = l1 ++ laidP fr mn (at_ + used) 0 (pieces rc) := ⟨_, rfl⟩
    rw [← hLN] at hv1
    have HLN := Lib.hid hLN
    obtain ⟨B2, d2, rfl⟩ := Kd.V_slice hv0
    obtain ⟨B3, d3, rfl⟩ := Kd.V_slice hv1
    have hx7 := HXW.out.step hb7
    have hl7 : LogBox w7 (w.heap.size + 1 + 1) _ _ _ _ := (HLW.out.step hb7).l
    have hd7 : DskBox w7 _ _ _ _ := (hb7.block _ (blk_lt HDW.out)).trans HDW.out
    have hg7 : LogBox w7 _ _ _ _ _ := (hb7.block _ (blk_lt HGW.out)).trans HGW.out
    have hK7 := (hb7.block _ (blk_lt HK.out)).trans HK.out
    have hD7 : w.heap.size + 5 ≤ D := by have h1 := HZZ.out; have h2 := HHD.out; omega
    have hW7 : w.heap.size + 5 ≤ W.heap.size := by have h1 := HZZ.out; have h2 := HSZ.out; omega
    have HDW8 : Hid (D < W.heap.size) := Lib.hid (blk_lt HK.out)
    have HK7 := Lib.hid hK7; have HD7 := Lib.hid hD7; have HW7 := Lib.hid hW7; have HV0 := Lib.hid hv0; have HV1 := Lib.hid hv1; have HX7 := Lib.hid hx7
    have HL7 := Lib.hid hl7; have HDD7 := Lib.hid hd7; have HGG7 := Lib.hid hg7
    obtain ⟨a0, a1, a2, a3, a4, a5⟩ := DskBox.facts (show DskBox w7 w.heap.size _ _ _ from hx7.d)
    obtain ⟨b0, b1, b2, b3, b4, b5', b6, b7⟩ := hl7.facts
    obtain ⟨x0, x1, x2, x3, x4, x5⟩ := hd7.facts
    obtain ⟨z0, z1, z2, z3, y0, y1, y2, y3⟩ := hg7.facts
    clear hLN hv0 hv1 hx7 hl7 hd7 hg7 hK7 hD7 hW7 hb7 c0 c1 c2 r0 r1 p0 p1 hc HLAY HXW HLW HDW HGW HK HSZ HHD
    gi_wp2_with fail
    clear a0 a1 a2 a3 a4 a5 b0 b1 b2 b3 b4 b5' b6 b7 x0 x1 x2 x3 x4 x5 z0 z1 z2 z3 y0 y1 y2 y3
    obtain ⟨W8, hW8⟩ : ∃ W8, W8 = ((((w7.setCell ⟨w.heap.size, 0, none⟩ (.slice B2 l0.length d2)).setCell ⟨w.heap.size, 1, none⟩ (.slice B3 LN.length d3)).setCell ⟨w.heap.size, 2, none⟩ (.bool false)).setCell ⟨w.heap.size + 1 + 1, 1, none⟩ (.int .i64 ((used : Int) + (nd : Int)))).setCell ⟨w.heap.size + 1 + 1, 3, none⟩ (.int .i64 ((many : Int) + 1)) := ⟨_, rfl⟩
    rw [← hW8]
    obtain ⟨hd8, hl8, hr8, hs8, he8, hz8, hbl8⟩ := ap_set (b := w.heap.size) HX7.out.d HL7.out HDD7.out HGG7.out hW8
    obtain ⟨a0, a1, a2, _⟩ := hd8.facts
    obtain ⟨b0, b1, b2, b3, _⟩ := hl8.facts
    obtain ⟨x0, x1, x2, x3, x4, x5⟩ := hr8.facts
    obtain ⟨z0, z1, z2, z3, y0, y1, y2, y3⟩ := hs8.facts
    have HE8 := Lib.hid he8; have HZ8 := Lib.hid hz8
    have HBL8 := Lib.hid (hbl8 w.heap.size w (Nat.le_refl _) HX7.out.b)
    have HR8 := Lib.hid hr8; have HS8 := Lib.hid hs8
    clear hd8 hl8 hr8 hs8 he8 hz8 hbl8 hW8
    gi_region
    gi_wp2_with fail
    clear a0 a1 a2 b0 b1 b2 b3 x0 x1 x2 x3 x4 x5 z0 z1 z2 z3 y0 y1 y2 y3
    obtain ⟨W9, hW9⟩ : ∃ W9, W9 = (((((((W8.setCell ⟨w.heap.size + 1 + 1 + 1, 0, none⟩ (.slice B2 l0.length d2)).setCell ⟨w.heap.size + 1 + 1 + 1, 1, none⟩ (.slice B3 LN.length d3)).setCell ⟨w.heap.size + 1 + 1 + 1, 2, none⟩ (.bool false)).setCell ⟨w.heap.size + 1 + 1 + 1 + 1, 0, none⟩ (.int .i64 (at_ : Int))).setCell ⟨w.heap.size + 1 + 1 + 1 + 1, 1, none⟩ (.int .i64 ((used : Int) + (nd : Int)))).setCell ⟨w.heap.size + 1 + 1 + 1 + 1, 2, none⟩ (.int .u64 (first : Int))).setCell ⟨w.heap.size + 1 + 1 + 1 + 1, 3, none⟩ (.int .i64 ((many : Int) + 1))).drew := ⟨_, rfl⟩
    rw [← hW9]
    obtain ⟨hr9, hs9, he9, hz9, hbl9⟩ := ap_fin (b := w.heap.size) HR8.out HS8.out hW9
    have hD7 := HD7.out
    have hK9 : W9.heap[D]? = some (.deferred (some [])) := by rw [he9 D (by omega) (by omega), HE8.out D (by omega) (by omega)]; exact HK7.out
    refine ⟨by simp, .inl ⟨_, _, rfl, run_takeDeferred hK9, ?_⟩⟩
    have hall : ∀ k, k < W9.heap.size → k ≠ D → (W9.putObj D (.deferred none)).heap[k]? = W9.heap[k]? := fun k h1 h2 => (grownBy_putObj' W9 D (.deferred none)).block k h1 (fun e => h2 (by cases e; rfl))
    have hz : W9.heap.size = w7.heap.size := hz9.trans HZ8.out
    have hr10 : DskBox (W9.putObj D (.deferred none)) (w.heap.size + 1 + 1 + 1) _ _ _ := (hall _ (blk_lt hr9) (by omega)).trans hr9
    have hs10 : LogBox (W9.putObj D (.deferred none)) (w.heap.size + 1 + 1 + 1 + 1) _ _ _ _ := (hall _ (blk_lt hs9) (by omega)).trans hs9
    obtain ⟨x0, x1, x2, _⟩ := hr10.facts
    obtain ⟨z0, z1, z2, z3, _⟩ := hs10.facts
    have hstep : ∀ k, k < w7.heap.size → k ≠ w.heap.size → k ≠ w.heap.size + 1 + 1 → k ≠ w.heap.size + 1 + 1 + 1 → k ≠ w.heap.size + 1 + 1 + 1 + 1 → k ≠ D → (W9.putObj D (.deferred none)).heap[k]? = w7.heap[k]? :=
      fun k h0 h1 h2 h3 h4 h5 => (hall k (by omega) h5).trans ((he9 k h3 h4).trans (HE8.out k h1 h2))
    have hW7 := HW7.out
    have hDW := HDW8.out
    have hst : ∀ {Pz : Nat → Prop} k, ((Pz k ∧ k < w.heap.size) ∨ W.heap.size ≤ k) → k < w7.heap.size → (W9.putObj D (.deferred none)).heap[k]? = w7.heap[k]? := by
      intro Pz k hk hlt
      rcases hk with ⟨_, hk⟩ | hk
      · exact hstep k hlt (by omega) (by omega) (by omega) (by omega) (by omega)
      · exact hstep k hlt (by omega) (by omega) (by omega) (by omega) (by omega)
    have hq : ∀ k, ((P0 k ∧ k < w.heap.size ∨ P1 k ∧ k < w.heap.size) ∨ W.heap.size ≤ k) → (((P0 k ∨ P1 k) ∧ k < w.heap.size) ∨ W.heap.size ≤ k) := by
      rintro k ((⟨h1, h2⟩ | ⟨h1, h2⟩) | h)
      · exact .inl ⟨.inl h1, h2⟩
      · exact .inl ⟨.inr h1, h2⟩
      · exact .inr h
    have hq2 : ∀ k, ((P0 k ∧ k < w.heap.size ∨ P1 k ∧ k < w.heap.size) ∨ W.heap.size ≤ k) → ((P0 k ∨ P1 k) ∨ w.heap.size ≤ k) := by
      rintro k ((⟨h1, h2⟩ | ⟨h1, h2⟩) | h)
      · exact .inl (.inl h1)
      · exact .inl (.inr h1)
      · exact .inr (by omega)
    refine ⟨.tuple #[.agg #[.slice B2 l0.length d2, .slice B3 LN.length d3, .bool false], .agg #[.int .i64 (at_ : Int), .int .i64 ((used : Int) + (nd : Int)), .int .u64 (first : Int), .int .i64 ((many : Int) + 1)], .int .i64 0], by simp [results, Try.results13, go_sem, x0, x1, x2, z0, z1, z2, z3], _, _, rfl, ?_, ?_, ?_⟩
    · exact Kd.V_mono (Kd.V_step HV0.out (fun k hk hlt => hst (Pz := fun k => P0 k ∨ P1 k) k (hq k hk) hlt)) hq2
    · rw [← HLN.out]
      exact Kd.V_mono (Kd.V_step HV1.out (fun k hk hlt => hst (Pz := fun k => P0 k ∨ P1 k) k (hq k hk) hlt)) hq2
    · exact (hbl9 w.heap.size w (Nat.le_refl _) HBL8.out).trans (belowK_b (w := w) (Nat.le_refl _) W9 D _ _ (by omega) hK9 rfl rfl)
  case stop =>
    rintro D c pre W _ _ h _
    exact h.elim
def redo_Append.f (l0_0 : List ByteArray) (l0_1 : List S88) (a0_2 : Bool) (a1_0 a1_1 a2_0 a2_1 a2_2 a2_3 : Int) (a3 : ByteArray) : Option (List ByteArray × List S88 × Bool × Int × Int × Int × Int × Int) :=
  if a0_2 = true then some (l0_0, l0_1, a0_2, a2_0, a2_1, a2_2, a2_3, 19)
  else if 4096 < a3.size then some (l0_0, l0_1, a0_2, a2_0, a2_1, a2_2, a2_3, 5)
  else if a1_1 < wrap64 (a2_1 + (needN a3 : Int)) then some (l0_0, l0_1, a0_2, a2_0, a2_1, a2_2, a2_3, 12)
  else if 1 ≤ a1_1 ∧ 0 ≤ a1_0 ∧ a1_0 + a1_1 ≤ (l0_0.length : Int) ∧ l0_0.length ≤ 1000000000 ∧ l0_1.length ≤ 100000000 ∧ 0 ≤ a2_0 ∧ a2_0 ≤ 100000 ∧ a1_1 ≤ 100000 ∧ 0 ≤ a2_1 ∧ a2_1 ≤ 100000 ∧ 0 ≤ a2_2 ∧ a2_2 < 18446744073709551616 ∧ 0 ≤ a2_3 ∧ a2_3 ≤ 1000000000 then
    some (l0_0, l0_1 ++ laidP a1_0.toNat a1_1.toNat (a2_0.toNat + a2_1.toNat) 0 (pieces (recS ((a2_2.toNat + a2_3.toNat) % 18446744073709551616) a3)), a0_2, a2_0, a2_1 + (needN a3 : Int), a2_2, a2_3 + 1, 0)
  else none
theorem redo_Append.calls (P0_0 : Nat → Prop) (A0_0 : Option Addr) (c0_0 : Nat) (l0_0 : List ByteArray) (P0_1 : Nat → Prop) (A0_1 : Option Addr) (c0_1 : Nat) (l0_1 : List S88) (a0_2 : Bool) (a1_0 a1_1 a2_0 a2_1 a2_2 a2_3 : Int) (a3 : ByteArray)
    (r1 : List ByteArray) (r2 : List S88) (r3 : Bool) (r4 r5 r6 r7 r8 : Int) (w : World) (hs0_0 : Kd.V Kd.string 9 w w.heap.size (fun k_ => P0_0 k_) (.slice A0_0 l0_0.length c0_0) l0_0) (hs0_1 : Kd.V k88 88 w w.heap.size (fun k_ => P0_1 k_) (.slice A0_1 l0_1.length c0_1) l0_1)
    (h : redo_Append.f l0_0 l0_1 a0_2 a1_0 a1_1 a2_0 a2_1 a2_2 a2_3 a3 = some (r1, r2, r3, r4, r5, r6, r7, r8)) :
    Calls Try.prog 13 #[.agg #[.slice A0_0 l0_0.length c0_0, .slice A0_1 l0_1.length c0_1, .bool a0_2], .agg #[.int .i64 a1_0, .int .i64 a1_1], .agg #[.int .i64 a2_0, .int .i64 a2_1, .int .u64 a2_2, .int .i64 a2_3], .string a3] w fun e w' =>
      ∃ v0_ v1_ : Value, e = .returned (.tuple #[.agg #[v0_, v1_, .bool r3], .agg #[.int .i64 r4, .int .i64 r5, .int .u64 r6, .int .i64 r7], .int .i64 r8]) ∧ Kd.V Kd.string 9 w' w.heap.size (fun k_ => ((P0_0 k_ ∨ P0_1 k_) ∨ w.heap.size ≤ k_)) v0_ r1 ∧ Kd.V k88 88 w' w.heap.size (fun k_ => ((P0_0 k_ ∨ P0_1 k_) ∨ w.heap.size ≤ k_)) v1_ r2 ∧ Below w.heap.size w w' := by
  have give : ∀ (code : Int), (r1, r2, r3, r4, r5, r6, r7, r8) = (l0_0, l0_1, a0_2, a2_0, a2_1, a2_2, a2_3, code) → ∀ e w', (e = Ending.returned (.tuple #[.agg #[.slice A0_0 l0_0.length c0_0, .slice A0_1 l0_1.length c0_1, .bool a0_2], .agg #[.int .i64 a2_0, .int .i64 a2_1, .int .u64 a2_2, .int .i64 a2_3], .int .i64 code]) ∧ Below w.heap.size w w') →
      ∃ v0_ v1_ : Value, e = .returned (.tuple #[.agg #[v0_, v1_, .bool r3], .agg #[.int .i64 r4, .int .i64 r5, .int .u64 r6, .int .i64 r7], .int .i64 r8]) ∧ Kd.V Kd.string 9 w' w.heap.size (fun k_ => ((P0_0 k_ ∨ P0_1 k_) ∨ w.heap.size ≤ k_)) v0_ r1 ∧ Kd.V k88 88 w' w.heap.size (fun k_ => ((P0_0 k_ ∨ P0_1 k_) ∨ w.heap.size ≤ k_)) v1_ r2 ∧ Below w.heap.size w w' := by
    rintro code hc e w' ⟨rfl, hb⟩
    simp only [Prod.mk.injEq] at hc
    obtain ⟨rfl, rfl, rfl, rfl, rfl, rfl, rfl, rfl⟩ := hc
    exact ⟨_, _, rfl, Kd.V_mono (Kd.V_below hs0_0 hb) (fun _ hk => .inl (.inl hk)), Kd.V_mono (Kd.V_below hs0_1 hb) (fun _ hk => .inl (.inr hk)), hb⟩
  unfold redo_Append.f at h
  split at h
  · rename_i h1
    subst h1
    exact (append_off _ _ _ _ _ _ _ _ _ _ _ _ _ _).mono (give 19 (Option.some.inj h).symm)
  · rename_i h1
    obtain rfl : a0_2 = false := by simpa using h1
    split at h
    · rename_i h2
      exact (append_big _ _ _ _ _ _ _ _ _ _ _ _ _ _ h2).mono (give 5 (Option.some.inj h).symm)
    · rename_i h2
      split at h
      · rename_i h3
        exact (append_room _ _ _ _ _ _ _ _ _ _ _ _ _ _ (by omega) h3).mono (give 12 (Option.some.inj h).symm)
      · rename_i h3
        split at h
        · rename_i hk
          obtain ⟨k1, k2, k3, k4, k5, k6, k7, k8, k9, k10, k11, k12, k13, k14⟩ := hk
          have h := Option.some.inj h
          simp only [Prod.mk.injEq] at h
          obtain ⟨rfl, rfl, rfl, rfl, rfl, rfl, rfl, rfl⟩ := h
          obtain ⟨fr, rfl⟩ := Int.eq_ofNat_of_zero_le k2
          obtain ⟨mn, rfl⟩ := Int.eq_ofNat_of_zero_le (show 0 ≤ a1_1 by omega)
          obtain ⟨at_, rfl⟩ := Int.eq_ofNat_of_zero_le k6
          obtain ⟨used, rfl⟩ := Int.eq_ofNat_of_zero_le k9
          obtain ⟨first, rfl⟩ := Int.eq_ofNat_of_zero_le k11
          obtain ⟨many, rfl⟩ := Int.eq_ofNat_of_zero_le k13
          have hnb : needN a3 ≤ 100000 := by
            have h10 := numS_size10 (show a3.size < 18446744073709551616 by omega)
            have := recS_size 0 a3
            unfold needN; omega
          rw [w64 (by omega) (by omega)] at h3
          exact append_main P0_0 P0_1 A0_0 c0_0 l0_0 A0_1 c0_1 l0_1 fr mn at_ used first many a3 w hs0_0 hs0_1 (by omega) (by omega) k4 k5 (by omega) (by omega) (by omega) (by omega) (by omega) (by omega)
        · cases h
end Go.Proofs.Ytcbfnfggnocndaa
end
