/- Layer 4, walked: the writes that are done, one by one (a range over a function). -/
import Derived.Test.YtoknncbdfdgfjaaQ0
import Derived.Test.YtoknncbdfdgfjaaT
import Derived.RangeFuncBox
import Derived.RangeFuncNested
import Derived.RangeFuncLeaves
import Derived.Shelf.Abstract
import Derived.Shelf.AbstractIn
import Derived.WalkKit
import Derived.OwnWalkIn
import Derived.TacticsInMore
import Derived.LoopNIn
import Derived.LoopIn
import Derived.Maps.AppendAt
import Derived.Lib.Hide
import Derived.Outline
set_option linter.unusedVariables false
set_option linter.unusedSimpArgs false
namespace Go.Proofs.Ytoknncbdfdgfjaa.Q
open Go.RowKit Go.Shelf Go.Proofs.YtoknncbdfdgfjaaW.PrintWords
attribute [local go_sem] Oper.semAt_some

/-- All blocks below a bound lie as they lay, but for one row. -/
def KeepX (B R : Nat) (W W' : World) : Prop := W.heap.size ≤ W'.heap.size ∧ ∀ b, b < B → b ≠ R → W'.heap[b]? = W.heap[b]?
namespace KeepX
theorem refl (B R : Nat) (W : World) : KeepX B R W W := ⟨Nat.le_refl _, fun _ _ _ => rfl⟩
theorem trans {B R : Nat} {X Y Z : World} (h : KeepX B R X Y) (k : KeepX B R Y Z) : KeepX B R X Z := ⟨Nat.le_trans h.1 k.1, fun b hb hr => (k.2 b hb hr).trans (h.2 b hb hr)⟩
theorem alloc {B R : Nat} (W : World) (o : Obj) (hB : B ≤ W.heap.size) : KeepX B R W (W.alloc o) := ⟨by simp, fun b hb _ => Below.heap_alloc W o b (by omega)⟩
theorem drewN {B R : Nat} (W : World) (n : Nat) : KeepX B R W (W.drewN n) := ⟨Nat.le_refl _, fun _ _ _ => rfl⟩
theorem below {B R : Nat} {W W' : World} (h : Below W.heap.size W W') (hB : B ≤ W.heap.size) : KeepX B R W W' := ⟨h.size, fun b hb _ => h.block b (by omega)⟩
theorem set {B R : Nat} (W : World) (j : Nat) (v : Value) : KeepX B R W (W.setCell ⟨R, j, none⟩ v) := ⟨(Below.setCell (Below.refl 0 W) (Nat.zero_le _) v).size, fun b _ hr => Below.heap_setCell W ⟨R, j, none⟩ v b hr⟩
theorem cell {B R : Nat} {W W' : World} (h : KeepX B R W W') {b o : Nat} (hb : b < B) (hr : b ≠ R) : W'.cell? ⟨b, o, none⟩ = W.cell? ⟨b, o, none⟩ := by
  unfold World.cell?; rw [h.2 b hb hr]
end KeepX

theorem pw_grown_drewN (W : World) (q : Nat) : W.grownBy (W.drewN q) none := grown_of_below (pw_below_drewN (Below.refl _ W) q) none
theorem KeepX.put {B R : Nat} (W : World) (l : Nat) (o o' : Obj) (hl : B ≤ l) (ho : W.heap[l]? = some o) : KeepX B R W (W.putObj l o') :=
  ⟨(grownBy_putObj' W l o').size, fun b hb _ => (grownBy_putObj' W l o').block b (by have := (Array.getElem?_eq_some_iff.1 ho).1; omega) (fun e => by cases e; omega)⟩
/-- The first k writes that are done. -/
def chosenL {α : Type} (is : Nat → Bool) (qs : List α) : Nat → List α
  | 0 => []
  | k + 1 => if is k then chosenL is qs k ++ (qs[k]?).toList else chosenL is qs k
theorem chosenL_len {α : Type} (is : Nat → Bool) (qs : List α) (k : Nat) : (chosenL is qs k).length ≤ k := by
  induction k with
  | zero => simp [chosenL]
  | succ k ih =>
    have h1 : ((qs[k]?).toList).length ≤ 1 := by cases qs[k]? <;> simp
    show (if is k then chosenL is qs k ++ (qs[k]?).toList else chosenL is qs k).length ≤ k + 1
    split
    · rw [List.length_append]; omega
    · omega
theorem chosenL_map {α β : Type} (f : α → β) (is : Nat → Bool) (qs : List α) (k : Nat) : chosenL is (qs.map f) k = (chosenL is qs k).map f := by
  induction k with
  | zero => rfl
  | succ k ih =>
    show (if is k then chosenL is (qs.map f) k ++ ((qs.map f)[k]?).toList else chosenL is (qs.map f) k) = (if is k then chosenL is qs k ++ (qs[k]?).toList else chosenL is qs k).map f
    rw [ih]
    split
    · rw [List.map_append, List.getElem?_map]; cases qs[k]? <;> rfl
    · rfl
def putV (x : S31) : Value := .agg #[.int .i64 x.f0, .string x.f1]

set_option maxRecDepth 100000 in
set_option maxHeartbeats 1000000 in
theorem chosen1_in {α : Type} (f : α → S31) (qs : List α) (n : Nat) (hn : 1 ≤ n) (l Bd Bf n1 R : Nat) (g : FuncId) (lb : Array Value) (ps : List S31) (hps : ps = qs.map f) (A1 : Option Addr) (c1 : Nat) (is : Nat → Bool) (w0 : World)
    (hn1 : n1 ≤ w0.heap.size) (eg : ∀ args W, (callFunc g args).run Try.prog W = .ok (.enter g args) W) (hlen : ps.length ≤ 140737488355328)
    (hd : ∀ W, KeepX n1 R w0 W → W.cell? ⟨Bd, 1, none⟩ = some (.slice A1 ps.length c1)) (hf : ∀ W, KeepX n1 R w0 W → W.cell? ⟨Bf, 0, none⟩ = some (.func (.func g) #[] lb))
    (hC : ∀ W, KeepX n1 R w0 W → Kd.C k31 W A1 ps.length ps)
    (hIs : ∀ W, KeepX n1 R w0 W → ∀ k : Nat, k < ps.length → Calls Try.prog g (#[.int .i64 k] ++ lb) W fun e w' => e = .returned (.bool (is k)) ∧ Drawn0 W w')
    (J Jx : List α → World → Prop) (W : World) (hW : KeepX n1 R w0 W) (hJ : AbidesFrom W.heap.size J) (hJx : AbidesFrom W.heap.size Jx)
    (hY : ∀ pre x W, J pre W → pre.length < ps.length → YieldAt Fence.wide (n - 1) Try.prog l #[putV (f x)] W fun e W' =>
      (e = .returned (.bool true) ∧ J (pre ++ [x]) W' ∧ KeepX n1 R W W') ∨ (e = .returned (.bool false) ∧ Jx (pre ++ [x]) W')) (h0 : J [] W) :
    CallsIn Fence.wide n Try.prog 47 #[.func (.yield l) #[] #[], .pointer (some ⟨Bd, 0, none⟩), .pointer (some ⟨Bf, 0, none⟩)] W fun e W' => (∃ v, e = .returned v) ∧
      ((∃ ys, ys = chosenL is qs ps.length ∧ J ys W') ∨ (∃ pre, (∃ k, k ≤ ps.length ∧ pre = chosenL is qs k) ∧ Jx pre W')) := by
  have hd0 := hd W hW
  refine callsIn_of_wp Try.func47 rfl trivial ?_ rfl
  simp only [Try.ntmps47, List.size_toArray, List.length_cons, List.length_nil, Nat.reduceAdd, Nat.reduceSub, Array.replicate_succ, Array.replicate_zero, List.push_toArray, List.append_toArray, List.nil_append, List.cons_append]
  gi_wp2
  gi_loopw [9] (fun i wr => ∃ k : Nat, k ≤ ps.length ∧ i = .int .i64 k ∧ J (chosenL is qs k) wr ∧ KeepX n1 R w0 wr)
    (fun i _ => ps.length - (intOf i).toNat)
  case atStart => exact ⟨0, Nat.zero_le _, rfl, h0, hW⟩
  case round =>
    obtain ⟨k, hk, rfl, hJs, hK⟩ := hrel
    by_cases hlt : k < ps.length
    · have hkz : (k : Int) < (ps.length : Int) := by omega
      obtain ⟨ad, rfl, hc0, hc1⟩ := at_T31 (hC wr hK) k (by omega) (by omega)
      rw [Int.toNat_natCast] at hc0 hc1
      have hkq : k < qs.length := by rw [hps, List.length_map] at hlt; exact hlt
      have hrd : rd_T31 ps k = f qs[k] := by
        show ps.getD k _ = _
        rw [hps, List.getD_eq_getElem?_getD, List.getElem?_map, List.getElem?_eq_getElem hkq]; rfl
      rw [hrd] at hc0 hc1
      have hqk : (qs[k]?).toList = [qs[k]] := by rw [List.getElem?_eq_getElem hkq]; rfl
      have HQK := Lib.hid hqk
      clear hqk hrd
      generalize qs[k] = xq at *
      obtain ⟨W1, hW1⟩ : ∃ W1, W1 = wr.alloc (.cells #[.int .i64 (f xq).f0, .string (f xq).f1] 31) := ⟨_, rfl⟩
      have hK1 : KeepX n1 R w0 W1 := by rw [hW1]; exact hK.trans (KeepX.alloc _ _ (by have := hK.1; omega))
      have hf1 := hf W1 hK1
      have hJ1 : J (chosenL is qs k) W1 := by rw [hW1]; exact hJ _ _ _ none hJs (World.grownBy_alloc wr _ none) (fun r e => by cases e)
      have hx1 : W1.cell? ⟨wr.heap.size, 0, none⟩ = some (.int .i64 (f xq).f0) := by rw [hW1]; simp
      have hx2 : W1.cell? ⟨wr.heap.size, 1, none⟩ = some (.string (f xq).f1) := by rw [hW1]; simp
      have hIs1 := hIs W1 hK1 k hlt
      rw [hW1] at hf1
      have HIS := Lib.hid hIs1
      have HW1 := Lib.hid hW1
      clear hIs1 hW1
      have HIs := Lib.hid hIs; have Hd := Lib.hid hd; have Hf := Lib.hid hf; have HC := Lib.hid hC
      clear hIs hd hf hC
      gi_wp2_with fail
      rw [← HW1.out]
      refine ⟨trivial, (callsIn_wide.2 HIS.out).mono ?_⟩
      rintro e w' ⟨rfl, hdr⟩
      obtain ⟨q, rfl⟩ := hdr.out
      have hJ2 : J (chosenL is qs k) (W1.drewN q) := hJ _ _ _ none hJ1 (pw_grown_drewN W1 q) (fun r e => by cases e)
      cases hq : is k with
      | true =>
        obtain ⟨fn, tmps, assign, body, hy, hR⟩ := hY _ xq (W1.drewN q) hJ2 (by have := chosenL_len is qs k; omega)
        unfold putV at hy
        gi_wp2_with fail
        refine hR.mono ?_
        have hch : chosenL is qs (k + 1) = chosenL is qs k ++ [xq] := by show (if is k then _ else _) = _; rw [hq, ← HQK.out]; rfl
        have HCH := Lib.hid hch
        clear hch hq
        rintro e W3 (⟨rfl, hJ3, hk3⟩ | ⟨rfl, hJx3⟩)
        · gi_wp2_with fail
          go_roundw
          case rel => exact ⟨k + 1, by omega, by go_num, by rw [HCH.out]; exact hJ3, (hK1.trans (KeepX.drewN _ _)).trans hk3⟩
          case measure => simp [intOf]; omega
        · gi_wp2_with fail
          refine bodyPost_ret (results_none rfl _ _ _) rfl ?_
          exact ⟨⟨_, rfl⟩, .inr ⟨_, ⟨k + 1, by omega, HCH.out.symm⟩, hJx3⟩⟩
      | false =>
        gi_wp2_with fail
        refine ⟨fun _ h => (by cases h), ?_⟩
        gi_wp2_with fail
        go_roundw
        case rel => exact ⟨k + 1, by omega, by go_num, by show J (if is k then _ else _) _; rw [hq]; exact hJ2, hK1.trans (KeepX.drewN _ _)⟩
        case measure => simp [intOf]; omega
    · obtain rfl : k = ps.length := by omega
      gi_wp2
      go_end0
      exact ⟨⟨_, rfl⟩, .inl ⟨_, rfl, hJs⟩⟩
end Go.Proofs.Ytoknncbdfdgfjaa.Q
