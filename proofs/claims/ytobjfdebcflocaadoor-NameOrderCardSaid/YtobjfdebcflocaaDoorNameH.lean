/- Layer 6, walked: all names of a row (a range over a function). -/
import Derived.Test.YtobjfdebcflocaaDoorNameG
import Derived.RangeFuncBox
import Derived.RangeFuncNested
import Derived.RangeFuncLeaves
import Derived.Shelf.Abstract
import Derived.Shelf.AbstractIn
import Derived.WalkKit
import Derived.OwnWalkIn
import Derived.TacticsInMore
import Derived.LoopNIn
import Derived.LoopIn
import Derived.Maps.AppendAt
import Derived.Lib.Hide
import Derived.Outline
import Derived.BigQuiet
set_option linter.unusedVariables false
set_option linter.unusedSimpArgs false
namespace Go.Proofs.YtobjfdebcflocaaDoor.Q
open Go.RowKit Go.Shelf Go.Proofs.YtobjfdebcflocaaDoorW.PrintWords
attribute [local go_sem] Oper.semAt_some

/-- All blocks below a bound lie as they lay, but for one row. -/
def KeepX (B R : Nat) (W W' : World) : Prop := W.heap.size ≤ W'.heap.size ∧ ∀ b, b < B → b ≠ R → W'.heap[b]? = W.heap[b]?
namespace KeepX
theorem refl (B R : Nat) (W : World) : KeepX B R W W := ⟨Nat.le_refl _, fun _ _ _ => rfl⟩
theorem trans {B R : Nat} {X Y Z : World} (h : KeepX B R X Y) (k : KeepX B R Y Z) : KeepX B R X Z := ⟨Nat.le_trans h.1 k.1, fun b hb hr => (k.2 b hb hr).trans (h.2 b hb hr)⟩
theorem alloc {B R : Nat} (W : World) (o : Obj) (hB : B ≤ W.heap.size) : KeepX B R W (W.alloc o) := ⟨by simp, fun b hb _ => Below.heap_alloc W o b (by omega)⟩
theorem below {B R : Nat} {W W' : World} (h : Below W.heap.size W W') (hB : B ≤ W.heap.size) : KeepX B R W W' := ⟨h.size, fun b hb _ => h.block b (by omega)⟩
theorem below' {B R : Nat} {W W' : World} (h : Below B W W') : KeepX B R W W' := ⟨h.size, fun b hb _ => h.block b hb⟩
theorem set {B R : Nat} (W : World) (j : Nat) (v : Value) : KeepX B R W (W.setCell ⟨R, j, none⟩ v) := ⟨(Below.setCell (Below.refl 0 W) (Nat.zero_le _) v).size, fun b _ hr => Below.heap_setCell W ⟨R, j, none⟩ v b hr⟩
theorem cell {B R : Nat} {W W' : World} (h : KeepX B R W W') {b o : Nat} (hb : b < B) (hr : b ≠ R) : W'.cell? ⟨b, o, none⟩ = W.cell? ⟨b, o, none⟩ := by
  unfold World.cell?; rw [h.2 b hb hr]
theorem put {B R : Nat} (W : World) (l : Nat) (o o' : Obj) (hl : B ≤ l) (ho : W.heap[l]? = some o) : KeepX B R W (W.putObj l o') :=
  ⟨(grownBy_putObj' W l o').size, fun b hb _ => (grownBy_putObj' W l o').block b (by have := (Array.getElem?_eq_some_iff.1 ho).1; omega) (fun e => by cases e; omega)⟩
end KeepX
theorem kEntry_heap : Kd.Heap k56 := Kd.heap_iso _ (Kd.heap_pair Kd.heap_string (Kd.heap_int .i64))
set_option maxRecDepth 100000 in
set_option maxHeartbeats 1000000 in
theorem told1_in (qs : List S56) (n : Nat) (hn : 1 ≤ n) (l Bd n1 R : Nat) (A : Option Addr) (c : Nat) (w0 : World) (hn1 : n1 ≤ w0.heap.size) (hlen : qs.length ≤ 140737488355328)
    (hd : ∀ W, KeepX n1 R w0 W → W.cell? ⟨Bd, 0, none⟩ = some (.slice A qs.length c)) (hC : ∀ W, KeepX n1 R w0 W → Kd.C k56 W A qs.length qs)
    (J Jx : List ByteArray → World → Prop) (W : World) (hW : KeepX n1 R w0 W) (hJ : AbidesFrom W.heap.size J) (hJx : AbidesFrom W.heap.size Jx)
    (hY : ∀ pre x W, J pre W → pre.length < qs.length → YieldAt Fence.wide (n - 1) Tryd.prog l #[.string x] W fun e W' =>
      (e = .returned (.bool true) ∧ J (pre ++ [x]) W' ∧ KeepX n1 R W W') ∨ (e = .returned (.bool false) ∧ Jx (pre ++ [x]) W')) (h0 : J [] W) :
    CallsIn Fence.wide n Tryd.prog 40 #[.func (.yield l) #[] #[], .pointer (some ⟨Bd, 0, none⟩)] W fun e W' => (∃ v, e = .returned v) ∧
      ((∃ ys, ys = qs.map (·.f0) ∧ J ys W') ∨ (∃ pre, (∃ k, k ≤ qs.length ∧ pre = (qs.take k).map (·.f0)) ∧ Jx pre W')) := by
  have hd0 := hd W hW
  refine callsIn_of_wp Tryd.func40 rfl trivial ?_ rfl
  simp only [Tryd.ntmps40, List.size_toArray, List.length_cons, List.length_nil, Nat.reduceAdd, Nat.reduceSub, Array.replicate_succ, Array.replicate_zero, List.push_toArray, List.append_toArray, List.nil_append, List.cons_append]
  gi_wp2
  gi_loopw [7] (fun i wr => ∃ k : Nat, k ≤ qs.length ∧ i = .int .i64 k ∧ J ((qs.take k).map (·.f0)) wr ∧ KeepX n1 R w0 wr)
    (fun i _ => qs.length - (intOf i).toNat)
  case atStart => exact ⟨0, Nat.zero_le _, rfl, h0, hW⟩
  case round =>
    obtain ⟨k, hk, rfl, hJs, hK⟩ := hrel
    by_cases hlt : k < qs.length
    · have hkz : (k : Int) < (qs.length : Int) := by omega
      obtain ⟨ad, rfl, hc0, hc1⟩ := at_T56 (hC wr hK) k (by omega) (by omega)
      rw [Int.toNat_natCast] at hc0 hc1
      have hrd : rd_T56 qs k = qs[k] := by
        show qs.getD k _ = _
        rw [List.getD_eq_getElem?_getD, List.getElem?_eq_getElem hlt]; rfl
      rw [hrd] at hc0 hc1
      have hch : (qs.take (k + 1)).map (·.f0) = (qs.take k).map (·.f0) ++ [qs[k].f0] := by
        rw [List.take_succ_eq_append_getElem hlt, List.map_append]; rfl
      have HCH := Lib.hid hch
      clear hch hrd
      generalize qs[k] = xq at *
      obtain ⟨W1, hW1⟩ : ∃ W1, W1 = wr.alloc (.cells #[.string xq.f0, .int .i64 xq.f1] 56) := ⟨_, rfl⟩
      have hK1 : KeepX n1 R w0 W1 := by rw [hW1]; exact hK.trans (KeepX.alloc _ _ (by have := hK.1; omega))
      have hJ1 : J ((qs.take k).map (·.f0)) W1 := by rw [hW1]; exact hJ _ _ _ none hJs (World.grownBy_alloc wr _ none) (fun r e => by cases e)
      obtain ⟨fn, tmps, assign, body, hy, hR⟩ := hY _ xq.f0 W1 hJ1 (by rw [List.length_map, List.length_take]; omega)
      have hx1 : W1.cell? ⟨wr.heap.size, 0, none⟩ = some (.string xq.f0) := by rw [hW1]; simp
      have hx2 : W1.cell? ⟨wr.heap.size, 1, none⟩ = some (.int .i64 xq.f1) := by rw [hW1]; simp
      rw [hW1] at hy
      have HW1 := Lib.hid hW1
      have Hd := Lib.hid hd; have HC := Lib.hid hC
      clear hd hC hW1
      gi_wp2_with fail
      rw [← HW1.out]
      refine hR.mono ?_
      rintro e W3 (⟨rfl, hJ3, hk3⟩ | ⟨rfl, hJx3⟩)
      · gi_wp2_with fail
        go_roundw
        case rel => exact ⟨k + 1, by omega, by go_num, by rw [HCH.out]; exact hJ3, hK1.trans hk3⟩
        case measure => simp [intOf]; omega
      · gi_wp2_with fail
        refine bodyPost_ret (results_none rfl _ _ _) rfl ?_
        exact ⟨⟨_, rfl⟩, .inr ⟨_, ⟨k + 1, by omega, HCH.out.symm⟩, hJx3⟩⟩
    · obtain rfl : k = qs.length := by omega
      gi_wp2
      go_end0
      exact ⟨⟨_, rfl⟩, .inl ⟨_, rfl, by rw [List.take_of_length_le (Nat.le_refl _)] at hJs; exact hJs⟩⟩
set_option maxHeartbeats 1000000 in
theorem told_calls (A : Option Addr) (n c : Nat) (w : World) :
    Calls Tryd.prog 31 #[.slice A n c] w fun e w' => e = .returned (.func (.func 40) #[] #[.pointer (some ⟨w.heap.size, 0, none⟩)]) ∧ w' = w.alloc (.cells #[.slice A n c] 30) := by
  go_enter Tryd.func31, Tryd.ntmps31
  go_wp2
  go_ret
  exact ⟨rfl, rfl⟩
/-- A value is appended to a row whose slice lies in a box ahead of it. -/
theorem boxed_appended {W w1 : World} {n₀ B : Nat} {t e : TypeId} {v v' : Value} {k m : Nat} {xs ys : List Value} {tmp : Obj}
    (hv : Boxed W B t v) (hte : t ≠ e) (hrow : W.ownsRow n₀ e 1 v k xs) (hn₀ : n₀ ≤ W.heap.size) (hown' : w1.ownsRow n₀ e 1 v' m ys) (hgrow : (W.alloc tmp).grownBy w1 v.ownBlock) :
    Boxed w1 B t v ∧ Boxed (w1.setCell ⟨B, 0, none⟩ v') B t v' ∧ (w1.setCell ⟨B, 0, none⟩ v').ownsRow n₀ e 1 v' m ys ∧ KeepsOthers W (w1.setCell ⟨B, 0, none⟩ v') ∧ KeepX n₀ B W (w1.setCell ⟨B, 0, none⟩ v') := by
  obtain ⟨h1, h2, _, h4, _⟩ := Boxed.appended hv hte (own_weaken hrow (Nat.zero_le _)) (Nat.zero_le _) (Nat.zero_le _) (own_weaken hown' (Nat.zero_le _)) hgrow
  refine ⟨h1, h2, hown'.kept (grownBy_setCell' w1 B v') (.inr (h1.not_row hte hown').symm), h4, ?_⟩
  have hb : Below n₀ W w1 := ((Below.refl n₀ W).alloc hn₀ tmp).grown hgrow (by rw [World.size_alloc]; omega) (fun k hk => own_base hrow k hk)
  exact (KeepX.below' hb).trans (KeepX.set w1 0 v')
set_option maxRecDepth 100000 in
set_option maxHeartbeats 4000000 in
theorem names_calls (A : Option Addr) (c : Nat) (l : List S56) (w : World) (hr : Kd.C k56 w A l.length l) (hl : l.length ≤ 1000000) :
    Calls Tryd.prog 20 #[.slice A l.length c] w fun e w' => ∃ v, e = .returned v ∧ Kd.R Kd.string 9 w' w.heap.size (fun _ => True) v (l.map (·.f0)) ∧ Below w.heap.size w w' := by
  have HR := Lib.hid hr
  clear hr
  obtain ⟨W1, hW1⟩ : ∃ W1, W1 = w.alloc (.cells #[.slice none 0 0] 22) := ⟨_, rfl⟩
  have z1 : W1.heap.size = w.heap.size + 1 := by rw [hW1]; simp
  have hB1 : Below w.heap.size w W1 := by rw [hW1]; exact (Below.refl _ w).alloc (Nat.le_refl _) _
  have ho1 : Boxed W1 w.heap.size 22 (.slice none 0 0) := by rw [hW1]; exact heap_alloc_new w _
  have HW1 := Lib.hid hW1
  refine (callsIn_wide (n := 6)).1 ?_
  refine callsIn_of_wp_marks Tryd.func20 rfl trivial ?_ rfl
  simp only [Tryd.ntmps20, List.size_toArray, List.length_cons, List.length_nil, Nat.reduceAdd, Nat.reduceSub, Array.replicate_succ, Array.replicate_zero, List.push_toArray, List.append_toArray, List.nil_append, List.cons_append]
  clear hW1
  gi_wp2_with fail
  refine ⟨trivial, (callsIn_wide.2 (told_calls _ _ _ _)).mono ?_⟩
  rintro e w5 ⟨rfl, hw5⟩
  have z5 : w5.heap.size = w.heap.size + 2 := by rw [hw5]; simp
  rw [← HW1.out] at hw5
  have hB5 : Below w.heap.size w w5 := by rw [hw5]; exact hB1.alloc (by omega) _
  have ho5 : Boxed w5 w.heap.size 22 (.slice none 0 0) := by rw [hw5]; exact ho1.alloc _
  have hd5 : w5.heap[w.heap.size + 1]? = some (.cells #[.slice A l.length c] 30 (0, 0)) := by
    rw [hw5, ← z1]; exact heap_alloc_new W1 _
  have hkk : ∀ W, KeepX w5.heap.size w.heap.size w5 W → ∀ k, k < w.heap.size → W.heap[k]? = w.heap[k]? := fun W hW k hk => (hW.2 k (by omega) (by omega)).trans (hB5.block k hk)
  have hCC : ∀ W, KeepX w5.heap.size w.heap.size w5 W → Kd.C k56 W A l.length l := fun W hW =>
    Kd.F_now (Kd.F_step (Kd.C_F kEntry_heap HR.out) (fun k hk _ => hkk W hW k hk))
  have HCC := Lib.hid hCC; have HD5 := Lib.hid hd5; have HO5 := Lib.hid ho5; have HB5 := Lib.hid hB5
  have zz : (w.alloc (.cells #[.slice none 0 0] 22)).heap.size = w.heap.size + 1 := by simp
  clear hCC hd5 ho5 hB5 hkk hw5 ho1 hB1
  simp only [zz]
  gi_wp2_with fail
  refine wpIn_rangeFunc_ownH rfl (by omega) (gf := 40) (lb := #[.pointer (some ⟨w.heap.size + 1, 0, none⟩)]) rfl trivial (enters_of Tryd.func40 (by kernel_rfl) rfl)
    (encs := fun x : ByteArray => #[.string x]) (Kp := KeepX w5.heap.size w.heap.size) (S := fun ys => ys = l.map (·.f0)) (Sp := fun pre => ∃ k, k ≤ l.length ∧ pre = (l.take k).map (·.f0)) (N := l.length) (w0 := w5)
    (fun lp J Jx W hW hJ hJx hY h0 => told1_in l 5 (by omega) lp (w.heap.size + 1) w5.heap.size w.heap.size A c w5 (Nat.le_refl _) (by omega)
      (fun W hW => by rw [hW.cell (by omega) (by omega), blk_cell HD5.out]; rfl) HCC.out J Jx W (KeepX.below hW (Nat.le_refl _)) hJ hJx hY h0)
    (fun h k => KeepX.trans h k) (fun W l o o' hl ho _ _ => KeepX.put W l o o' hl ho) (Below.refl _ _) (fun _ => rfl)
    (fun pre W => (∃ v, Boxed W w.heap.size 22 v ∧ W.ownsRow w5.heap.size 9 1 v (strsV pre).length (strsV pre) ∧ True) ∧ (Below w.heap.size w W ∧ w5.heap.size ≤ W.heap.size))
    (fun _ _ _ => False)
    (OwnFrom.and (Own.from (holdsRow_own w5.heap.size w.heap.size 22 9 1 (fun pre => (strsV pre).length) (fun pre => strsV pre) (fun _ _ => True)) _) (OwnFrom.and (ownFrom_below (Nat.le_refl _) (by omega)) (fun _ _ _ _ hs hg _ => Nat.le_trans hs hg.size)))
    (fun _ _ _ _ _ hs _ _ => hs)
    ⟨⟨_, HO5.out, World.ownsRow_nil _ _ _ _, trivial⟩, HB5.out, Nat.le_refl _⟩
    (fun x a' W => a' = { tmps := #[.slice A l.length c, undef, .slice none 0 0, .pointer (some ⟨w.heap.size, 0, none⟩), .string x, .slice A l.length c, .func (.func 40) #[] #[.pointer (some ⟨w.heap.size + 1, 0, none⟩)], .string x, undef, undef, undef, undef, undef], defers := [] })
    (fun x a' _ X Y row hs hg hrow => hs) ?assign ?body ?done ?stop
  case assign =>
    rintro lp pre x W K hi hK
    gi_wp2_with fail
    exact hK _ _ ((KeepsOthers.refl _).from _) (KeepX.refl _ _ _) hi rfl
  case body =>
    rintro lp pre x a' W hl hr ⟨⟨v, hv, hrow, _⟩, hB, hsz⟩ rfl hlt
    have hc := hv.cell
    obtain ⟨i0, hi, hz0, hz1, hz2⟩ := info_parts info_str
    have hlp : (strsV pre).length ≤ 1000000 := by rw [strsV_len]; omega
    have HV := Lib.hid hv; have HRW := Lib.hid hrow; have HB := Lib.hid hB
    clear hv hrow hB
    gi_wp2_with (gi_at_builtin; go_must (refine wpListIn_append_own _ rfl _ _ 22 rfl w5.heap.size 9 i0 _ 1 16 Tryd.underlying22 hi hz0 hz1 hz2 rfl (by decide) _ _ _ rfl (HRW.out.alloc _) ⟨W.heap.size, 0, none⟩ 1 1 [.string x] rfl rfl (cell_one_new _ _ _) (by simp [Value.oneCell']) (by unfold maxLen; omega) (by omega) (by rw [World.size_alloc]; omega) ?_); intro v' w1 hown' hgrow _; obtain ⟨g', cap', rfl⟩ := ownsRow_succ hown'; obtain ⟨hv1, hv2, hr2, hk2, hb2⟩ := boxed_appended HV.out (by decide) HRW.out hsz hown' hgrow; have hc1 := hv1.cell; have hf1 := hv1.frozen; have HV2 := Lib.hid hv2; have HR2 := Lib.hid hr2; have HK2 := Lib.hid hk2; have HB2 := Lib.hid hb2; have HG := Lib.hid hgrow; clear hv1 hv2 hr2 hk2 hb2 hown' hgrow)
    have e1 : strsV (pre ++ [x]) = strsV pre ++ [Value.string x] := by simp [strsV]
    have e2 : (strsV (pre ++ [x])).length = (strsV pre).length + 1 := by simp [strsV]
    refine ⟨HK2.out.from _, HB2.out, ⟨_, HV2.out, by rw [e2, e1]; exact HR2.out, trivial⟩, ?_, Nat.le_trans hsz HB2.out.1⟩
    exact ((HB.out.alloc HB.out.size _).grown HG.out (by have := HB.out.size; rw [World.size_alloc]; omega) (fun k hk => by have := own_base HRW.out k hk; omega)).setCell (p := ⟨w.heap.size, 0, none⟩) (Nat.le_refl _) _
  case done =>
    rintro D ys W hD rfl ⟨⟨v, hv, hrow, _⟩, hB, hsz⟩ hK
    have hc := hv.cell
    gi_wp2
    refine ⟨by simp, .inl ⟨_, _, rfl, run_takeDeferred hK, ?_⟩⟩
    refine ⟨_, results_tmp rfl _ _ _, _, rfl, Kd.R_of_own ?_ (fun _ _ => trivial), hB.trans (belowK_b (w := w) (Nat.le_refl _) W D _ _ (by omega) hK rfl rfl)⟩
    refine ownsRow_putObj ?_ _ hK rfl
    rw [strsV_len] at hrow
    exact own_weaken hrow (by omega)
  case stop =>
    rintro D c pre W _ _ h _
    exact h.elim
def name_Names.f (l0 : List S56) : Option (List ByteArray) := if l0.length ≤ 1000000 then some (l0.map (·.f0)) else none
theorem name_Names.calls (A0 : Option Addr) (c0 : Nat) (l0 : List S56) (r : List ByteArray) (w : World) (hr0 : Kd.C k56 w A0 l0.length l0) (hc0 : l0.length ≤ c0) (h : name_Names.f l0 = some r) :
    Calls Tryd.prog 20 #[.slice A0 l0.length c0] w fun e w' => ∃ v0_ : Value, e = .returned v0_ ∧ Kd.R Kd.string 9 w' w.heap.size (fun _ => True) v0_ r ∧ Below w.heap.size w w' := by
  unfold name_Names.f at h
  split at h
  · rename_i hl
    obtain rfl := Option.some.inj h
    exact names_calls A0 c0 l0 w hr0 hl
  · cases h
end Go.Proofs.YtobjfdebcflocaaDoor.Q
