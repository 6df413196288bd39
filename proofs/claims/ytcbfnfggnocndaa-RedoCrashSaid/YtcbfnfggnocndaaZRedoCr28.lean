import Derived.Test.YtcbfnfggnocndaaZRedoCr27
import Derived.Test.YtcbfnfggnocndaaZRedoCr26
import Derived.Test.YtcbfnfggnocndaaProg
import Derived.Below
import Derived.Deep.Draws
import Derived.Deep.AppendLies
import Derived.Maps.AppendAt
import Derived.OwnWalk
import Derived.Laws.BytesArg
import Derived.Laws.MakeOwn
import Derived.Laws.OwnMore
import Derived.Deep.OwnRows
import Derived.Tactics
import Derived.Lib.ConvBytes
import Derived.Laws.Slices
import Derived.WalkKit
import Derived.KernelRfl
import Derived.RowKit3
import Derived.Deep.LoopGhost
import Derived.Deep.QuietTactic
import Derived.BigQuiet
import Derived.WideLaws
import Derived.Deep.DeepCutAuto
import Derived.Deep.CutBlock
import Derived.Deep.RegionHeld3
import Derived.Laws.Rows
import Derived.Lib.AppendStr
import Derived.ArgAppend
import Derived.Laws.IdiomCopy
import Derived.OrdersHeld
import Derived.Laws.BitsLemmas
import Derived.RowKit
import Derived.Test.YtcbfnfggnocndaaZRedoCr0
import Derived.Test.YtcbfnfggnocndaaZRedoCr1
import Derived.Test.YtcbfnfggnocndaaZRedoCr2
import Derived.Test.YtcbfnfggnocndaaZRedoCr3
import Derived.Test.YtcbfnfggnocndaaZRedoCr4
import Derived.Test.YtcbfnfggnocndaaZRedoCr5
import Derived.Test.YtcbfnfggnocndaaZRedoCr6
import Derived.Test.YtcbfnfggnocndaaZRedoCr7
import Derived.Test.YtcbfnfggnocndaaZRedoCr8
import Derived.Test.YtcbfnfggnocndaaZRedoCr9
import Derived.Test.YtcbfnfggnocndaaZRedoCr10
import Derived.Test.YtcbfnfggnocndaaZRedoCr11
import Derived.Test.YtcbfnfggnocndaaZRedoCr12
import Derived.Test.YtcbfnfggnocndaaZRedoCr13
import Derived.Test.YtcbfnfggnocndaaZRedoCr14
import Derived.Test.YtcbfnfggnocndaaZRedoCr15
import Derived.Test.YtcbfnfggnocndaaZRedoCr16
import Derived.Test.YtcbfnfggnocndaaZRedoCr17
import Derived.Test.YtcbfnfggnocndaaZRedoCr18
import Derived.Test.YtcbfnfggnocndaaZRedoCr19
import Derived.Test.YtcbfnfggnocndaaZRedoCr20
import Derived.Test.YtcbfnfggnocndaaZRedoCr21
import Derived.Test.YtcbfnfggnocndaaZRedoCr22
set_option linter.unusedVariables false
set_option linter.unusedSimpArgs false
section
namespace Go.Proofs.Ytcbfnfggnocndaa
open Go.RowKit Go.Shelf Go.Proofs.Ytcbfnfggnocndaa.Q Go.Proofs.YtcbfnfggnocndaaW.PrintWords Go.Proofs.YtcbfnfggnocndaaW.PrintLast Go.Proofs.YtcbfnfggnocndaaW.PrintMore Math
attribute [local go_sem] Oper.semAt_some
theorem ownFrom_obj {β : Type} (B b : Nat) (t : TypeId) (cs : Array Value) (fr : Nat × Nat) : OwnFrom B (fun (_ : β) W => W.heap[b]? = some (.cells cs t fr)) := fun s X Y row hs hg hrow =>
  blk_grown hs hg (fun e' => by obtain ⟨_, o, ho, hc⟩ := hrow b e'.symm; rw [hs] at ho; cases ho; cases hc)
theorem boxed_appended {W w1 : World} {n₀ B : Nat} {t e : TypeId} {v v' : Value} {k m : Nat} {xs ys : List Value} {tmp : Obj}
    (hv : Boxed W B t v) (hte : t ≠ e) (hrow : W.ownsRow n₀ e 1 v k xs) (hn₀ : n₀ ≤ W.heap.size) (hown' : w1.ownsRow n₀ e 1 v' m ys) (hgrow : (W.alloc tmp).grownBy w1 v.ownBlock) :
    Boxed w1 B t v ∧ Boxed (w1.setCell ⟨B, 0, none⟩ v') B t v' ∧ (w1.setCell ⟨B, 0, none⟩ v').ownsRow n₀ e 1 v' m ys ∧ KeepsOthers W (w1.setCell ⟨B, 0, none⟩ v') ∧ Q.KeepX n₀ B W (w1.setCell ⟨B, 0, none⟩ v') := by
  obtain ⟨h1, h2, _, h4, _⟩ := Boxed.appended hv hte (own_weaken hrow (Nat.zero_le _)) (Nat.zero_le _) (Nat.zero_le _) (own_weaken hown' (Nat.zero_le _)) hgrow
  refine ⟨h1, h2, hown'.kept (grownBy_setCell' w1 B v') (.inr (h1.not_row hte hown').symm), h4, ?_⟩
  have hb : Below n₀ W w1 := ((Below.refl n₀ W).alloc hn₀ tmp).grown hgrow (by rw [World.size_alloc]; omega) (fun k hk => own_base hrow k hk)
  exact (show Q.KeepX n₀ B W w1 from ⟨hb.size, fun b h _ => hb.block b h⟩).trans (Q.KeepX.set w1 0 v')
def pieceS (r : ByteArray) (j : Nat) : ByteArray := ⟨((r.data.toList.drop (64 * j)).take 64).toArray⟩
def pieces (r : ByteArray) : List ByteArray := (List.range ((r.size + 63) / 64)).map (pieceS r)
theorem pieces_len (r : ByteArray) : (pieces r).length = (r.size + 63) / 64 := by unfold pieces; rw [List.length_map, List.length_range]
theorem piece_size (r : ByteArray) (j : Nat) : (pieceS r j).size ≤ 64 := by unfold pieceS; rw [pbsz, List.length_take]; omega
theorem strOf_bytes (s : ByteArray) : strOfNums (bytesOf s) = s := by
  apply inj
  rw [nums_dl]
  unfold bytesOf
  rw [List.map_map]
  conv => rhs; rw [← List.map_id s.data.toList]
  apply List.map_congr_left
  intro x _
  simp
theorem piece_get (r : ByteArray) (x i : Nat) (h : i < min 64 (r.size - 64 * x)) : (bytesOf (pieceS r x)).getD i 0 = ((r.data.toList.getD (64 * x + i) 0).toNat : Int) := by
  have h2 : 64 * x + i < r.data.toList.length := by rw [← sz]; omega
  unfold bytesOf
  rw [show (pieceS r x).data.toList = (r.data.toList.drop (64 * x)).take 64 from rfl, List.getD_eq_getElem?_getD, List.getElem?_map, List.getElem?_take, if_pos (by omega), List.getElem?_drop, List.getElem?_eq_getElem h2, List.getD_eq_getElem?_getD, List.getElem?_eq_getElem h2]
  rfl
def pcsV (r : ByteArray) (pre : List Nat) : List Value := pre.map fun j => Value.string (pieceS r j)
theorem pcsV_len (r : ByteArray) (pre : List Nat) : (pcsV r pre).length = pre.length := List.length_map _
theorem ap_set {w7 W8 : World} {b : Nat} {d0 d1 d2 x y z k0 k1 k2 k3 u m e0 e1 e2 f0 f1 f2 f3 : Value} (hd : w7.heap[b]? = some (.cells #[d0, d1, d2] 25 (0, 0))) (hl : LogBox w7 (b + 1 + 1) k0 k1 k2 k3) (hr : DskBox w7 (b + 1 + 1 + 1) e0 e1 e2) (hs : LogBox w7 (b + 1 + 1 + 1 + 1) f0 f1 f2 f3)
    (hW : W8 = ((((w7.setCell ⟨b, 0, none⟩ x).setCell ⟨b, 1, none⟩ y).setCell ⟨b, 2, none⟩ z).setCell ⟨b + 1 + 1, 1, none⟩ u).setCell ⟨b + 1 + 1, 3, none⟩ m) :
    DskBox W8 b x y z ∧ LogBox W8 (b + 1 + 1) k0 u k2 m ∧ DskBox W8 (b + 1 + 1 + 1) e0 e1 e2 ∧ LogBox W8 (b + 1 + 1 + 1 + 1) f0 f1 f2 f3 ∧ (∀ k, k ≠ b → k ≠ b + 1 + 1 → W8.heap[k]? = w7.heap[k]?) ∧ W8.heap.size = w7.heap.size ∧ (∀ (B : Nat) (w : World), B ≤ b → Below B w w7 → Below B w W8) := by
  have hall : ∀ k, k ≠ b → k ≠ b + 1 + 1 → W8.heap[k]? = w7.heap[k]? := fun k h1 h2 => by
    rw [hW, heap_setCell_other _ ⟨b + 1 + 1, 3, none⟩ k _ h2, heap_setCell_other _ ⟨b + 1 + 1, 1, none⟩ k _ h2, heap_setCell_other _ ⟨b, 2, none⟩ k _ h1, heap_setCell_other _ ⟨b, 1, none⟩ k _ h1, heap_setCell_other _ ⟨b, 0, none⟩ k _ h1]
  refine ⟨?_, ?_, (hall _ (by omega) (by omega)).trans hr, (hall _ (by omega) (by omega)).trans hs, hall, by rw [hW]; simp [World.setCell], fun B w hB h => by rw [hW]; exact ((((h.setCell (p := ⟨b, 0, none⟩) hB _).setCell (p := ⟨b, 1, none⟩) hB _).setCell (p := ⟨b, 2, none⟩) hB _).setCell (p := ⟨b + 1 + 1, 1, none⟩) (show B ≤ b + 1 + 1 by omega) _).setCell (p := ⟨b + 1 + 1, 3, none⟩) (show B ≤ b + 1 + 1 by omega) _⟩
  · unfold DskBox
    rw [hW, heap_setCell_other _ ⟨b + 1 + 1, 3, none⟩ b _ (show b ≠ b + 1 + 1 by omega), heap_setCell_other _ ⟨b + 1 + 1, 1, none⟩ b _ (show b ≠ b + 1 + 1 by omega)]
    exact set3 hd
  · unfold LogBox
    rw [hW]
    refine heap_setCell_same _ (b + 1 + 1) 3 #[k0, u, k2, k3] _ m (heap_setCell_same _ (b + 1 + 1) 1 #[k0, k1, k2, k3] _ u ?_)
    rw [heap_setCell_other _ ⟨b, 2, none⟩ (b + 1 + 1) _ (show b + 1 + 1 ≠ b by omega), heap_setCell_other _ ⟨b, 1, none⟩ (b + 1 + 1) _ (show b + 1 + 1 ≠ b by omega), heap_setCell_other _ ⟨b, 0, none⟩ (b + 1 + 1) _ (show b + 1 + 1 ≠ b by omega)]
    exact hl
theorem ap_fin {W8 W9 : World} {b : Nat} {x y z u0 u1 u2 u3 e0 e1 e2 f0 f1 f2 f3 : Value} (hr : DskBox W8 (b + 1 + 1 + 1) e0 e1 e2) (hs : LogBox W8 (b + 1 + 1 + 1 + 1) f0 f1 f2 f3)
    (hW : W9 = (((((((W8.setCell ⟨b + 1 + 1 + 1, 0, none⟩ x).setCell ⟨b + 1 + 1 + 1, 1, none⟩ y).setCell ⟨b + 1 + 1 + 1, 2, none⟩ z).setCell ⟨b + 1 + 1 + 1 + 1, 0, none⟩ u0).setCell ⟨b + 1 + 1 + 1 + 1, 1, none⟩ u1).setCell ⟨b + 1 + 1 + 1 + 1, 2, none⟩ u2).setCell ⟨b + 1 + 1 + 1 + 1, 3, none⟩ u3).drew) :
    DskBox W9 (b + 1 + 1 + 1) x y z ∧ LogBox W9 (b + 1 + 1 + 1 + 1) u0 u1 u2 u3 ∧ (∀ k, k ≠ b + 1 + 1 + 1 → k ≠ b + 1 + 1 + 1 + 1 → W9.heap[k]? = W8.heap[k]?) ∧ W9.heap.size = W8.heap.size ∧ (∀ (B : Nat) (w : World), B ≤ b → Below B w W8 → Below B w W9) := by
  obtain ⟨V, hV⟩ : ∃ V, V = ((((((W8.setCell ⟨b + 1 + 1 + 1, 0, none⟩ x).setCell ⟨b + 1 + 1 + 1, 1, none⟩ y).setCell ⟨b + 1 + 1 + 1, 2, none⟩ z).setCell ⟨b + 1 + 1 + 1 + 1, 0, none⟩ u0).setCell ⟨b + 1 + 1 + 1 + 1, 1, none⟩ u1).setCell ⟨b + 1 + 1 + 1 + 1, 2, none⟩ u2).setCell ⟨b + 1 + 1 + 1 + 1, 3, none⟩ u3 := ⟨_, rfl⟩
  rw [← hV] at hW
  have hh : W9.heap = V.heap := by rw [hW]; rfl
  have hall : ∀ k, k ≠ b + 1 + 1 + 1 → k ≠ b + 1 + 1 + 1 + 1 → V.heap[k]? = W8.heap[k]? := fun k h1 h2 => by
    rw [hV, heap_setCell_other _ ⟨b + 1 + 1 + 1 + 1, 3, none⟩ k _ h2, heap_setCell_other _ ⟨b + 1 + 1 + 1 + 1, 2, none⟩ k _ h2, heap_setCell_other _ ⟨b + 1 + 1 + 1 + 1, 1, none⟩ k _ h2, heap_setCell_other _ ⟨b + 1 + 1 + 1 + 1, 0, none⟩ k _ h2, heap_setCell_other _ ⟨b + 1 + 1 + 1, 2, none⟩ k _ h1, heap_setCell_other _ ⟨b + 1 + 1 + 1, 1, none⟩ k _ h1, heap_setCell_other _ ⟨b + 1 + 1 + 1, 0, none⟩ k _ h1]
  refine ⟨?_, ?_, fun k h1 h2 => by rw [hh]; exact hall k h1 h2, by rw [hh, hV]; simp [World.setCell], fun B w hB h => by
    have k1 : B ≤ b + 1 + 1 + 1 := by omega
    have k2 : B ≤ b + 1 + 1 + 1 + 1 := by omega
    rw [hW, hV]; exact below_drew (((((((h.setCell (p := ⟨b + 1 + 1 + 1, 0, none⟩) k1 _).setCell (p := ⟨b + 1 + 1 + 1, 1, none⟩) k1 _).setCell (p := ⟨b + 1 + 1 + 1, 2, none⟩) k1 _).setCell (p := ⟨b + 1 + 1 + 1 + 1, 0, none⟩) k2 _).setCell (p := ⟨b + 1 + 1 + 1 + 1, 1, none⟩) k2 _).setCell (p := ⟨b + 1 + 1 + 1 + 1, 2, none⟩) k2 _).setCell (p := ⟨b + 1 + 1 + 1 + 1, 3, none⟩) k2 _)⟩
  · unfold DskBox
    have h1 : b + 1 + 1 + 1 ≠ b + 1 + 1 + 1 + 1 := by omega
    rw [hh, hV, heap_setCell_other _ ⟨b + 1 + 1 + 1 + 1, 3, none⟩ _ _ h1, heap_setCell_other _ ⟨b + 1 + 1 + 1 + 1, 2, none⟩ _ _ h1, heap_setCell_other _ ⟨b + 1 + 1 + 1 + 1, 1, none⟩ _ _ h1, heap_setCell_other _ ⟨b + 1 + 1 + 1 + 1, 0, none⟩ _ _ h1]
    exact set3 hr
  · unfold LogBox
    have h1 : b + 1 + 1 + 1 + 1 ≠ b + 1 + 1 + 1 := by omega
    rw [hh, hV]
    refine heap_setCell_same _ _ 3 #[u0, u1, u2, f3] _ u3 (heap_setCell_same _ _ 2 #[u0, u1, f2, f3] _ u2 (heap_setCell_same _ _ 1 #[u0, f1, f2, f3] _ u1 (heap_setCell_same _ _ 0 #[f0, f1, f2, f3] _ u0 ?_)))
    rw [heap_setCell_other _ ⟨b + 1 + 1 + 1, 2, none⟩ _ _ h1, heap_setCell_other _ ⟨b + 1 + 1 + 1, 1, none⟩ _ _ h1, heap_setCell_other _ ⟨b + 1 + 1 + 1, 0, none⟩ _ _ h1]
    exact hs
set_option maxHeartbeats 8000000 in
set_option maxRecDepth 1000000 in
theorem append_main (P0 P1 : Nat → Prop) (A0 : Option Addr) (c0 : Nat) (l0 : List ByteArray) (A1 : Option Addr) (c1 : Nat) (l1 : List S88) (fr mn at_ used first many : Nat) (s : ByteArray) (w : World)
    (hs0 : Kd.V Kd.string 9 w w.heap.size P0 (.slice A0 l0.length c0) l0) (hs1 : Kd.V k88 88 w w.heap.size P1 (.slice A1 l1.length c1) l1)
    (hm : 1 ≤ mn) (hfm : fr + mn ≤ l0.length) (hn0 : l0.length ≤ 1000000000) (hl1 : l1.length ≤ 100000000) (hss : s.size ≤ 4096) (hat : at_ ≤ 100000) (hmn : mn ≤ 100000) (hu : used + needN s ≤ mn) (hf : first < 18446744073709551616) (hmy : many ≤ 1000000000) :
    Calls Try.prog 13 #[.agg #[.slice A0 l0.length c0, .slice A1 l1.length c1, .bool false], .agg #[.int .i64 fr, .int .i64 mn], .agg #[.int .i64 at_, .int .i64 used, .int .u64 first, .int .i64 many], .string s] w fun e w' => ∃ v0 v1,
      e = .returned (.tuple #[.agg #[v0, v1, .bool false], .agg #[.int .i64 at_, .int .i64 ((used + needN s : Nat) : Int), .int .u64 first, .int .i64 ((many + 1 : Nat) : Int)], .int .i64 0]) ∧
      Kd.V Kd.string 9 w' w.heap.size (fun k => (P0 k ∨ P1 k) ∨ w.heap.size ≤ k) v0 l0 ∧ Kd.V k88 88 w' w.heap.size (fun k => (P0 k ∨ P1 k) ∨ w.heap.size ≤ k) v1 (l1 ++ laidP fr mn (at_ + used) 0 (pieces (recS ((first + many) % 18446744073709551616) s))) ∧ Below w.heap.size w w' := by
  obtain ⟨W1, hW1⟩ : ∃ W1, W1 = ((((w.alloc (.cells #[.slice A0 l0.length c0, .slice A1 l1.length c1, .bool false] 25)).alloc (.cells #[.int .i64 fr, .int .i64 mn] 27)).alloc (.cells #[.int .i64 at_, .int .i64 used, .int .u64 first, .int .i64 many] 30)).alloc (.cells #[.slice none 0 0, .slice none 0 0, .bool false] 25)).alloc (.cells #[.int .i64 0, .int .i64 0, .int .u64 0, .int .i64 0] 30) := ⟨_, rfl⟩
  obtain ⟨hx, hl, hd, hg, hz⟩ := ap5_new w _ _ _ _ _ _ _ _ _ W1 hW1
  have HX := Lib.hid hx; have HL := Lib.hid hl; have HD := Lib.hid hd; have HG := Lib.hid hg; have HW1 := Lib.hid hW1; have HZ := Lib.hid hz
  have HS0 := Lib.hid hs0; have HS1 := Lib.hid hs1
  have g1 : decide ((4096 : Int) < (s.size : Int)) = false := decide_eq_false (by omega)
  have g1n : decide (4096 < s.size) = false := decide_eq_false (by omega)
  have hnc := need_V s 9 (Nat.le_refl _) (by omega)
  have hNC := V.redo_Need.calls 9 s _ W1 hnc
  obtain ⟨N, hN⟩ : ∃ N, N = (first + many) % 18446744073709551616 := ⟨_, rfl⟩
  have hrec := record_eq N 9 s (Nat.le_refl _) (by omega)
  have hRC := fun W => V.redo_Record.calls 9 _ s _ W hrec
  have hrz := recS_size N s
  have hnd := needN_eq N s
  have h10 := numS_size10 (show s.size < 18446744073709551616 by omega)
  obtain ⟨rc, hrc⟩ : ∃ rc, rc = recS N s := ⟨_, rfl⟩
  rw [← hrc] at hRC hrz hnd
  obtain ⟨nd, hnd2⟩ : ∃ nd, nd = needN s := ⟨_, rfl⟩
  rw [← hnd2] at hNC hnd hu
  have g2 : decide ((mn : Int) < wrap64 ((used : Int) + (nd : Int))) = false := by rw [w64 (n := (used : Int) + (nd : Int)) (by omega) (by omega)]; exact decide_eq_false (by omega)
  have hu0 : IntKind.u64.wrap (many : Int) = (many : Int) := u64_in (by omega)
  have hu1 : IntKind.u64.wrap ((first : Int) + (many : Int)) = (N : Int) := by rw [u64_add, hN]
  have hrs : rc.size ≤ 5000 := by omega
  have HNP : Hid (12 ≤ rc.size) := Lib.hid (by omega)
  rw [← hN, ← hrc, ← hnd2]
  have HNC := Lib.hid hNC; have HRC := Lib.hid hRC; have HN := Lib.hid hN; have HRCE := Lib.hid hrc; have HND := Lib.hid hnd; have HND2 := Lib.hid hnd2; have HRS := Lib.hid hrs
  clear hs0 hs1 hx hl hd hg hz hW1 hnc hNC hN hrec hRC hrz hnd h10 hrc hnd2 hrs
  refine (callsIn_wide (n := 6)).1 ?_
  refine callsIn_of_wp_marks Try.func13 rfl trivial ?_ rfl
  simp only [Try.ntmps13, List.size_toArray, List.length_cons, List.length_nil, Nat.reduceAdd, Nat.reduceSub, Array.replicate_succ, Array.replicate_zero, List.push_toArray, List.append_toArray, List.nil_append, List.cons_append]
  gi_wp2_with fail
  rw [← HW1.out]
  refine ⟨trivial, (callsIn_wide.2 HNC.out).mono ?_⟩
  rintro e w2 ⟨rfl, hb2⟩
  have hx2 := HX.out.step hb2; have hl2 := HL.out.step hb2
  have hd2 : DskBox w2 _ _ _ _ := (hb2.block _ (blk_lt HD.out)).trans HD.out
  have hg2 : LogBox w2 _ _ _ _ _ := (hb2.block _ (blk_lt HG.out)).trans HG.out
  have hz2 : w.heap.size + 5 ≤ w2.heap.size := by have := hb2.size; have := HZ.out; omega
  obtain ⟨W3, hW3⟩ : ∃ W3, W3 = w2.alloc (.cells #[.slice none 0 0] 22) := ⟨_, rfl⟩
  have b3 := (Below.refl w2.heap.size w2).alloc (Nat.le_refl _) (.cells #[.slice none 0 0] 22)
  have ho3 : Boxed W3 w2.heap.size 22 (.slice none 0 0) := by rw [hW3]; exact heap_alloc_new w2 _
  have hz3 : W3.heap.size = w2.heap.size + 1 := by rw [hW3, World.size_alloc]
  rw [← hW3] at b3
  have hx3 := hx2.step b3; have hl3 := hl2.step b3
  have q2 := hl3.l2; have q3 := hl3.l3; have r1 := hx2.r1; have p1 := hl2.l1
  rw [hW3] at q2 q3
  have HW3 := Lib.hid hW3; have HX2 := Lib.hid hx2; have HL2 := Lib.hid hl2; have HD2 := Lib.hid hd2; have HG2 := Lib.hid hg2; have HZ2 := Lib.hid hz2; have HO3 := Lib.hid ho3; have HZ3 := Lib.hid hz3; have HB3 := Lib.hid b3
  clear hx2 hl2 hd2 hg2 hz2 hW3 b3 ho3 hz3 hx3 hl3 HNC hb2 HX HL HD HG HZ
  gi_wp2_with fail
  rw [← HW3.out]
  refine ⟨trivial, (callsIn_wide.2 (HRC.out _)).mono ?_⟩
  rintro e w4 ⟨rfl, hb4⟩
  have HB4 := Lib.hid hb4
  have kb := print_bytes (P := Try.prog) 9 71 5 Try.underlying9 Try.underlying71 Try.underlying5 rc w4
  obtain ⟨cap, hcapd⟩ : ∃ cap, cap = grownCap w4 rc.size 0 5 := ⟨_, rfl⟩
  have hge : rc.size ≤ cap := by rw [hcapd]; exact grownCap_ge _ _ _ _
  rw [← hcapd] at kb
  have HGE := Lib.hid hge
  clear hb4 hcapd hge q2 q3 r1 p1 hu0 hu1 g2 HRC
  gi_wp2_with fail
  refine ⟨trivial, (callsIn_wide.2 (Q.chunk_calls _ _ _ _)).mono ?_⟩
  rintro e w6 ⟨rfl, hw6⟩
  have HW6 := Lib.hid hw6
  clear kb hw6
  gi_wp2_with fail
  obtain ⟨W5, hW5⟩ : ∃ W5, W5 = Lib.bytesWorld w4 5 rc := ⟨_, rfl⟩
  have hw6 := HW6.out
  obtain ⟨b5, hb5⟩ : ∃ b5, b5 = W5.heap.size := ⟨_, rfl⟩
  rw [← hW5] at hw6 ⊢
  rw [← hb5]
  have z5 := Lib.bytesWorld_size w4 5 rc
  have hb45 := bytes_below (Below.refl w4.heap.size w4) (Nat.le_refl _) 5 rc
  have hC5 := Lib.bytesWorld_at_new w4 5 rc
  have hcl := fun j hj => bw_cell w4 5 rc j hj
  rw [← hW5] at z5 hb45 hC5
  obtain ⟨C, hCd⟩ : ∃ C, C = Lib.bytesCells w4 5 rc := ⟨_, rfl⟩
  rw [← hCd] at hC5
  have hb56 : Below W5.heap.size W5 w6 := by rw [hw6]; exact ((Below.refl _ W5).alloc (Nat.le_refl _) _).alloc (by rw [World.size_alloc]; omega) _
  have z6 : w6.heap.size = b5 + 2 := by rw [hw6, World.size_alloc, World.size_alloc, hb5]
  have hBs : w6.heap[b5]? = some (.cells #[.slice (some ⟨w4.heap.size, 0, none⟩) rc.size cap] 71 (0, 0)) := by
    rw [hw6, Below.heap_alloc _ _ _ (by rw [World.size_alloc]; omega), hb5]; exact heap_alloc_new W5 _
  have hBn : w6.heap[b5 + 1]? = some (.cells #[.int .i64 64] 3 (0, 0)) := by
    rw [hw6, hb5, ← World.size_alloc W5 (.cells #[.slice (some ⟨w4.heap.size, 0, none⟩) rc.size cap] 71)]; exact heap_alloc_new _ _
  have z4 := HB4.out.size
  have z3 := HZ3.out
  have zw := HZ2.out
  have hC6 : w6.heap[w4.heap.size]? = some _ := (hb56.block _ (by omega)).trans hC5
  have hb26 : Below w2.heap.size w2 w6 := by
    have h1 : Below w2.heap.size w2 W3 := by rw [HW3.out]; exact (Below.refl _ w2).alloc (Nat.le_refl _) _
    exact ((h1.trans (HB4.out.mono (by omega))).trans (hb45.mono (by omega))).trans (hb56.mono (by omega))
  have ho6 : Boxed w6 w2.heap.size 22 (.slice none 0 0) := by
    have h1 : W3.heap[w2.heap.size]? = _ := HO3.out
    exact (hb56.block _ (by omega)).trans ((hb45.block _ (by omega)).trans ((HB4.out.block _ (by omega)).trans h1))
  have hcc : ∀ (W : World), W.heap[w4.heap.size]? = w6.heap[w4.heap.size]? → ∀ j, j < rc.size → W.cell? ⟨w4.heap.size, j, none⟩ = some (.int .u8 ((rc.data.toList.getD j 0).toNat : Int)) := by
    intro W hW j hj
    rw [← hcl j hj, ← hW5]
    exact World.cell?_of_block (a := ⟨w4.heap.size, j, none⟩) (hW.trans (hb56.block _ (by omega)))
  have HCC := Lib.hid hcc; have HC6 := Lib.hid hC6; have HB26 := Lib.hid hb26; have HO6 := Lib.hid ho6; have HBS := Lib.hid hBs; have HBN := Lib.hid hBn
  have hrs := HRS.out
  have HZZ : Hid (b5 = w4.heap.size + 1 ∧ w6.heap.size = b5 + 2 ∧ w2.heap.size + 1 ≤ w4.heap.size ∧ w.heap.size + 5 ≤ w2.heap.size) := Lib.hid ⟨by omega, z6, by omega, zw⟩
  have HW5 := Lib.hid hW5; have HB5 := Lib.hid hb5
  clear hw6 hb45 hC5 hcl hb56 hcc hC6 hb26 ho6 hBs hBn hCd hW5 hb5 z5 z6 z4 z3 zw
  refine wpIn_rangeFunc_ownH rfl (by omega) (gf := 49) (lb := #[.pointer (some ⟨b5, 0, none⟩), .pointer (some ⟨b5 + 1, 0, none⟩)]) rfl trivial (enters_of Try.func49 (by kernel_rfl) rfl)
    (encs := fun x : Nat => #[Q.pieceV w4.heap.size rc.size x]) (Kp := Q.KeepX w6.heap.size w2.heap.size) (S := fun ys => ys = List.range ((rc.size + 63) / 64)) (Sp := fun pre => ∃ k, k ≤ (rc.size + 63) / 64 ∧ pre = List.range k) (N := (rc.size + 63) / 64) (w0 := w6)
    (fun lp J Jx W hW hJ hJx hY h0 => Q.chunk1_in w4.heap.size rc.size cap _ rfl HGE.out (by omega) 5 (by omega) lp b5 (b5 + 1) w6.heap.size w2.heap.size w6 (Nat.le_refl _)
      (fun W hW => by rw [hW.cell (by have hzz := HZZ.out; omega) (by have hzz := HZZ.out; omega), blk_cell HBS.out]; rfl) (fun W hW => by rw [hW.cell (by have hzz := HZZ.out; omega) (by have hzz := HZZ.out; omega), blk_cell HBN.out]; rfl) J Jx W (Q.KeepX.below hW (Nat.le_refl _)) hJ hJx hY h0)
    (fun h k => Q.KeepX.trans h k) (fun W l o o' hl ho _ _ => Q.KeepX.put W l o o' hl ho) (Below.refl _ _) (fun _ => rfl)
    (fun pre W => (∃ v, Boxed W w2.heap.size 22 v ∧ W.ownsRow w6.heap.size 9 1 v (pcsV rc pre).length (pcsV rc pre) ∧ True) ∧ (W.heap[w4.heap.size]? = some (.cells C 5 (C.size, C.size + 1)) ∧ (Below w2.heap.size w2 W ∧ w6.heap.size ≤ W.heap.size)))
    (fun _ _ _ => False)
    (OwnFrom.and (Own.from (holdsRow_own w6.heap.size w2.heap.size 22 9 1 (fun pre => (pcsV rc pre).length) (fun pre => pcsV rc pre) (fun _ _ => True)) _) (OwnFrom.and (ownFrom_obj _ _ _ _ _) (OwnFrom.and (ownFrom_below (Nat.le_refl _) (by have hzz := HZZ.out; omega)) (fun _ _ _ _ hs hg _ => Nat.le_trans hs hg.size))))
    (fun _ _ _ _ _ hs _ _ => hs)
    ⟨⟨_, HO6.out, World.ownsRow_nil _ _ _ _, trivial⟩, HC6.out, HB26.out, Nat.le_refl _⟩
    (fun x a' W => a' = { tmps := #[Value.agg #[Value.slice A0 l0.length c0, Value.slice A1 l1.length c1, Value.bool false], Value.agg #[Value.int .i64 ↑fr, Value.int .i64 ↑mn], Value.agg #[Value.int .i64 ↑at_, Value.int .i64 ↑used, Value.int .u64 ↑first, Value.int .i64 ↑many], Value.string s, Value.pointer (some ⟨w.heap.size, 0, none⟩), Value.pointer (some ⟨w.heap.size + 1, 0, none⟩), Value.pointer (some ⟨w.heap.size + 1 + 1, 0, none⟩), undef, Value.pointer (some ⟨w.heap.size + 1 + 1 + 1, 0, none⟩), Value.pointer (some ⟨w.heap.size + 1 + 1 + 1 + 1, 0, none⟩), Value.int .i64 0, Value.int .i64 ↑nd, Value.pointer (some ⟨w2.heap.size, 0, none⟩), Q.pieceV w4.heap.size rc.size x, Value.bool false, Value.pointer (some ⟨w.heap.size, 2, none⟩), Value.bool false, undef, undef, Value.bool false, Value.string s, Value.int .i64 ↑s.size, Value.bool false, undef, undef, Value.string s, Value.int .i64 ↑nd, Value.pointer (some ⟨w.heap.size + 1 + 1, 1, none⟩), Value.int .i64 ↑used, Value.int .i64 ↑nd, Value.int .i64 (↑used + ↑nd), Value.pointer (some ⟨w.heap.size + 1, 1, none⟩), Value.int .i64 ↑mn, Value.bool (decide ((mn : Int) < ↑used + ↑nd)), undef, undef, Value.pointer (some ⟨w.heap.size + 1 + 1, 2, none⟩), Value.int .u64 ↑first, Value.pointer (some ⟨w.heap.size + 1 + 1, 3, none⟩), Value.int .i64 ↑many, Value.int .u64 ↑many, Value.int .u64 ↑N, Value.string s, Value.string rc, Value.slice (some ⟨w4.heap.size, 0, none⟩) rc.size cap, Value.func (Fn.func 49) #[] #[Value.pointer (some ⟨b5, 0, none⟩), Value.pointer (some ⟨b5 + 1, 0, none⟩)], Q.pieceV w4.heap.size rc.size x, undef, undef, undef, undef, undef, undef, undef, undef, undef, undef, undef, undef, undef, undef, undef, undef, undef, undef, undef, undef, undef, undef, undef, undef, undef], defers := [] })
    (fun x a' _ X Y row hs hg hrow => hs) ?assign ?body ?done ?stop
  case assign =>
    rintro lp pre x W K hi hK
    gi_wp2_with fail
    exact hK _ _ ((KeepsOthers.refl _).from _) (Q.KeepX.refl _ _ _) hi rfl
  case body =>
    rintro lp pre x a' W hl hr ⟨⟨v, hv, hrow, _⟩, hC, hB, hsz⟩ rfl hlt
    have hc := hv.cell
    obtain ⟨i0, hi, hz0, hz1, hz2⟩ := info_parts info_str5
    have hlp : (pcsV rc pre).length ≤ 1000000 := by rw [pcsV_len]; omega
    have hcv := run_convert_bytes_arg (P := Try.prog) W 71 5 Try.underlying71 Try.underlying5 w4.heap.size (64 * x) (min 64 (rc.size - 64 * x)) (min 64 (rc.size - 64 * x)) (bytesOf (pieceS rc x))
      (by rw [bytesOf_length, pieceS, pbsz, List.length_take, List.length_drop, ← sz])
      (fun i hi => by
        rw [HCC.out W (hC.trans HC6.out.symm) (64 * x + i) (by omega)]
        rw [piece_get rc x i hi]) 9 Try.underlying9
    rw [strOf_bytes] at hcv
    have HV := Lib.hid hv; have HRW := Lib.hid hrow; have HB := Lib.hid hB; have HC := Lib.hid hC
    clear hv hrow hB hC
    unfold Q.pieceV
    gi_wp2_with (gi_at_builtin; go_must (refine wpListIn_append_own _ rfl _ _ 22 rfl w6.heap.size 9 i0 _ 1 16 Try.underlying22 hi hz0 hz1 hz2 rfl (by decide) _ _ _ rfl (HRW.out.alloc _) ⟨W.heap.size, 0, none⟩ 1 1 [.string (pieceS rc x)] rfl rfl (cell_one_new _ _ _) (by simp [Value.oneCell']) (by unfold maxLen; omega) (by omega) (by rw [World.size_alloc]; omega) ?_); intro v' w1 hown' hgrow _; obtain ⟨g', cap', rfl⟩ := ownsRow_succ hown'; obtain ⟨hv1, hv2, hr2, hk2, hb2⟩ := boxed_appended HV.out (by decide) HRW.out hsz hown' hgrow; have hc1 := hv1.cell; have hf1 := hv1.frozen; have HV2 := Lib.hid hv2; have HR2 := Lib.hid hr2; have HK2 := Lib.hid hk2; have HB2 := Lib.hid hb2; have HG := Lib.hid hgrow; clear hv1 hv2 hr2 hk2 hb2 hown' hgrow)
    have e1 : pcsV rc (pre ++ [x]) = pcsV rc pre ++ [Value.string (pieceS rc x)] := by simp [pcsV]
    have e2 : (pcsV rc (pre ++ [x])).length = (pcsV rc pre).length + 1 := by simp [pcsV]
    refine ⟨HK2.out.from _, HB2.out, ⟨_, HV2.out, by rw [e2, e1]; exact HR2.out, trivial⟩, (HB2.out.2 _ (by have hzz := HZZ.out; omega) (by have hzz := HZZ.out; omega)).trans HC.out, ?_, Nat.le_trans hsz HB2.out.1⟩
    exact ((HB.out.alloc HB.out.size _).grown HG.out (by have := HB.out.size; rw [World.size_alloc]; omega) (fun k hk => by have := own_base HRW.out k hk; have hzz := HZZ.out; omega)).setCell (p := ⟨w2.heap.size, 0, none⟩) (Nat.le_refl _) _
  case done =>
    rintro D ys W hD rfl ⟨⟨v, hv, hrow, _⟩, hC, hB, hsz⟩ hK
    have hzz := HZZ.out
    have hxW := HX2.out.step hB; have hlW := HL2.out.step hB
    have hdW : DskBox W _ _ _ _ := (hB.block _ (by omega)).trans HD2.out
    have hgW : LogBox W _ _ _ _ _ := (hB.block _ (by omega)).trans HG2.out
    have hKr : (rc.size + 63) / 64 = (pieces rc).length := (pieces_len rc).symm
    have hKp : 0 < (pieces rc).length := by rw [pieces_len]; have := HND.out; have := HNP.out; omega
    have hR : Kd.R Kd.string 9 W w6.heap.size (fun _ => True) v (pieces rc) := Kd.R_of_own (by
      have e : pcsV rc (List.range ((rc.size + 63) / 64)) = (pieces rc).map Value.string := by unfold pcsV pieces; rw [List.map_map]; rfl
      rw [e, List.length_map] at hrow; exact hrow) (fun _ _ => trivial)
    obtain ⟨g, cap3, rfl, hle3, _, hg3, hrd⟩ := img_row hR hKp
    have ha0 : Kd.V Kd.string 9 W W.heap.size (fun k => P0 k ∧ k < w.heap.size) (.slice A0 l0.length c0) l0 := Kd.V_step (Kd.V_bound HS0.out) (fun k hk _ => hxW.b.block k hk.2)
    have ha1 : Kd.V k88 88 W W.heap.size (fun k => P1 k ∧ k < w.heap.size) (.slice A1 l1.length c1) l1 := Kd.V_step (Kd.V_bound HS1.out) (fun k hk _ => hxW.b.block k hk.2)
    have hlay := lay_calls _ _ A0 c0 l0 A1 c1 l1 fr mn (at_ + used) (some ⟨g, 0, none⟩) cap3 (pieces rc) W ha0 ha1 hrd (by rw [pieces_len]; omega) (fun s hs => by
      unfold pieces at hs
      obtain ⟨j, _, rfl⟩ := List.mem_map.1 hs
      exact piece_size rc j) hm hfm hn0 (by rw [pieces_len]; omega) (by omega)
    rw [show ((at_ + used : Nat) : Int) = (at_ : Int) + (used : Int) by omega] at hlay
    have hc := hv.cell
    rw [← hKr] at hlay hc
    have HLAY := Lib.hid hlay
    have c0 := hxW.c0; have c1 := hxW.c1; have c2 := hxW.c2; have r0 := hxW.r0; have r1 := hxW.r1; have p0 := hlW.l0; have p1 := hlW.l1
    have HXW := Lib.hid hxW; have HLW := Lib.hid hlW; have HDW := Lib.hid hdW; have HGW := Lib.hid hgW; have HK := Lib.hid hK; have HSZ := Lib.hid hsz; have HHD := Lib.hid hD
    clear hxW hlW hdW hgW hlay hR ha0 ha1 hrd hv hrow hC hB hsz hK hzz hD hKr hKp hle3 hg3
    gi_wp2_with fail
    refine ⟨trivial, (callsIn_wide.2 HLAY.out).mono ?_⟩
    rintro e w7 ⟨v0, v1, rfl, hv0, hv1, hb7⟩
    obtain ⟨LN, hLN⟩ : ∃ LN, LN = l1 ++ laidP fr mn (at_ + used) 0 (pieces rc) := ⟨_, rfl⟩
    rw [← hLN] at hv1
    have HLN := Lib.hid hLN
    obtain ⟨B2, d2, rfl⟩ := Kd.V_slice hv0
    obtain ⟨B3, d3, rfl⟩ := Kd.V_slice hv1
    have hx7 := HXW.out.step hb7
    have hl7 : LogBox w7 (w.heap.size + 1 + 1) _ _ _ _ := (HLW.out.step hb7).l
    have hd7 : DskBox w7 _ _ _ _ := (hb7.block _ (blk_lt HDW.out)).trans HDW.out
    have hg7 : LogBox w7 _ _ _ _ _ := (hb7.block _ (blk_lt HGW.out)).trans HGW.out
    have hK7 := (hb7.block _ (blk_lt HK.out)).trans HK.out
    have hD7 : w.heap.size + 5 ≤ D := by have h1 := HZZ.out; have h2 := HHD.out; omega
    have hW7 : w.heap.size + 5 ≤ W.heap.size := by have h1 := HZZ.out; have h2 := HSZ.out; omega
    have HDW8 : Hid (D < W.heap.size) := Lib.hid (blk_lt HK.out)
    have HK7 := Lib.hid hK7; have HD7 := Lib.hid hD7; have HW7 := Lib.hid hW7; have HV0 := Lib.hid hv0; have HV1 := Lib.hid hv1; have HX7 := Lib.hid hx7
    have HL7 := Lib.hid hl7; have HDD7 := Lib.hid hd7; have HGG7 := Lib.hid hg7
    obtain ⟨a0, a1, a2, a3, a4, a5⟩ := DskBox.facts (show DskBox w7 w.heap.size _ _ _ from hx7.d)
    obtain ⟨b0, b1, b2, b3, b4, b5', b6, b7⟩ := hl7.facts
    obtain ⟨x0, x1, x2, x3, x4, x5⟩ := hd7.facts
    obtain ⟨z0, z1, z2, z3, y0, y1, y2, y3⟩ := hg7.facts
    clear hLN hv0 hv1 hx7 hl7 hd7 hg7 hK7 hD7 hW7 hb7 c0 c1 c2 r0 r1 p0 p1 hc HLAY HXW HLW HDW HGW HK HSZ HHD
    gi_wp2_with fail
    clear a0 a1 a2 a3 a4 a5 b0 b1 b2 b3 b4 b5' b6 b7 x0 x1 x2 x3 x4 x5 z0 z1 z2 z3 y0 y1 y2 y3
    obtain ⟨W8, hW8⟩ : ∃ W8, W8 = ((((w7.setCell ⟨w.heap.size, 0, none⟩ (.slice B2 l0.length d2)).setCell ⟨w.heap.size, 1, none⟩ (.slice B3 LN.length d3)).setCell ⟨w.heap.size, 2, none⟩ (.bool false)).setCell ⟨w.heap.size + 1 + 1, 1, none⟩ (.int .i64 ((used : Int) + (nd : Int)))).setCell ⟨w.heap.size + 1 + 1, 3, none⟩ (.int .i64 ((many : Int) + 1)) := ⟨_, rfl⟩
    rw [← hW8]
    obtain ⟨hd8, hl8, hr8, hs8, he8, hz8, hbl8⟩ := ap_set (b := w.heap.size) HX7.out.d HL7.out HDD7.out HGG7.out hW8
    obtain ⟨a0, a1, a2, _⟩ := hd8.facts
    obtain ⟨b0, b1, b2, b3, _⟩ := hl8.facts
    obtain ⟨x0, x1, x2, x3, x4, x5⟩ := hr8.facts
    obtain ⟨z0, z1, z2, z3, y0, y1, y2, y3⟩ := hs8.facts
    have HE8 := Lib.hid he8; have HZ8 := Lib.hid hz8
    have HBL8 := Lib.hid (hbl8 w.heap.size w (Nat.le_refl _) HX7.out.b)
    have HR8 := Lib.hid hr8; have HS8 := Lib.hid hs8
    clear hd8 hl8 hr8 hs8 he8 hz8 hbl8 hW8
    gi_region
    gi_wp2_with fail
    clear a0 a1 a2 b0 b1 b2 b3 x0 x1 x2 x3 x4 x5 z0 z1 z2 z3 y0 y1 y2 y3
    obtain ⟨W9, hW9⟩ : ∃ W9, W9 = (((((((W8.setCell ⟨w.heap.size + 1 + 1 + 1, 0, none⟩ (.slice B2 l0.length d2)).setCell ⟨w.heap.size + 1 + 1 + 1, 1, none⟩ (.slice B3 LN.length d3)).setCell ⟨w.heap.size + 1 + 1 + 1, 2, none⟩ (.bool false)).setCell ⟨w.heap.size + 1 + 1 + 1 + 1, 0, none⟩ (.int .i64 (at_ : Int))).setCell ⟨w.heap.size + 1 + 1 + 1 + 1, 1, none⟩ (.int .i64 ((used : Int) + (nd : Int)))).setCell ⟨w.heap.size + 1 + 1 + 1 + 1, 2, none⟩ (.int .u64 (first : Int))).setCell ⟨w.heap.size + 1 + 1 + 1 + 1, 3, none⟩ (.int .i64 ((many : Int) + 1))).drew := ⟨_, rfl⟩
    rw [← hW9]
    obtain ⟨hr9, hs9, he9, hz9, hbl9⟩ := ap_fin (b := w.heap.size) HR8.out HS8.out hW9
    have hD7 := HD7.out
    have hK9 : W9.heap[D]? = some (.deferred (some [])) := by rw [he9 D (by omega) (by omega), HE8.out D (by omega) (by omega)]; exact HK7.out
    refine ⟨by simp, .inl ⟨_, _, rfl, run_takeDeferred hK9, ?_⟩⟩
    have hall : ∀ k, k < W9.heap.size → k ≠ D → (W9.putObj D (.deferred none)).heap[k]? = W9.heap[k]? := fun k h1 h2 => (grownBy_putObj' W9 D (.deferred none)).block k h1 (fun e => h2 (by cases e; rfl))
    have hz : W9.heap.size = w7.heap.size := hz9.trans HZ8.out
    have hr10 : DskBox (W9.putObj D (.deferred none)) (w.heap.size + 1 + 1 + 1) _ _ _ := (hall _ (blk_lt hr9) (by omega)).trans hr9
    have hs10 : LogBox (W9.putObj D (.deferred none)) (w.heap.size + 1 + 1 + 1 + 1) _ _ _ _ := (hall _ (blk_lt hs9) (by omega)).trans hs9
    obtain ⟨x0, x1, x2, _⟩ := hr10.facts
    obtain ⟨z0, z1, z2, z3, _⟩ := hs10.facts
    have hstep : ∀ k, k < w7.heap.size → k ≠ w.heap.size → k ≠ w.heap.size + 1 + 1 → k ≠ w.heap.size + 1 + 1 + 1 → k ≠ w.heap.size + 1 + 1 + 1 + 1 → k ≠ D → (W9.putObj D (.deferred none)).heap[k]? = w7.heap[k]? :=
      fun k h0 h1 h2 h3 h4 h5 => (hall k (by omega) h5).trans ((he9 k h3 h4).trans (HE8.out k h1 h2))
    have hW7 := HW7.out
    have hDW := HDW8.out
    have hst : ∀ {Pz : Nat → Prop} k, ((Pz k ∧ k < w.heap.size) ∨ W.heap.size ≤ k) → k < w7.heap.size → (W9.putObj D (.deferred none)).heap[k]? = w7.heap[k]? := by
      intro Pz k hk hlt
      rcases hk with ⟨_, hk⟩ | hk
      · exact hstep k hlt (by omega) (by omega) (by omega) (by omega) (by omega)
      · exact hstep k hlt (by omega) (by omega) (by omega) (by omega) (by omega)
    have hq : ∀ k, ((P0 k ∧ k < w.heap.size ∨ P1 k ∧ k < w.heap.size) ∨ W.heap.size ≤ k) → (((P0 k ∨ P1 k) ∧ k < w.heap.size) ∨ W.heap.size ≤ k) := by
      rintro k ((⟨h1, h2⟩ | ⟨h1, h2⟩) | h)
      · exact .inl ⟨.inl h1, h2⟩
      · exact .inl ⟨.inr h1, h2⟩
      · exact .inr h
    have hq2 : ∀ k, ((P0 k ∧ k < w.heap.size ∨ P1 k ∧ k < w.heap.size) ∨ W.heap.size ≤ k) → ((P0 k ∨ P1 k) ∨ w.heap.size ≤ k) := by
      rintro k ((⟨h1, h2⟩ | ⟨h1, h2⟩) | h)
      · exact .inl (.inl h1)
      · exact .inl (.inr h1)
      · exact .inr (by omega)
    refine ⟨.tuple #[.agg #[.slice B2 l0.length d2, .slice B3 LN.length d3, .bool false], .agg #[.int .i64 (at_ : Int), .int .i64 ((used : Int) + (nd : Int)), .int .u64 (first : Int), .int .i64 ((many : Int) + 1)], .int .i64 0], by simp [results, Try.results13, go_sem, x0, x1, x2, z0, z1, z2, z3], _, _, rfl, ?_, ?_, ?_⟩
    · exact Kd.V_mono (Kd.V_step HV0.out (fun k hk hlt => hst (Pz := fun k => P0 k ∨ P1 k) k (hq k hk) hlt)) hq2
    · rw [← HLN.out]
      exact Kd.V_mono (Kd.V_step HV1.out (fun k hk hlt => hst (Pz := fun k => P0 k ∨ P1 k) k (hq k hk) hlt)) hq2
    · exact (hbl9 w.heap.size w (Nat.le_refl _) HBL8.out).trans (belowK_b (w := w) (Nat.le_refl _) W9 D _ _ (by omega) hK9 rfl rfl)
  case stop =>
    rintro D c pre W _ _ h _
    exact h.elim
def redo_Append.f (l0_0 : List ByteArray) (l0_1 : List S88) (a0_2 : Bool) (a1_0 a1_1 a2_0 a2_1 a2_2 a2_3 : Int) (a3 : ByteArray) : Option (List ByteArray × List S88 × Bool × Int × Int × Int × Int × Int) :=
  if a0_2 = true then some (l0_0, l0_1, a0_2, a2_0, a2_1, a2_2, a2_3, 19)
  else if 4096 < a3.size then some (l0_0, l0_1, a0_2, a2_0, a2_1, a2_2, a2_3, 5)
  else if a1_1 < wrap64 (a2_1 + (needN a3 : Int)) then some (l0_0, l0_1, a0_2, a2_0, a2_1, a2_2, a2_3, 12)
  else if 1 ≤ a1_1 ∧ 0 ≤ a1_0 ∧ a1_0 + a1_1 ≤ (l0_0.length : Int) ∧ l0_0.length ≤ 1000000000 ∧ l0_1.length ≤ 100000000 ∧ 0 ≤ a2_0 ∧ a2_0 ≤ 100000 ∧ a1_1 ≤ 100000 ∧ 0 ≤ a2_1 ∧ a2_1 ≤ 100000 ∧ 0 ≤ a2_2 ∧ a2_2 < 18446744073709551616 ∧ 0 ≤ a2_3 ∧ a2_3 ≤ 1000000000 then
    some (l0_0, l0_1 ++ laidP a1_0.toNat a1_1.toNat (a2_0.toNat + a2_1.toNat) 0 (pieces (recS ((a2_2.toNat + a2_3.toNat) % 18446744073709551616) a3)), a0_2, a2_0, a2_1 + (needN a3 : Int), a2_2, a2_3 + 1, 0)
  else none
theorem redo_Append.calls (P0_0 : Nat → Prop) (A0_0 : Option Addr) (c0_0 : Nat) (l0_0 : List ByteArray) (P0_1 : Nat → Prop) (A0_1 : Option Addr) (c0_1 : Nat) (l0_1 : List S88) (a0_2 : Bool) (a1_0 a1_1 a2_0 a2_1 a2_2 a2_3 : Int) (a3 : ByteArray)
    (r1 : List ByteArray) (r2 : List S88) (r3 : Bool) (r4 r5 r6 r7 r8 : Int) (w : World) (hs0_0 : Kd.V Kd.string 9 w w.heap.size (fun k_ => P0_0 k_) (.slice A0_0 l0_0.length c0_0) l0_0) (hs0_1 : Kd.V k88 88 w w.heap.size (fun k_ => P0_1 k_) (.slice A0_1 l0_1.length c0_1) l0_1)
    (h : redo_Append.f l0_0 l0_1 a0_2 a1_0 a1_1 a2_0 a2_1 a2_2 a2_3 a3 = some (r1, r2, r3, r4, r5, r6, r7, r8)) :
    Calls Try.prog 13 #[.agg #[.slice A0_0 l0_0.length c0_0, .slice A0_1 l0_1.length c0_1, .bool a0_2], .agg #[.int .i64 a1_0, .int .i64 a1_1], .agg #[.int .i64 a2_0, .int .i64 a2_1, .int .u64 a2_2, .int .i64 a2_3], .string a3] w fun e w' =>
      ∃ v0_ v1_ : Value, e = .returned (.tuple #[.agg #[v0_, v1_, .bool r3], .agg #[.int .i64 r4, .int .i64 r5, .int .u64 r6, .int .i64 r7], .int .i64 r8]) ∧ Kd.V Kd.string 9 w' w.heap.size (fun k_ => ((P0_0 k_ ∨ P0_1 k_) ∨ w.heap.size ≤ k_)) v0_ r1 ∧ Kd.V k88 88 w' w.heap.size (fun k_ => ((P0_0 k_ ∨ P0_1 k_) ∨ w.heap.size ≤ k_)) v1_ r2 ∧ Below w.heap.size w w' := by
  have give : ∀ (code : Int), (r1, r2, r3, r4, r5, r6, r7, r8) = (l0_0, l0_1, a0_2, a2_0, a2_1, a2_2, a2_3, code) → ∀ e w', (e = Ending.returned (.tuple #[.agg #[.slice A0_0 l0_0.length c0_0, .slice A0_1 l0_1.length c0_1, .bool a0_2], .agg #[.int .i64 a2_0, .int .i64 a2_1, .int .u64 a2_2, .int .i64 a2_3], .int .i64 code]) ∧ Below w.heap.size w w') →
      ∃ v0_ v1_ : Value, e = .returned (.tuple #[.agg #[v0_, v1_, .bool r3], .agg #[.int .i64 r4, .int .i64 r5, .int .u64 r6, .int .i64 r7], .int .i64 r8]) ∧ Kd.V Kd.string 9 w' w.heap.size (fun k_ => ((P0_0 k_ ∨ P0_1 k_) ∨ w.heap.size ≤ k_)) v0_ r1 ∧ Kd.V k88 88 w' w.heap.size (fun k_ => ((P0_0 k_ ∨ P0_1 k_) ∨ w.heap.size ≤ k_)) v1_ r2 ∧ Below w.heap.size w w' := by
    rintro code hc e w' ⟨rfl, hb⟩
    simp only [Prod.mk.injEq] at hc
    obtain ⟨rfl, rfl, rfl, rfl, rfl, rfl, rfl, rfl⟩ := hc
    exact ⟨_, _, rfl, Kd.V_mono (Kd.V_below hs0_0 hb) (fun _ hk => .inl (.inl hk)), Kd.V_mono (Kd.V_below hs0_1 hb) (fun _ hk => .inl (.inr hk)), hb⟩
  unfold redo_Append.f at h
  split at h
  · rename_i h1
    subst h1
    exact (append_off _ _ _ _ _ _ _ _ _ _ _ _ _ _).mono (give 19 (Option.some.inj h).symm)
  · rename_i h1
    obtain rfl : a0_2 = false := by simpa using h1
    split at h
    · rename_i h2
      exact (append_big _ _ _ _ _ _ _ _ _ _ _ _ _ _ h2).mono (give 5 (Option.some.inj h).symm)
    · rename_i h2
      split at h
      · rename_i h3
        exact (append_room _ _ _ _ _ _ _ _ _ _ _ _ _ _ (by omega) h3).mono (give 12 (Option.some.inj h).symm)
      · rename_i h3
        split at h
        · rename_i hk
          obtain ⟨k1, k2, k3, k4, k5, k6, k7, k8, k9, k10, k11, k12, k13, k14⟩ := hk
          have h := Option.some.inj h
          simp only [Prod.mk.injEq] at h
          obtain ⟨rfl, rfl, rfl, rfl, rfl, rfl, rfl, rfl⟩ := h
          obtain ⟨fr, rfl⟩ := Int.eq_ofNat_of_zero_le k2
          obtain ⟨mn, rfl⟩ := Int.eq_ofNat_of_zero_le (show 0 ≤ a1_1 by omega)
          obtain ⟨at_, rfl⟩ := Int.eq_ofNat_of_zero_le k6
          obtain ⟨used, rfl⟩ := Int.eq_ofNat_of_zero_le k9
          obtain ⟨first, rfl⟩ := Int.eq_ofNat_of_zero_le k11
          obtain ⟨many, rfl⟩ := Int.eq_ofNat_of_zero_le k13
          have hnb : needN a3 ≤ 100000 := by
            have h10 := numS_size10 (show a3.size < 18446744073709551616 by omega)
            have := recS_size 0 a3
            unfold needN; omega
          rw [w64 (by omega) (by omega)] at h3
          exact append_main P0_0 P0_1 A0_0 c0_0 l0_0 A0_1 c0_1 l0_1 fr mn at_ used first many a3 w hs0_0 hs0_1 (by omega) (by omega) k4 k5 (by omega) (by omega) (by omega) (by omega) (by omega) (by omega)
        · cases h
end Go.Proofs.Ytcbfnfggnocndaa
end

section
namespace Go.Proofs.Ytcbfnfggnocndaa
open Go.RowKit Go.Lib Go.Proofs.YtcbfnfggnocndaaW.PrintWords Go.Proofs.YtcbfnfggnocndaaW.PrintMore Math
def sec (l : List UInt8) (i : Nat) : List UInt8 := (l.drop (64 * i)).take 64
theorem sec_get (l : List UInt8) (j : Nat) : (sec l (j / 64))[j % 64]? = l[j]? := by
  unfold sec
  rw [List.getElem?_take, if_pos (Nat.mod_lt _ (by decide)), List.getElem?_drop]
  congr 1
  omega
theorem sec_ext {a b : List UInt8} {k : Nat} (ha : a.length = 64 * k) (hb : b.length = 64 * k) (h : ∀ i, i < k → sec a i = sec b i) : a = b := by
  apply List.ext_getElem?
  intro j
  by_cases hj : j < 64 * k
  · rw [← sec_get a j, ← sec_get b j, h (j / 64) (by omega)]
  · rw [List.getElem?_eq_none (by omega), List.getElem?_eq_none (by omega)]
theorem sec_left {a b : List UInt8} {i : Nat} (h : 64 * i + 64 ≤ a.length) : sec (a ++ b) i = sec a i := by
  unfold sec
  rw [List.drop_append_of_le_length (by omega), List.take_append_of_le_length (by rw [List.length_drop]; omega)]
theorem sec_take {a : List UInt8} {i k : Nat} (h : i < k) : sec (a.take (64 * k)) i = sec a i := by
  unfold sec
  rw [List.drop_take, List.take_take, Nat.min_eq_left (by omega)]
def rg (R : List ByteArray) (i : Nat) : List UInt8 := (R.getD (i % R.length) ⟨#[]⟩).data.toList
theorem rg_len {R : List ByteArray} (hs : ∀ s ∈ R, s.size = 64) (h1 : 1 ≤ R.length) (i : Nat) : (rg R i).length = 64 := by
  have hlt : i % R.length < R.length := Nat.mod_lt _ h1
  unfold rg
  rw [List.getD_eq_getElem?_getD, List.getElem?_eq_getElem hlt, ← sz]
  exact hs _ (List.getElem_mem hlt)
theorem sec_round {R : List ByteArray} (hs : ∀ s ∈ R, s.size = 64) (h1 : 1 ≤ R.length) (a : Nat) : ∀ m i, i < m → sec (roundB R a m) i = rg R (a + i)
  | 0, _, h => by omega
  | m + 1, i, h => by
    rw [roundB_succ]
    have hl := roundB_full R a h1 hs m
    by_cases hi : i < m
    · rw [sec_left (by omega), sec_round hs h1 a m i hi]
    · obtain rfl : i = m := by omega
      unfold sec
      rw [List.drop_left' hl]
      exact List.take_of_length_le (by have := rg_len hs h1 (a + i); unfold rg at this; omega)
def secR (n : Nat) (s : ByteArray) (i : Nat) : List UInt8 := sec (padB n s) i
theorem take_eq {R : List ByteArray} (hs : ∀ s ∈ R, s.size = 64) (h1 : 1 ≤ R.length) (a m n : Nat) (s : ByteArray) (hk : needN s ≤ m) :
    (roundB R a m).take (64 * needN s) = padB n s ↔ ∀ i, i < needN s → rg R (a + i) = secR n s i := by
  have hl := roundB_full R a h1 hs m
  constructor
  · intro h i hi
    rw [← sec_round hs h1 a m i (by omega), ← sec_take hi, h]; rfl
  · intro h
    refine sec_ext (k := needN s) (by rw [List.length_take]; omega) (padB_len n s) (fun i hi => ?_)
    rw [sec_take hi, sec_round hs h1 a m i (by omega), h i hi]; rfl
theorem padB_split (n : Nat) (s : ByteArray) : ∃ r, padB n s = (num8S n).data.toList ++ (textB s.data.toList ++ r) := by
  refine ⟨(fourS (sumN (num8S n ++ textS s))).data.toList ++ List.replicate (64 * needN s - (recS n s).size) 0, ?_⟩
  have e : (recS n s).data.toList = (num8S n).data.toList ++ ((textS s).data.toList ++ (fourS (sumN (num8S n ++ textS s))).data.toList) := by
    unfold recS putS
    rw [app, app, List.append_assoc]
  unfold padB
  rw [e, textS_dl, List.append_assoc, List.append_assoc]
theorem ba_eta (s : ByteArray) : (⟨s.data.toList.toArray⟩ : ByteArray) = s := by apply inj; rfl
theorem textL_pad {B : List UInt8} {n : Nat} {s : ByteArray} (hs : s.size ≤ 4096) (h : B.take (64 * needN s) = padB n s) : ∃ r, textL (B.drop 8) 4096 = (s.data.toList, r, 0) := by
  obtain ⟨r, hr⟩ := padB_split n s
  have hB : B = padB n s ++ B.drop (64 * needN s) := by rw [← h, List.take_append_drop]
  have e : B.drop 8 = textB s.data.toList ++ (r ++ B.drop (64 * needN s)) := by
    have h8 : (num8S n).data.toList.length = 8 := by rw [← sz]; exact num8S_size n
    have : B.drop 8 = (padB n s ++ B.drop (64 * needN s)).drop 8 := congrArg (List.drop 8) hB
    rw [this, hr, List.append_assoc, List.drop_left' h8, List.append_assoc]
  exact ⟨r ++ B.drop (64 * needN s), by rw [e]; exact text_take s.data.toList _ 4096 (by rw [← sz]; omega) (by rw [← sz]; omega)⟩
theorem standsB_some {B : List UInt8} {m n : Nat} {s : ByteArray} (hs : s.size ≤ 4096) (hm : needN s ≤ m) (h : B.take (64 * needN s) = padB n s) : standsB B m n = (s, needN s) := by
  obtain ⟨r, hr⟩ := textL_pad hs h
  unfold standsB
  rw [hr]
  dsimp only
  rw [ba_eta, if_pos ⟨rfl, hm, h⟩]
theorem standsB_inv {B : List UInt8} {m n : Nat} (h : (standsB B m n).2 ≠ 0) : (standsB B m n).2 = needN (standsB B m n).1 ∧ (standsB B m n).1.size ≤ 4096 ∧ needN (standsB B m n).1 ≤ m ∧ B.take (64 * needN (standsB B m n).1) = padB n (standsB B m n).1 := by
  unfold standsB at h ⊢
  split at h
  · rename_i hh
    rw [if_pos hh]
    refine ⟨rfl, ?_, hh.2.1, hh.2.2⟩
    have := textL_le (B.drop 8) 4096 hh.1
    rw [pbsz]; omega
  · exact absurd rfl h
theorem stR_some {R : List ByteArray} (hR : ∀ s ∈ R, s.size = 64) (h1 : 1 ≤ R.length) {a m n : Nat} {s : ByteArray} (hs : s.size ≤ 4096) (hm : needN s ≤ m) (h : ∀ i, i < needN s → rg R (a + i) = secR n s i) : stR R a m n = (s, needN s) :=
  standsB_some hs hm ((take_eq hR h1 a m n s hm).2 h)
theorem stR_inv {R : List ByteArray} (hR : ∀ s ∈ R, s.size = 64) (h1 : 1 ≤ R.length) {a m n : Nat} (h : (stR R a m n).2 ≠ 0) :
    (stR R a m n).2 = needN (stR R a m n).1 ∧ (stR R a m n).1.size ≤ 4096 ∧ needN (stR R a m n).1 ≤ m ∧ ∀ i, i < needN (stR R a m n).1 → rg R (a + i) = secR n (stR R a m n).1 i := by
  obtain ⟨k1, k2, k3, k4⟩ := standsB_inv h
  exact ⟨k1, k2, k3, (take_eq hR h1 a m n _ k3).1 k4⟩
theorem rg_mod (R : List ByteArray) (a i : Nat) : rg R (a % R.length + i) = rg R (a + i) := by
  unfold rg
  rw [Nat.mod_add_mod]
def needs (ts : List ByteArray) : Nat := (ts.map needN).sum
theorem needs_app (a b : List ByteArray) : needs (a ++ b) = needs a + needs b := by unfold needs; rw [List.map_append, List.sum_append]
theorem needs_cons (s : ByteArray) (b : List ByteArray) : needs (s :: b) = needN s + needs b := rfl
theorem needs_len : ∀ ts : List ByteArray, ts.length ≤ needs ts
  | [] => Nat.zero_le _
  | s :: ts => by rw [needs_cons, List.length_cons]; have := needs_len ts; have := need_pos s; omega
def LayF (R : List ByteArray) (at_ first : Nat) : Nat → Nat → List ByteArray → Prop
  | _, _, [] => True
  | j, used, s :: ts => s.size ≤ 4096 ∧ used + needN s ≤ R.length ∧ (∀ i, i < needN s → rg R (at_ + (used + i)) = secR ((first + j) % 18446744073709551616) s i) ∧ LayF R at_ first (j + 1) (used + needN s) ts
theorem lay_nil (R : List ByteArray) (at_ first j used : Nat) : LayF R at_ first j used [] = True := by unfold LayF; rfl
theorem lay_cons (R : List ByteArray) (at_ first j used : Nat) (s : ByteArray) (ts : List ByteArray) : LayF R at_ first j used (s :: ts) =
    (s.size ≤ 4096 ∧ used + needN s ≤ R.length ∧ (∀ i, i < needN s → rg R (at_ + (used + i)) = secR ((first + j) % 18446744073709551616) s i) ∧ LayF R at_ first (j + 1) (used + needN s) ts) := by rw [LayF]
theorem lay_app (R : List ByteArray) (at_ first : Nat) : ∀ (a b : List ByteArray) (j used : Nat), LayF R at_ first j used (a ++ b) ↔ LayF R at_ first j used a ∧ LayF R at_ first (j + a.length) (used + needs a) b
  | [], b, j, used => by rw [List.nil_append, lay_nil, true_and]; rfl
  | s :: a, b, j, used => by
    rw [List.cons_append, lay_cons, lay_cons, lay_app R at_ first a b, List.length_cons, needs_cons, show j + 1 + a.length = j + (a.length + 1) by omega, Nat.add_assoc, and_assoc, and_assoc, and_assoc]
theorem lay_used (R : List ByteArray) (at_ first : Nat) : ∀ (a : List ByteArray) (j used : Nat), used ≤ R.length → LayF R at_ first j used a → used + needs a ≤ R.length
  | [], j, used, h, _ => h
  | s :: a, j, used, h, hl => by
    rw [lay_cons] at hl
    rw [needs_cons, ← Nat.add_assoc]
    exact lay_used R at_ first a _ _ hl.2.1 hl.2.2.2
theorem lay_shift (R : List ByteArray) (at_ first p k : Nat) : ∀ (a : List ByteArray) (j used : Nat), LayF R at_ first (k + j) (p + used) a → LayF R ((at_ + p) % R.length) ((first + k) % 18446744073709551616) j used a
  | [], _, _, _ => trivial
  | s :: a, j, used, h => by
    rw [lay_cons] at h ⊢
    refine ⟨h.1, by omega, fun i hi => ?_, lay_shift R at_ first p k a _ _ ?_⟩
    · rw [rg_mod, show at_ + p + (used + i) = at_ + (p + used + i) by omega, h.2.2.1 i hi, Nat.mod_add_mod, Nat.add_assoc]
    · rw [← Nat.add_assoc, ← Nat.add_assoc]; exact h.2.2.2
theorem goP_lay {R : List ByteArray} (hR : ∀ s ∈ R, s.size = 64) (h1 : 1 ≤ R.length) (at_ first most : Nat) : ∀ f acc used, used ≤ R.length → acc.length ≤ most →
    ∃ ts, (goP (stR R) R.length at_ first most f acc used).1 = acc ++ ts ∧ (goP (stR R) R.length at_ first most f acc used).2 = used + needs ts ∧ LayF R at_ first acc.length used ts ∧ acc.length + ts.length ≤ most
  | 0, acc, used, _, hm => ⟨[], by unfold goP; simp, by unfold goP; rfl, trivial, hm⟩
  | f + 1, acc, used, hu, hm => by
    unfold goP
    split
    · exact ⟨[], by simp, rfl, trivial, hm⟩
    · rename_i h2
      split
      · exact ⟨[], by simp, rfl, trivial, hm⟩
      · rename_i h3
        obtain ⟨k1, k2, k3, k4⟩ := stR_inv hR h1 h3
        generalize stR R ((at_ + used) % R.length) (R.length - used) ((first + acc.length) % 18446744073709551616) = st at *
        have hne : ¬ acc.length = most := fun h => h2 (.inl h)
        rw [k1]
        obtain ⟨ts, e1, e2, e3, e4⟩ := goP_lay hR h1 at_ first most f (acc ++ [st.1]) (used + needN st.1) (by omega) (by rw [List.length_append]; show acc.length + 1 ≤ most; omega)
        refine ⟨st.1 :: ts, by rw [e1, List.append_assoc]; rfl, by rw [e2, needs_cons, Nat.add_assoc], ?_, by rw [List.length_append] at e4; rw [List.length_cons]; simp only [List.length_cons, List.length_nil] at e4; omega⟩
        rw [lay_cons]
        refine ⟨k2, by omega, fun i hi => ?_, ?_⟩
        · rw [← Nat.add_assoc, ← rg_mod]; exact k4 i hi
        · rw [List.length_append] at e3; exact e3
theorem goP_pre {R : List ByteArray} (hR : ∀ s ∈ R, s.size = 64) (h1 : 1 ≤ R.length) (at_ first most : Nat) : ∀ (ts : List ByteArray) f acc used, used ≤ R.length → R.length - used < f → LayF R at_ first acc.length used ts → acc.length + ts.length ≤ most →
    ∃ more, (goP (stR R) R.length at_ first most f acc used).1 = acc ++ ts ++ more ∧ (goP (stR R) R.length at_ first most f acc used).2 = used + needs (ts ++ more)
  | [], f, acc, used, hu, hf, _, hm => by
    obtain ⟨more, e1, e2, _, _⟩ := goP_lay hR h1 at_ first most f acc used hu hm
    exact ⟨more, by rw [e1, List.append_nil], by rw [e2]; rfl⟩
  | s :: ts, 0, acc, used, hu, hf, _, _ => by omega
  | s :: ts, f + 1, acc, used, hu, hf, hl, hm => by
    rw [lay_cons] at hl
    obtain ⟨l1, l2, l3, l4⟩ := hl
    have hp := need_pos s
    rw [List.length_cons] at hm
    unfold goP
    have hst : stR R ((at_ + used) % R.length) (R.length - used) ((first + acc.length) % 18446744073709551616) = (s, needN s) :=
      stR_some hR h1 l1 (by omega) (fun i hi => by rw [rg_mod, Nat.add_assoc]; exact l3 i hi)
    rw [if_neg (by omega), hst, if_neg (by show ¬ needN s = 0; omega)]
    obtain ⟨more, e1, e2⟩ := goP_pre hR h1 at_ first most ts f (acc ++ [s]) (used + needN s) l2 (by omega) (by rw [List.length_append]; exact l4) (by rw [List.length_append]; show acc.length + 1 + ts.length ≤ most; omega)
    exact ⟨more, by rw [e1]; simp, by rw [e2, List.cons_append, needs_cons]; omega⟩
theorem found_lay {R : List ByteArray} (hR : ∀ s ∈ R, s.size = 64) (h1 : 1 ≤ R.length) (at_ first most : Nat) :
    LayF R at_ first 0 0 (found R at_ first most).1 ∧ (found R at_ first most).2 = needs (found R at_ first most).1 ∧ (found R at_ first most).1.length ≤ most ∧ needs (found R at_ first most).1 ≤ R.length := by
  obtain ⟨ts, e1, e2, e3, e4⟩ := goP_lay hR h1 at_ first most (R.length + 1) [] 0 (Nat.zero_le _) (Nat.zero_le _)
  unfold found foundP
  rw [e1, e2, List.nil_append, Nat.zero_add]
  refine ⟨e3, rfl, by simpa using e4, ?_⟩
  have := lay_used R at_ first ts 0 0 (Nat.zero_le _) e3
  omega
theorem found_pre {R : List ByteArray} (hR : ∀ s ∈ R, s.size = 64) (h1 : 1 ≤ R.length) {at_ first most : Nat} {ts : List ByteArray} (hl : LayF R at_ first 0 0 ts) (hm : ts.length ≤ most) :
    ∃ more, (found R at_ first most).1 = ts ++ more ∧ (found R at_ first most).2 = needs (ts ++ more) := by
  obtain ⟨more, e1, e2⟩ := goP_pre hR h1 at_ first most ts (R.length + 1) [] 0 (Nat.zero_le _) (by omega) hl (by simpa using hm)
  unfold found foundP
  exact ⟨more, by rw [e1]; rfl, by rw [e2, Nat.zero_add]⟩
theorem found_all {R : List ByteArray} (hR : ∀ s ∈ R, s.size = 64) (h1 : 1 ≤ R.length) {at_ first : Nat} {ts : List ByteArray} (hl : LayF R at_ first 0 0 ts) :
    found R at_ first ts.length = (ts, needs ts) := by
  obtain ⟨more, e1, e2⟩ := found_pre hR h1 hl (Nat.le_refl _)
  have h := (found_lay hR h1 at_ first ts.length).2.2.1
  rw [e1, List.length_append] at h
  obtain rfl : more = [] := List.eq_nil_of_length_eq_zero (by omega)
  rw [List.append_nil] at e1 e2
  exact Prod.ext e1 e2
theorem lay_same {R S : List ByteArray} (at_ first : Nat) (hn : S.length = R.length) : ∀ (a : List ByteArray) (j used : Nat), (∀ p, used ≤ p → p < used + needs a → rg S (at_ + p) = rg R (at_ + p)) → LayF R at_ first j used a → LayF S at_ first j used a
  | [], _, _, _, _ => trivial
  | s :: a, j, used, hp, h => by
    rw [lay_cons] at h ⊢
    rw [needs_cons] at hp
    refine ⟨h.1, by omega, fun i hi => by rw [hp (used + i) (by omega) (by omega)]; exact h.2.2.1 i hi, lay_same at_ first hn a _ _ (fun p h2 h3 => hp p (by omega) (by omega)) h.2.2.2⟩
end Go.Proofs.Ytcbfnfggnocndaa
end

section
namespace Go.Proofs.Ytcbfnfggnocndaa.X
open Go.RowKit Go.Proofs.YtcbfnfggnocndaaW.PrintWords Go.Proofs.YtcbfnfggnocndaaW.PrintLast Go.Proofs.YtcbfnfggnocndaaW.PrintMore
open Go.Proofs.Ytcbfnfggnocndaa.Q
attribute [local go_sem] max2_int min2_int max_two min_two max_three min_three max_four min_four   -- for this text's walks alone
attribute [local go_sem high] Go.Proofs.Ytcbfnfggnocndaa.px_xor_u8 Go.Proofs.Ytcbfnfggnocndaa.px_xor_u16 Go.Proofs.Ytcbfnfggnocndaa.px_xor_u32 Go.Proofs.Ytcbfnfggnocndaa.px_xor_u64
def errW : Option Int → Value
  | none => .nilIface
  | some c => .iface 0 (.int .i64 c)
theorem errW_none : errW none = .nilIface := rfl
theorem errW_some (c : Int) : errW (some c) = .iface 0 (.int .i64 c) := rfl
theorem info5 : (Try.prog.info? 5).map (fun i => (i.zero, i.size, i.bytes)) = some (some (.int .u8 0), 1, 1) := by kernel_rfl
theorem info9 : (Try.prog.info? 9).map (fun i => (i.zero, i.size, i.bytes)) = some (some (.string ⟨#[]⟩), 1, 16) := by kernel_rfl
end Go.Proofs.Ytcbfnfggnocndaa.X
end
