import Derived.Test.YtcbfnfggnocndaaZRedoRecords23
import Derived.Test.YtcbfnfggnocndaaZRedoRecords22
import Derived.Test.YtcbfnfggnocndaaRows
import Derived.Test.YtcbfnfggnocndaaZRedoRecords1
import Derived.ProofKit
import Derived.SizedLaws
section
/- Layer 5, walked: Append in full. -/
set_option linter.unusedVariables false
set_option linter.unusedSimpArgs false
namespace Go.Proofs.Ytcbfnfggnocndaa
open Go.RowKit Go.Shelf Go.Proofs.Ytcbfnfggnocndaa.Q Go.Proofs.YtcbfnfggnocndaaW.PrintWords Go.Proofs.YtcbfnfggnocndaaW.PrintLast Go.Proofs.YtcbfnfggnocndaaW.PrintMore Math
attribute [local go_sem] Oper.semAt_some

theorem ownFrom_obj {β : Type} (B b : Nat) (t : TypeId) (cs : Array Value) (fr : Nat × Nat) : OwnFrom B (fun (_ : β) W => W.heap[b]? = some (.cells cs t fr)) := fun s X Y row hs hg hrow =>
  blk_grown hs hg (fun e' => by obtain ⟨_, o, ho, hc⟩ := hrow b e'.symm; rw [hs] at ho; cases ho; cases hc)
/-- A value is appended to a row whose slice lies in a box ahead of it. -/
theorem boxed_appended {W w1 : World} {n₀ B : Nat} {t e : TypeId} {v v' : Value} {k m : Nat} {xs ys : List Value} {tmp : Obj}
    (hv : Boxed W B t v) (hte : t ≠ e) (hrow : W.ownsRow n₀ e 1 v k xs) (hn₀ : n₀ ≤ W.heap.size) (hown' : w1.ownsRow n₀ e 1 v' m ys) (hgrow : (W.alloc tmp).grownBy w1 v.ownBlock) :
    Boxed w1 B t v ∧ Boxed (w1.setCell ⟨B, 0, none⟩ v') B t v' ∧ (w1.setCell ⟨B, 0, none⟩ v').ownsRow n₀ e 1 v' m ys ∧ KeepsOthers W (w1.setCell ⟨B, 0, none⟩ v') ∧ Q.KeepX n₀ B W (w1.setCell ⟨B, 0, none⟩ v') := by
  obtain ⟨h1, h2, _, h4, _⟩ := Boxed.appended hv hte (own_weaken hrow (Nat.zero_le _)) (Nat.zero_le _) (Nat.zero_le _) (own_weaken hown' (Nat.zero_le _)) hgrow
  refine ⟨h1, h2, hown'.kept (grownBy_setCell' w1 B v') (.inr (h1.not_row hte hown').symm), h4, ?_⟩
  have hb : Below n₀ W w1 := ((Below.refl n₀ W).alloc hn₀ tmp).grown hgrow (by rw [World.size_alloc]; omega) (fun k hk => own_base hrow k hk)
  exact (show Q.KeepX n₀ B W w1 from ⟨hb.size, fun b h _ => hb.block b h⟩).trans (Q.KeepX.set w1 0 v')
/-- The pieces of a text, of 64 bytes each. -/
def pieceS (r : ByteArray) (j : Nat) : ByteArray := ⟨((r.data.toList.drop (64 * j)).take 64).toArray⟩
def pieces (r : ByteArray) : List ByteArray := (List.range ((r.size + 63) / 64)).map (pieceS r)
theorem pieces_len (r : ByteArray) : (pieces r).length = (r.size + 63) / 64 := by unfold pieces; rw [List.length_map, List.length_range]
theorem piece_size (r : ByteArray) (j : Nat) : (pieceS r j).size ≤ 64 := by unfold pieceS; rw [pbsz, List.length_take]; omega
theorem strOf_bytes (s : ByteArray) : strOfNums (bytesOf s) = s := by
  apply inj
  rw [nums_dl]
  unfold bytesOf
  rw [List.map_map]
  conv => rhs; rw [← List.map_id s.data.toList]
  apply List.map_congr_left
  intro x _
  simp
theorem piece_get (r : ByteArray) (x i : Nat) (h : i < min 64 (r.size - 64 * x)) : (bytesOf (pieceS r x)).getD i 0 = ((r.data.toList.getD (64 * x + i) 0).toNat : Int) := by
  have h2 : 64 * x + i < r.data.toList.length := by rw [← sz]; omega
  unfold bytesOf
  rw [show (pieceS r x).data.toList = (r.data.toList.drop (64 * x)).take 64 from rfl, List.getD_eq_getElem?_getD, List.getElem?_map, List.getElem?_take, if_pos (by omega), List.getElem?_drop, List.getElem?_eq_getElem h2, List.getD_eq_getElem?_getD, List.getElem?_eq_getElem h2]
  rfl
def pcsV (r : ByteArray) (pre : List Nat) : List Value := pre.map fun j => Value.string (pieceS r j)
theorem pcsV_len (r : ByteArray) (pre : List Nat) : (pcsV r pre).length = pre.length := List.length_map _
theorem ap_set {w7 W8 : World} {b : Nat} {d0 d1 d2 x y z k0 k1 k2 k3 u m e0 e1 e2 f0 f1 f2 f3 : Value} (hd : w7.heap[b]? = some (.cells #[d0, d1, d2] 25 (0, 0))) (hl : LogBox w7 (b + 1 + 1) k0 k1 k2 k3) (hr : DskBox w7 (b + 1 + 1 + 1) e0 e1 e2) (hs : LogBox w7 (b + 1 + 1 + 1 + 1) f0 f1 f2 f3)
    (hW : W8 = ((((w7.setCell ⟨b, 0, none⟩ x).setCell ⟨b, 1, none⟩ y).setCell ⟨b, 2, none⟩ z).setCell ⟨b + 1 + 1, 1, none⟩ u).setCell ⟨b + 1 + 1, 3, none⟩ m) :
    DskBox W8 b x y z ∧ LogBox W8 (b + 1 + 1) k0 u k2 m ∧ DskBox W8 (b + 1 + 1 + 1) e0 e1 e2 ∧ LogBox W8 (b + 1 + 1 + 1 + 1) f0 f1 f2 f3 ∧ (∀ k, k ≠ b → k ≠ b + 1 + 1 → W8.heap[k]? = w7.heap[k]?) ∧ W8.heap.size = w7.heap.size ∧ (∀ (B : Nat) (w : World), B ≤ b → Below B w w7 → Below B w W8) := by
  have hall : ∀ k, k ≠ b → k ≠ b + 1 + 1 → W8.heap[k]? = w7.heap[k]? := fun k h1 h2 => by
    rw [hW, heap_setCell_other _ ⟨b + 1 + 1, 3, none⟩ k _ h2, heap_setCell_other _ ⟨b + 1 + 1, 1, none⟩ k _ h2, heap_setCell_other _ ⟨b, 2, none⟩ k _ h1, heap_setCell_other _ ⟨b, 1, none⟩ k _ h1, heap_setCell_other _ ⟨b, 0, none⟩ k _ h1]
  refine ⟨?_, ?_, (hall _ (by omega) (by omega)).trans hr, (hall _ (by omega) (by omega)).trans hs, hall, by rw [hW]; simp [World.setCell], fun B w hB h => by rw [hW]; exact ((((h.setCell (p := ⟨b, 0, none⟩) hB _).setCell (p := ⟨b, 1, none⟩) hB _).setCell (p := ⟨b, 2, none⟩) hB _).setCell (p := ⟨b + 1 + 1, 1, none⟩) (show B ≤ b + 1 + 1 by omega) _).setCell (p := ⟨b + 1 + 1, 3, none⟩) (show B ≤ b + 1 + 1 by omega) _⟩
  · unfold DskBox
    rw [hW, heap_setCell_other _ ⟨b + 1 + 1, 3, none⟩ b _ (show b ≠ b + 1 + 1 by omega), heap_setCell_other _ ⟨b + 1 + 1, 1, none⟩ b _ (show b ≠ b + 1 + 1 by omega)]
    exact set3 hd
  · unfold LogBox
    rw [hW]
    refine heap_setCell_same _ (b + 1 + 1) 3 #[k0, u, k2, k3] _ m (heap_setCell_same _ (b + 1 + 1) 1 #[k0, k1, k2, k3] _ u ?_)
    rw [heap_setCell_other _ ⟨b, 2, none⟩ (b + 1 + 1) _ (show b + 1 + 1 ≠ b by omega), heap_setCell_other _ ⟨b, 1, none⟩ (b + 1 + 1) _ (show b + 1 + 1 ≠ b by omega), heap_setCell_other _ ⟨b, 0, none⟩ (b + 1 + 1) _ (show b + 1 + 1 ≠ b by omega)]
    exact hl
theorem ap_fin {W8 W9 : World} {b : Nat} {x y z u0 u1 u2 u3 e0 e1 e2 f0 f1 f2 f3 : Value} (hr : DskBox W8 (b + 1 + 1 + 1) e0 e1 e2) (hs : LogBox W8 (b + 1 + 1 + 1 + 1) f0 f1 f2 f3)
    (hW : W9 = (((((((W8.setCell ⟨b + 1 + 1 + 1, 0, none⟩ x).setCell ⟨b + 1 + 1 + 1, 1, none⟩ y).setCell ⟨b + 1 + 1 + 1, 2, none⟩ z).setCell ⟨b + 1 + 1 + 1 + 1, 0, none⟩ u0).setCell ⟨b + 1 + 1 + 1 + 1, 1, none⟩ u1).setCell ⟨b + 1 + 1 + 1 + 1, 2, none⟩ u2).setCell ⟨b + 1 + 1 + 1 + 1, 3, none⟩ u3).drew) :
    DskBox W9 (b + 1 + 1 + 1) x y z ∧ LogBox W9 (b + 1 + 1 + 1 + 1) u0 u1 u2 u3 ∧ (∀ k, k ≠ b + 1 + 1 + 1 → k ≠ b + 1 + 1 + 1 + 1 → W9.heap[k]? = W8.heap[k]?) ∧ W9.heap.size = W8.heap.size ∧ (∀ (B : Nat) (w : World), B ≤ b → Below B w W8 → Below B w W9) := by
  obtain ⟨V, hV⟩ : ∃ V, V = ((((((W8.setCell ⟨b + 1 + 1 + 1, 0, none⟩ x).setCell ⟨b + 1 + 1 + 1, 1, none⟩ y).setCell ⟨b + 1 + 1 + 1, 2, none⟩ z).setCell ⟨b + 1 + 1 + 1 + 1, 0, none⟩ u0).setCell ⟨b + 1 + 1 + 1 + 1, 1, none⟩ u1).setCell ⟨b + 1 + 1 + 1 + 1, 2, none⟩ u2).setCell ⟨b + 1 + 1 + 1 + 1, 3, none⟩ u3 := ⟨_, rfl⟩
  rw [← hV] at hW
  have hh : W9.heap = V.heap := by rw [hW]; rfl
  have hall : ∀ k, k ≠ b + 1 + 1 + 1 → k ≠ b + 1 + 1 + 1 + 1 → V.heap[k]? = W8.heap[k]? := fun k h1 h2 => by
    rw [hV, heap_setCell_other _ ⟨b + 1 + 1 + 1 + 1, 3, none⟩ k _ h2, heap_setCell_other _ ⟨b + 1 + 1 + 1 + 1, 2, none⟩ k _ h2, heap_setCell_other _ ⟨b + 1 + 1 + 1 + 1, 1, none⟩ k _ h2, heap_setCell_other _ ⟨b + 1 + 1 + 1 + 1, 0, none⟩ k _ h2, heap_setCell_other _ ⟨b + 1 + 1 + 1, 2, none⟩ k _ h1, heap_setCell_other _ ⟨b + 1 + 1 + 1, 1, none⟩ k _ h1, heap_setCell_other _ ⟨b + 1 + 1 + 1, 0, none⟩ k _ h1]
  refine ⟨?_, ?_, fun k h1 h2 => by rw [hh]; exact hall k h1 h2, by rw [hh, hV]; simp [World.setCell], fun B w hB h => by
    have k1 : B ≤ b + 1 + 1 + 1 := by omega
    have k2 : B ≤ b + 1 + 1 + 1 + 1 := by omega
    rw [hW, hV]; exact below_drew (((((((h.setCell (p := ⟨b + 1 + 1 + 1, 0, none⟩) k1 _).setCell (p := ⟨b + 1 + 1 + 1, 1, none⟩) k1 _).setCell (p := ⟨b + 1 + 1 + 1, 2, none⟩) k1 _).setCell (p := ⟨b + 1 + 1 + 1 + 1, 0, none⟩) k2 _).setCell (p := ⟨b + 1 + 1 + 1 + 1, 1, none⟩) k2 _).setCell (p := ⟨b + 1 + 1 + 1 + 1, 2, none⟩) k2 _).setCell (p := ⟨b + 1 + 1 + 1 + 1, 3, none⟩) k2 _)⟩
  · unfold DskBox
    have h1 : b + 1 + 1 + 1 ≠ b + 1 + 1 + 1 + 1 := by omega
    rw [hh, hV, heap_setCell_other _ ⟨b + 1 + 1 + 1 + 1, 3, none⟩ _ _ h1, heap_setCell_other _ ⟨b + 1 + 1 + 1 + 1, 2, none⟩ _ _ h1, heap_setCell_other _ ⟨b + 1 + 1 + 1 + 1, 1, none⟩ _ _ h1, heap_setCell_other _ ⟨b + 1 + 1 + 1 + 1, 0, none⟩ _ _ h1]
    exact set3 hr
  · unfold LogBox
    have h1 : b + 1 + 1 + 1 + 1 ≠ b + 1 + 1 + 1 := by omega
    rw [hh, hV]
    refine heap_setCell_same _ _ 3 #[u0, u1, u2, f3] _ u3 (heap_setCell_same _ _ 2 #[u0, u1, f2, f3] _ u2 (heap_setCell_same _ _ 1 #[u0, f1, f2, f3] _ u1 (heap_setCell_same _ _ 0 #[f0, f1, f2, f3] _ u0 ?_)))
    rw [heap_setCell_other _ ⟨b + 1 + 1 + 1, 2, none⟩ _ _ h1, heap_setCell_other _ ⟨b + 1 + 1 + 1, 1, none⟩ _ _ h1, heap_setCell_other _ ⟨b + 1 + 1 + 1, 0, none⟩ _ _ h1]
    exact hs
set_option maxHeartbeats 8000000 in
set_option maxRecDepth 1000000 in
theorem append_main (P0 P1 : Nat → Prop) (A0 : Option Addr) (c0 : Nat) (l0 : List ByteArray) (A1 : Option Addr) (c1 : Nat) (l1 : List S88) (fr mn at_ used first many : Nat) (s : ByteArray) (w : World)
    (hs0 : Kd.V Kd.string 9 w w.heap.size P0 (.slice A0 l0.length c0) l0) (hs1 : Kd.V k88 88 w w.heap.size P1 (.slice A1 l1.length c1) l1)
    (hm : 1 ≤ mn) (hfm : fr + mn ≤ l0.length) (hn0 : l0.length ≤ 1000000000) (hl1 : l1.length ≤ 100000000) (hss : s.size ≤ 4096) (hat : at_ ≤ 100000) (hmn : mn ≤ 100000) (hu : used + needN s ≤ mn) (hf : first < 18446744073709551616) (hmy : many ≤ 1000000000) :
    Calls Try.prog 13 #[.agg #[.slice A0 l0.length c0, .slice A1 l1.length c1, .bool false], .agg #[.int .i64 fr, .int .i64 mn], .agg #[.int .i64 at_, .int .i64 used, .int .u64 first, .int .i64 many], .string s] w fun e w' => ∃ v0 v1,
      e = .returned (.tuple #[.agg #[v0, v1, .bool false], .agg #[.int .i64 at_, .int .i64 ((used + needN s : Nat) : Int), .int .u64 first, .int .i64 ((many + 1 : Nat) : Int)], .int .i64 0]) ∧
      Kd.V Kd.string 9 w' w.heap.size (fun k => (P0 k ∨ P1 k) ∨ w.heap.size ≤ k) v0 l0 ∧ Kd.V k88 88 w' w.heap.size (fun k => (P0 k ∨ P1 k) ∨ w.heap.size ≤ k) v1 (l1 ++ laidP fr mn (at_ + used) 0 (pieces (recS ((first + many) % 18446744073709551616) s))) ∧ Below w.heap.size w w' := by
  obtain ⟨W1, hW1⟩ : ∃ W1, W1 = ((((w.alloc (.cells #[.slice A0 l0.length c0, .slice A1 l1.length c1, .bool false] 25)).alloc (.cells #[.int .i64 fr, .int .i64 mn] 27)).alloc (.cells #[.int .i64 at_, .int .i64 used, .int .u64 first, .int .i64 many] 30)).alloc (.cells #[.slice none 0 0, .slice none 0 0, .bool false] 25)).alloc (.cells #[.int .i64 0, .int .i64 0, .int .u64 0, .int .i64 0] 30) := ⟨_, rfl⟩
  obtain ⟨hx, hl, hd, hg, hz⟩ := ap5_new w _ _ _ _ _ _ _ _ _ W1 hW1
  have HX := Lib.hid hx; have HL := Lib.hid hl; have HD := Lib.hid hd; have HG := Lib.hid hg; have HW1 := Lib.hid hW1; have HZ := Lib.hid hz
  have HS0 := Lib.hid hs0; have HS1 := Lib.hid hs1
  have g1 : decide ((4096 : Int) < (s.size : Int)) = false := decide_eq_false (by omega)
  have g1n : decide (4096 < s.size) = false := decide_eq_false (by omega)
  have hnc := need_V s 9 (Nat.le_refl _) (by omega)
  have hNC := V.redo_Need.calls 9 s _ W1 hnc
  obtain ⟨N, hN⟩ : ∃ N, N = (first + many) % 18446744073709551616 := ⟨_, rfl⟩
  have hrec := record_eq N 9 s (Nat.le_refl _) (by omega)
  have hRC := fun W => V.redo_Record.calls 9 _ s _ W hrec
  have hrz := recS_size N s
  have hnd := needN_eq N s
  have h10 := numS_size10 (show s.size < 18446744073709551616 by omega)
  obtain ⟨rc, hrc⟩ : ∃ rc, rc = recS N s := ⟨_, rfl⟩
  rw [← hrc] at hRC hrz hnd
  obtain ⟨nd, hnd2⟩ : ∃ nd, nd = needN s := ⟨_, rfl⟩
  rw [← hnd2] at hNC hnd hu
  have g2 : decide ((mn : Int) < wrap64 ((used : Int) + (nd : Int))) = false := by rw [w64 (n := (used : Int) + (nd : Int)) (by omega) (by omega)]; exact decide_eq_false (by omega)
  have hu0 : IntKind.u64.wrap (many : Int) = (many : Int) := u64_in (by omega)
  have hu1 : IntKind.u64.wrap ((first : Int) + (many : Int)) = (N : Int) := by rw [u64_add, hN]
  have hrs : rc.size ≤ 5000 := by omega
  have HNP : Hid (12 ≤ rc.size) := Lib.hid (by omega)
  rw [← hN, ← hrc, ← hnd2]
  have HNC := Lib.hid hNC; have HRC := Lib.hid hRC; have HN := Lib.hid hN; have HRCE := Lib.hid hrc; have HND := Lib.hid hnd; have HND2 := Lib.hid hnd2; have HRS := Lib.hid hrs
  clear hs0 hs1 hx hl hd hg hz hW1 hnc hNC hN hrec hRC hrz hnd h10 hrc hnd2 hrs
  refine (callsIn_wide (n := 6)).1 ?_
  refine callsIn_of_wp_marks Try.func13 rfl trivial ?_ rfl
  simp only [Try.ntmps13, List.size_toArray, List.length_cons, List.length_nil, Nat.reduceAdd, Nat.reduceSub, Array.replicate_succ, Array.replicate_zero, List.push_toArray, List.append_toArray, List.nil_append, List.cons_append]
  gi_wp2_with fail
  rw [← HW1.out]
  refine ⟨trivial, (callsIn_wide.2 HNC.out).mono ?_⟩
  rintro e w2 ⟨rfl, hb2⟩
  have hx2 := HX.out.step hb2; have hl2 := HL.out.step hb2
  have hd2 : DskBox w2 _ _ _ _ := (hb2.block _ (blk_lt HD.out)).trans HD.out
  have hg2 : LogBox w2 _ _ _ _ _ := (hb2.block _ (blk_lt HG.out)).trans HG.out
  have hz2 : w.heap.size + 5 ≤ w2.heap.size := by have := hb2.size; have := HZ.out; omega
  obtain ⟨W3, hW3⟩ : ∃ W3, W3 = w2.alloc (.cells #[.slice none 0 0] 22) := ⟨_, rfl⟩
  have b3 := (Below.refl w2.heap.size w2).alloc (Nat.le_refl _) (.cells #[.slice none 0 0] 22)
  have ho3 : Boxed W3 w2.heap.size 22 (.slice none 0 0) := by rw [hW3]; exact heap_alloc_new w2 _
  have hz3 : W3.heap.size = w2.heap.size + 1 := by rw [hW3, World.size_alloc]
  rw [← hW3] at b3
  have hx3 := hx2.step b3; have hl3 := hl2.step b3
  have q2 := hl3.l2; have q3 := hl3.l3; have r1 := hx2.r1; have p1 := hl2.l1
  rw [hW3] at q2 q3
  have HW3 := Lib.hid hW3; have HX2 := Lib.hid hx2; have HL2 := Lib.hid hl2; have HD2 := Lib.hid hd2; have HG2 := Lib.hid hg2; have HZ2 := Lib.hid hz2; have HO3 := Lib.hid ho3; have HZ3 := Lib.hid hz3; have HB3 := Lib.hid b3
  clear hx2 hl2 hd2 hg2 hz2 hW3 b3 ho3 hz3 hx3 hl3 HNC hb2 HX HL HD HG HZ
  gi_wp2_with fail
  rw [← HW3.out]
  refine ⟨trivial, (callsIn_wide.2 (HRC.out _)).mono ?_⟩
  rintro e w4 ⟨rfl, hb4⟩
  have HB4 := Lib.hid hb4
  have kb := print_bytes (P := Try.prog) 9 71 5 Try.underlying9 Try.underlying71 Try.underlying5 rc w4
  obtain ⟨cap, hcapd⟩ : ∃ cap, cap = grownCap w4 rc.size 0 5 := ⟨_, rfl⟩
  have hge : rc.size ≤ cap := by rw [hcapd]; exact grownCap_ge _ _ _ _
  rw [← hcapd] at kb
  have HGE := Lib.hid hge
  clear hb4 hcapd hge q2 q3 r1 p1 hu0 hu1 g2 HRC
  gi_wp2_with fail
  refine ⟨trivial, (callsIn_wide.2 (Q.chunk_calls _ _ _ _)).mono ?_⟩
  rintro e w6 ⟨rfl, hw6⟩
  have HW6 := Lib.hid hw6
  clear kb hw6
  gi_wp2_with fail
  obtain ⟨W5, hW5⟩ : ∃ W5, W5 = Lib.bytesWorld w4 5 rc := ⟨_, rfl⟩
  have hw6 := HW6.out
  obtain ⟨b5, hb5⟩ : ∃ b5, b5 = W5.heap.size := ⟨_, rfl⟩
  rw [← hW5] at hw6 ⊢
  rw [← hb5]
  have z5 := Lib.bytesWorld_size w4 5 rc
  have hb45 := bytes_below (Below.refl w4.heap.size w4) (Nat.le_refl _) 5 rc
  have hC5 := Lib.bytesWorld_at_new w4 5 rc
  have hcl := fun j hj => bw_cell w4 5 rc j hj
  rw [← hW5] at z5 hb45 hC5
  obtain ⟨C, hCd⟩ : ∃ C, C = Lib.bytesCells w4 5 rc := ⟨_, rfl⟩
  rw [← hCd] at hC5
  have hb56 : Below W5.heap.size W5 w6 := by rw [hw6]; exact ((Below.refl _ W5).alloc (Nat.le_refl _) _).alloc (by rw [World.size_alloc]; omega) _
  have z6 : w6.heap.size = b5 + 2 := by rw [hw6, World.size_alloc, World.size_alloc, hb5]
  have hBs : w6.heap[b5]? = some (.cells #[.slice (some ⟨w4.heap.size, 0, none⟩) rc.size cap] 71 (0, 0)) := by
    rw [hw6, Below.heap_alloc _ _ _ (by rw [World.size_alloc]; omega), hb5]; exact heap_alloc_new W5 _
  have hBn : w6.heap[b5 + 1]? = some (.cells #[.int .i64 64] 3 (0, 0)) := by
    rw [hw6, hb5, ← World.size_alloc W5 (.cells #[.slice (some ⟨w4.heap.size, 0, none⟩) rc.size cap] 71)]; exact heap_alloc_new _ _
  have z4 := HB4.out.size
  have z3 := HZ3.out
  have zw := HZ2.out
  have hC6 : w6.heap[w4.heap.size]? = some _ := (hb56.block _ (by omega)).trans hC5
  have hb26 : Below w2.heap.size w2 w6 := by
    have h1 : Below w2.heap.size w2 W3 := by rw [HW3.out]; exact (Below.refl _ w2).alloc (Nat.le_refl _) _
    exact ((h1.trans (HB4.out.mono (by omega))).trans (hb45.mono (by omega))).trans (hb56.mono (by omega))
  have ho6 : Boxed w6 w2.heap.size 22 (.slice none 0 0) := by
    have h1 : W3.heap[w2.heap.size]? = _ := HO3.out
    exact (hb56.block _ (by omega)).trans ((hb45.block _ (by omega)).trans ((HB4.out.block _ (by omega)).trans h1))
  have hcc : ∀ (W : World), W.heap[w4.heap.size]? = w6.heap[w4.heap.size]? → ∀ j, j < rc.size → W.cell? ⟨w4.heap.size, j, none⟩ = some (.int .u8 ((rc.data.toList.getD j 0).toNat : Int)) := by
    intro W hW j hj
    rw [← hcl j hj, ← hW5]
    exact World.cell?_of_block (a := ⟨w4.heap.size, j, none⟩) (hW.trans (hb56.block _ (by omega)))
  have HCC := Lib.hid hcc; have HC6 := Lib.hid hC6; have HB26 := Lib.hid hb26; have HO6 := Lib.hid ho6; have HBS := Lib.hid hBs; have HBN := Lib.hid hBn
  have hrs := HRS.out
  have HZZ : Hid (b5 = w4.heap.size + 1 ∧ w6.heap.size = b5 + 2 ∧ w2.heap.size + 1 ≤ w4.heap.size ∧ w.heap.size + 5 ≤ w2.heap.size) := Lib.hid ⟨by omega, z6, by omega, zw⟩
  have HW5 := Lib.hid hW5; have HB5 := Lib.hid hb5
  clear hw6 hb45 hC5 hcl hb56 hcc hC6 hb26 ho6 hBs hBn hCd hW5 hb5 z5 z6 z4 z3 zw
  refine wpIn_rangeFunc_ownH rfl (by omega) (gf := 49) (lb := #[.pointer (some ⟨b5, 0, none⟩), .pointer (some ⟨b5 + 1, 0, none⟩)]) rfl trivial (enters_of Try.func49 (by kernel_rfl) rfl)
    (encs := fun x : Nat => #[Q.pieceV w4.heap.size rc.size x]) (Kp := Q.KeepX w6.heap.size w2.heap.size) (S := fun ys => ys = List.range ((rc.size + 63) / 64)) (Sp := fun pre => ∃ k, k ≤ (rc.size + 63) / 64 ∧ pre = List.range k) (N := (rc.size + 63) / 64) (w0 := w6)
    (fun lp J Jx W hW hJ hJx hY h0 => Q.chunk1_in w4.heap.size rc.size cap _ rfl HGE.out (by omega) 5 (by omega) lp b5 (b5 + 1) w6.heap.size w2.heap.size w6 (Nat.le_refl _)
      (fun W hW => by rw [hW.cell (by have hzz := HZZ.out; omega) (by have hzz := HZZ.out; omega), blk_cell HBS.out]; rfl) (fun W hW => by rw [hW.cell (by have hzz := HZZ.out; omega) (by have hzz := HZZ.out; omega), blk_cell HBN.out]; rfl) J Jx W (Q.KeepX.below hW (Nat.le_refl _)) hJ hJx hY h0)
    (fun h k => Q.KeepX.trans h k) (fun W l o o' hl ho _ _ => Q.KeepX.put W l o o' hl ho) (Below.refl _ _) (fun _ => rfl)
    (fun pre W => (∃ v, Boxed W w2.heap.size 22 v ∧ W.ownsRow w6.heap.size 9 1 v (pcsV rc pre).length (pcsV rc pre) ∧ True) ∧ (W.heap[w4.heap.size]? = some (.cells C 5 (C.size, C.size + 1)) ∧ (Below w2.heap.size w2 W ∧ w6.heap.size ≤ W.heap.size)))
    (fun _ _ _ => False)
    (OwnFrom.and (Own.from (holdsRow_own w6.heap.size w2.heap.size 22 9 1 (fun pre => (pcsV rc pre).length) (fun pre => pcsV rc pre) (fun _ _ => True)) _) (OwnFrom.and (ownFrom_obj _ _ _ _ _) (OwnFrom.and (ownFrom_below (Nat.le_refl _) (by have hzz := HZZ.out; omega)) (fun _ _ _ _ hs hg _ => Nat.le_trans hs hg.size))))
    (fun _ _ _ _ _ hs _ _ => hs)
    ⟨⟨_, HO6.out, World.ownsRow_nil _ _ _ _, trivial⟩, HC6.out, HB26.out, Nat.le_refl _⟩
    (fun x a' W => a' = { tmps := #[Value.agg #[Value.slice A0 l0.length c0, Value.slice A1 l1.length c1, Value.bool false], Value.agg #[Value.int .i64 ↑fr, Value.int .i64 ↑mn], Value.agg #[Value.int .i64 ↑at_, Value.int .i64 ↑used, Value.int .u64 ↑first, Value.int .i64 ↑many], Value.string s, Value.pointer (some ⟨w.heap.size, 0, none⟩), Value.pointer (some ⟨w.heap.size + 1, 0, none⟩), Value.pointer (some ⟨w.heap.size + 1 + 1, 0, none⟩), undef, Value.pointer (some ⟨w.heap.size + 1 + 1 + 1, 0, none⟩), Value.pointer (some ⟨w.heap.size + 1 + 1 + 1 + 1, 0, none⟩), Value.int .i64 0, Value.int .i64 ↑nd, Value.pointer (some ⟨w2.heap.size, 0, none⟩), Q.pieceV w4.heap.size rc.size x, Value.bool false, Value.pointer (some ⟨w.heap.size, 2, none⟩), Value.bool false, undef, undef, Value.bool false, Value.string s, Value.int .i64 ↑s.size, Value.bool false, undef, undef, Value.string s, Value.int .i64 ↑nd, Value.pointer (some ⟨w.heap.size + 1 + 1, 1, none⟩), Value.int .i64 ↑used, Value.int .i64 ↑nd, Value.int .i64 (↑used + ↑nd), Value.pointer (some ⟨w.heap.size + 1, 1, none⟩), Value.int .i64 ↑mn, Value.bool (decide ((mn : Int) < ↑used + ↑nd)), undef, undef, Value.pointer (some ⟨w.heap.size + 1 + 1, 2, none⟩), Value.int .u64 ↑first, Value.pointer (some ⟨w.heap.size + 1 + 1, 3, none⟩), Value.int .i64 ↑many, Value.int .u64 ↑many, Value.int .u64 ↑N, Value.string s, Value.string rc, Value.slice (some ⟨w4.heap.size, 0, none⟩) rc.size cap, Value.func (Fn.func 49) #[] #[Value.pointer (some ⟨b5, 0, none⟩), Value.pointer (some ⟨b5 + 1, 0, none⟩)], Q.pieceV w4.heap.size rc.size x, undef, undef, undef, undef, undef, undef, undef, undef, undef, undef, undef, undef, undef, undef, undef, undef, undef, undef, undef, undef, undef, undef, undef, undef, undef], defers := [] })
    (fun x a' _ X Y row hs hg hrow => hs) ?assign ?body ?done ?stop
  case assign =>
    rintro lp pre x W K hi hK
    gi_wp2_with fail
    exact hK _ _ ((KeepsOthers.refl _).from _) (Q.KeepX.refl _ _ _) hi rfl
  case body =>
    rintro lp pre x a' W hl hr ⟨⟨v, hv, hrow, _⟩, hC, hB, hsz⟩ rfl hlt
    have hc := hv.cell
    obtain ⟨i0, hi, hz0, hz1, hz2⟩ := info_parts info_str5
    have hlp : (pcsV rc pre).length ≤ 1000000 := by rw [pcsV_len]; omega
    have hcv := run_convert_bytes_arg (P := Try.prog) W 71 5 Try.underlying71 Try.underlying5 w4.heap.size (64 * x) (min 64 (rc.size - 64 * x)) (min 64 (rc.size - 64 * x)) (bytesOf (pieceS rc x))
      (by rw [bytesOf_length, pieceS, pbsz, List.length_take, List.length_drop, ← sz])
      (fun i hi => by
        rw [HCC.out W (hC.trans HC6.out.symm) (64 * x + i) (by omega)]
        rw [piece_get rc x i hi]) 9 Try.underlying9
    rw [strOf_bytes] at hcv
    have HV := Lib.hid hv; have HRW := Lib.hid hrow; have HB := Lib.hid hB; have HC := Lib.hid hC
    clear hv hrow hB hC
    unfold Q.pieceV
    gi_wp2_with (gi_at_builtin; go_must (refine wpListIn_append_own _ rfl _ _ 22 rfl w6.heap.size 9 i0 _ 1 16 Try.underlying22 hi hz0 hz1 hz2 rfl (by decide) _ _ _ rfl (HRW.out.alloc _) ⟨W.heap.size, 0, none⟩ 1 1 [.string (pieceS rc x)] rfl rfl (cell_one_new _ _ _) (by simp [Value.oneCell']) (by unfold maxLen; omega) (by omega) (by rw [World.size_alloc]; omega) ?_); intro v' w1 hown' hgrow _; obtain ⟨g', cap', rfl⟩ := ownsRow_succ hown'; obtain ⟨hv1, hv2, hr2, hk2, hb2⟩ := boxed_appended HV.out (by decide) HRW.out hsz hown' hgrow; have hc1 := hv1.cell; have hf1 := hv1.frozen; have HV2 := Lib.hid hv2; have HR2 := Lib.hid hr2; have HK2 := Lib.hid hk2; have HB2 := Lib.hid hb2; have HG := Lib.hid hgrow; clear hv1 hv2 hr2 hk2 hb2 hown' hgrow)
    have e1 : pcsV rc (pre ++ [x]) = pcsV rc pre ++ [Value.string (pieceS rc x)] := by simp [pcsV]
    have e2 : (pcsV rc (pre ++ [x])).length = (pcsV rc pre).length + 1 := by simp [pcsV]
    refine ⟨HK2.out.from _, HB2.out, ⟨_, HV2.out, by rw [e2, e1]; exact HR2.out, trivial⟩, (HB2.out.2 _ (by have hzz := HZZ.out; omega) (by have hzz := HZZ.out; omega)).trans HC.out, ?_, Nat.le_trans hsz HB2.out.1⟩
    exact ((HB.out.alloc HB.out.size _).grown HG.out (by have := HB.out.size; rw [World.size_alloc]; omega) (fun k hk => by have := own_base HRW.out k hk; have hzz := HZZ.out; omega)).setCell (p := ⟨w2.heap.size, 0, none⟩) (Nat.le_refl _) _
  case done =>
    rintro D ys W hD rfl ⟨⟨v, hv, hrow, _⟩, hC, hB, hsz⟩ hK
    have hzz := HZZ.out
    have hxW := HX2.out.step hB; have hlW := HL2.out.step hB
    have hdW : DskBox W _ _ _ _ := (hB.block _ (by omega)).trans HD2.out
    have hgW : LogBox W _ _ _ _ _ := (hB.block _ (by omega)).trans HG2.out
    have hKr : (rc.size + 63) / 64 = (pieces rc).length := (pieces_len rc).symm
    have hKp : 0 < (pieces rc).length := by rw [pieces_len]; have := HND.out; have := HNP.out; omega
    have hR : Kd.R Kd.string 9 W w6.heap.size (fun _ => True) v (pieces rc) := Kd.R_of_own (by
      have e : pcsV rc (List.range ((rc.size + 63) / 64)) = (pieces rc).map Value.string := by unfold pcsV pieces; rw [List.map_map]; rfl
      rw [e, List.length_map] at hrow; exact hrow) (fun _ _ => trivial)
    obtain ⟨g, cap3, rfl, hle3, _, hg3, hrd⟩ := img_row hR hKp
    have ha0 : Kd.V Kd.string 9 W W.heap.size (fun k => P0 k ∧ k < w.heap.size) (.slice A0 l0.length c0) l0 := Kd.V_step (Kd.V_bound HS0.out) (fun k hk _ => hxW.b.block k hk.2)
    have ha1 : Kd.V k88 88 W W.heap.size (fun k => P1 k ∧ k < w.heap.size) (.slice A1 l1.length c1) l1 := Kd.V_step (Kd.V_bound HS1.out) (fun k hk _ => hxW.b.block k hk.2)
    have hlay := lay_calls _ _ A0 c0 l0 A1 c1 l1 fr mn (at_ + used) (some ⟨g, 0, none⟩) cap3 (pieces rc) W ha0 ha1 hrd (by rw [pieces_len]; omega) (fun s hs => by
      unfold pieces at hs
      obtain ⟨j, _, rfl⟩ := List.mem_map.1 hs
      exact piece_size rc j) hm hfm hn0 (by rw [pieces_len]; omega) (by omega)
    rw [show ((at_ + used : Nat) : Int) = (at_ : Int) + (used : Int) by omega] at hlay
    have hc := hv.cell
    rw [← hKr] at hlay hc
    have HLAY := Lib.hid hlay
    have c0 := hxW.c0; have c1 := hxW.c1; have c2 := hxW.c2; have r0 := hxW.r0; have r1 := hxW.r1; have p0 := hlW.l0; have p1 := hlW.l1
    have HXW := Lib.hid hxW; have HLW := Lib.hid hlW; have HDW := Lib.hid hdW; have HGW := Lib.hid hgW; have HK := Lib.hid hK; have HSZ := Lib.hid hsz; have HHD := Lib.hid hD
    clear hxW hlW hdW hgW hlay hR ha0 ha1 hrd hv hrow hC hB hsz hK hzz hD hKr hKp hle3 hg3
    gi_wp2_with fail
    refine ⟨trivial, (callsIn_wide.2 HLAY.out).mono ?_⟩
    rintro e w7 ⟨v0, v1, rfl, hv0, hv1, hb7⟩
    obtain ⟨LN, hLN⟩ : ∃ LN, LN = l1 ++ laidP fr mn (at_ + used) 0 (pieces rc) := ⟨_, rfl⟩
    rw [← hLN] at hv1
    have HLN := Lib.hid hLN
    obtain ⟨B2, d2, rfl⟩ := Kd.V_slice hv0
    obtain ⟨B3, d3, rfl⟩ := Kd.V_slice hv1
    have hx7 := HXW.out.step hb7
    have hl7 : LogBox w7 (w.heap.size + 1 + 1) _ _ _ _ := (HLW.out.step hb7).l
    have hd7 : DskBox w7 _ _ _ _ := (hb7.block _ (blk_lt HDW.out)).trans HDW.out
    have hg7 : LogBox w7 _ _ _ _ _ := (hb7.block _ (blk_lt HGW.out)).trans HGW.out
    have hK7 := (hb7.block _ (blk_lt HK.out)).trans HK.out
    have hD7 : w.heap.size + 5 ≤ D := by have h1 := HZZ.out; have h2 := HHD.out; omega
    have hW7 : w.heap.size + 5 ≤ W.heap.size := by have h1 := HZZ.out; have h2 := HSZ.out; omega
    have HDW8 : Hid (D < W.heap.size) := Lib.hid (blk_lt HK.out)
    have HK7 := Lib.hid hK7; have HD7 := Lib.hid hD7; have HW7 := Lib.hid hW7; have HV0 := Lib.hid hv0; have HV1 := Lib.hid hv1; have HX7 := Lib.hid hx7
    have HL7 := Lib.hid hl7; have HDD7 := Lib.hid hd7; have HGG7 := Lib.hid hg7
    obtain ⟨a0, a1, a2, a3, a4, a5⟩ := DskBox.facts (show DskBox w7 w.heap.size _ _ _ from hx7.d)
    obtain ⟨b0, b1, b2, b3, b4, b5', b6, b7⟩ := hl7.facts
    obtain ⟨x0, x1, x2, x3, x4, x5⟩ := hd7.facts
    obtain ⟨z0, z1, z2, z3, y0, y1, y2, y3⟩ := hg7.facts
    clear hLN hv0 hv1 hx7 hl7 hd7 hg7 hK7 hD7 hW7 hb7 c0 c1 c2 r0 r1 p0 p1 hc HLAY HXW HLW HDW HGW HK HSZ HHD
    gi_wp2_with fail
    clear a0 a1 a2 a3 a4 a5 b0 b1 b2 b3 b4 b5' b6 b7 x0 x1 x2 x3 x4 x5 z0 z1 z2 z3 y0 y1 y2 y3
    obtain ⟨W8, hW8⟩ : ∃ W8, W8 = ((((w7.setCell ⟨w.heap.size, 0, none⟩ (.slice B2 l0.length d2)).setCell ⟨w.heap.size, 1, none⟩ (.slice B3 LN.length d3)).setCell ⟨w.heap.size, 2, none⟩ (.bool false)).setCell ⟨w.heap.size + 1 + 1, 1, none⟩ (.int .i64 ((used : Int) + (nd : Int)))).setCell ⟨w.heap.size + 1 + 1, 3, none⟩ (.int .i64 ((many : Int) + 1)) := ⟨_, rfl⟩
    rw [← hW8]
    obtain ⟨hd8, hl8, hr8, hs8, he8, hz8, hbl8⟩ := ap_set (b := w.heap.size) HX7.out.d HL7.out HDD7.out HGG7.out hW8
    obtain ⟨a0, a1, a2, _⟩ := hd8.facts
    obtain ⟨b0, b1, b2, b3, _⟩ := hl8.facts
    obtain ⟨x0, x1, x2, x3, x4, x5⟩ := hr8.facts
    obtain ⟨z0, z1, z2, z3, y0, y1, y2, y3⟩ := hs8.facts
    have HE8 := Lib.hid he8; have HZ8 := Lib.hid hz8
    have HBL8 := Lib.hid (hbl8 w.heap.size w (Nat.le_refl _) HX7.out.b)
    have HR8 := Lib.hid hr8; have HS8 := Lib.hid hs8
    clear hd8 hl8 hr8 hs8 he8 hz8 hbl8 hW8
    gi_region
    gi_wp2_with fail
    clear a0 a1 a2 b0 b1 b2 b3 x0 x1 x2 x3 x4 x5 z0 z1 z2 z3 y0 y1 y2 y3
    obtain ⟨W9, hW9⟩ : ∃ W9, W9 = (((((((W8.setCell ⟨w.heap.size + 1 + 1 + 1, 0, none⟩ (.slice B2 l0.length d2)).setCell ⟨w.heap.size + 1 + 1 + 1, 1, none⟩ (.slice B3 LN.length d3)).setCell ⟨w.heap.size + 1 + 1 + 1, 2, none⟩ (.bool false)).setCell ⟨w.heap.size + 1 + 1 + 1 + 1, 0, none⟩ (.int .i64 (at_ : Int))).setCell ⟨w.heap.size + 1 + 1 + 1 + 1, 1, none⟩ (.int .i64 ((used : Int) + (nd : Int)))).setCell ⟨w.heap.size + 1 + 1 + 1 + 1, 2, none⟩ (.int .u64 (first : Int))).setCell ⟨w.heap.size + 1 + 1 + 1 + 1, 3, none⟩ (.int .i64 ((many : Int) + 1))).drew := ⟨_, rfl⟩
    rw [← hW9]
    obtain ⟨hr9, hs9, he9, hz9, hbl9⟩ := ap_fin (b := w.heap.size) HR8.out HS8.out hW9
    have hD7 := HD7.out
    have hK9 : W9.heap[D]? = some (.deferred (some [])) := by rw [he9 D (by omega) (by omega), HE8.out D (by omega) (by omega)]; exact HK7.out
    refine ⟨by simp, .inl ⟨_, _, rfl, run_takeDeferred hK9, ?_⟩⟩
    have hall : ∀ k, k < W9.heap.size → k ≠ D → (W9.putObj D (.deferred none)).heap[k]? = W9.heap[k]? := fun k h1 h2 => (grownBy_putObj' W9 D (.deferred none)).block k h1 (fun e => h2 (by cases e; rfl))
    have hz : W9.heap.size = w7.heap.size := hz9.trans HZ8.out
    have hr10 : DskBox (W9.putObj D (.deferred none)) (w.heap.size + 1 + 1 + 1) _ _ _ := (hall _ (blk_lt hr9) (by omega)).trans hr9
    have hs10 : LogBox (W9.putObj D (.deferred none)) (w.heap.size + 1 + 1 + 1 + 1) _ _ _ _ := (hall _ (blk_lt hs9) (by omega)).trans hs9
    obtain ⟨x0, x1, x2, _⟩ := hr10.facts
    obtain ⟨z0, z1, z2, z3, _⟩ := hs10.facts
    have hstep : ∀ k, k < w7.heap.size → k ≠ w.heap.size → k ≠ w.heap.size + 1 + 1 → k ≠ w.heap.size + 1 + 1 + 1 → k ≠ w.heap.size + 1 + 1 + 1 + 1 → k ≠ D → (W9.putObj D (.deferred none)).heap[k]? = w7.heap[k]? :=
      fun k h0 h1 h2 h3 h4 h5 => (hall k (by omega) h5).trans ((he9 k h3 h4).trans (HE8.out k h1 h2))
    have hW7 := HW7.out
    have hDW := HDW8.out
    have hst : ∀ {Pz : Nat → Prop} k, ((Pz k ∧ k < w.heap.size) ∨ W.heap.size ≤ k) → k < w7.heap.size → (W9.putObj D (.deferred none)).heap[k]? = w7.heap[k]? := by
      intro Pz k hk hlt
      rcases hk with ⟨_, hk⟩ | hk
      · exact hstep k hlt (by omega) (by omega) (by omega) (by omega) (by omega)
      · exact hstep k hlt (by omega) (by omega) (by omega) (by omega) (by omega)
    have hq : ∀ k, ((P0 k ∧ k < w.heap.size ∨ P1 k ∧ k < w.heap.size) ∨ W.heap.size ≤ k) → (((P0 k ∨ P1 k) ∧ k < w.heap.size) ∨ W.heap.size ≤ k) := by
      rintro k ((⟨h1, h2⟩ | ⟨h1, h2⟩) | h)
      · exact .inl ⟨.inl h1, h2⟩
      · exact .inl ⟨.inr h1, h2⟩
      · exact .inr h
    have hq2 : ∀ k, ((P0 k ∧ k < w.heap.size ∨ P1 k ∧ k < w.heap.size) ∨ W.heap.size ≤ k) → ((P0 k ∨ P1 k) ∨ w.heap.size ≤ k) := by
      rintro k ((⟨h1, h2⟩ | ⟨h1, h2⟩) | h)
      · exact .inl (.inl h1)
      · exact .inl (.inr h1)
      · exact .inr (by omega)
    refine ⟨.tuple #[.agg #[.slice B2 l0.length d2, .slice B3 LN.length d3, .bool false], .agg #[.int .i64 (at_ : Int), .int .i64 ((used : Int) + (nd : Int)), .int .u64 (first : Int), .int .i64 ((many : Int) + 1)], .int .i64 0], by simp [results, Try.results13, go_sem, x0, x1, x2, z0, z1, z2, z3], _, _, rfl, ?_, ?_, ?_⟩
    · exact Kd.V_mono (Kd.V_step HV0.out (fun k hk hlt => hst (Pz := fun k => P0 k ∨ P1 k) k (hq k hk) hlt)) hq2
    · rw [← HLN.out]
      exact Kd.V_mono (Kd.V_step HV1.out (fun k hk hlt => hst (Pz := fun k => P0 k ∨ P1 k) k (hq k hk) hlt)) hq2
    · exact (hbl9 w.heap.size w (Nat.le_refl _) HBL8.out).trans (belowK_b (w := w) (Nat.le_refl _) W9 D _ _ (by omega) hK9 rfl rfl)
  case stop =>
    rintro D c pre W _ _ h _
    exact h.elim
def redo_Append.f (l0_0 : List ByteArray) (l0_1 : List S88) (a0_2 : Bool) (a1_0 a1_1 a2_0 a2_1 a2_2 a2_3 : Int) (a3 : ByteArray) : Option (List ByteArray × List S88 × Bool × Int × Int × Int × Int × Int) :=
  if a0_2 = true then some (l0_0, l0_1, a0_2, a2_0, a2_1, a2_2, a2_3, 19)
  else if 4096 < a3.size then some (l0_0, l0_1, a0_2, a2_0, a2_1, a2_2, a2_3, 5)
  else if a1_1 < wrap64 (a2_1 + (needN a3 : Int)) then some (l0_0, l0_1, a0_2, a2_0, a2_1, a2_2, a2_3, 12)
  else if 1 ≤ a1_1 ∧ 0 ≤ a1_0 ∧ a1_0 + a1_1 ≤ (l0_0.length : Int) ∧ l0_0.length ≤ 1000000000 ∧ l0_1.length ≤ 100000000 ∧ 0 ≤ a2_0 ∧ a2_0 ≤ 100000 ∧ a1_1 ≤ 100000 ∧ 0 ≤ a2_1 ∧ a2_1 ≤ 100000 ∧ 0 ≤ a2_2 ∧ a2_2 < 18446744073709551616 ∧ 0 ≤ a2_3 ∧ a2_3 ≤ 1000000000 then
    some (l0_0, l0_1 ++ laidP a1_0.toNat a1_1.toNat (a2_0.toNat + a2_1.toNat) 0 (pieces (recS ((a2_2.toNat + a2_3.toNat) % 18446744073709551616) a3)), a0_2, a2_0, a2_1 + (needN a3 : Int), a2_2, a2_3 + 1, 0)
  else none
theorem redo_Append.calls (P0_0 : Nat → Prop) (A0_0 : Option Addr) (c0_0 : Nat) (l0_0 : List ByteArray) (P0_1 : Nat → Prop) (A0_1 : Option Addr) (c0_1 : Nat) (l0_1 : List S88) (a0_2 : Bool) (a1_0 a1_1 a2_0 a2_1 a2_2 a2_3 : Int) (a3 : ByteArray)
    (r1 : List ByteArray) (r2 : List S88) (r3 : Bool) (r4 r5 r6 r7 r8 : Int) (w : World) (hs0_0 : Kd.V Kd.string 9 w w.heap.size (fun k_ => P0_0 k_) (.slice A0_0 l0_0.length c0_0) l0_0) (hs0_1 : Kd.V k88 88 w w.heap.size (fun k_ => P0_1 k_) (.slice A0_1 l0_1.length c0_1) l0_1)
    (h : redo_Append.f l0_0 l0_1 a0_2 a1_0 a1_1 a2_0 a2_1 a2_2 a2_3 a3 = some (r1, r2, r3, r4, r5, r6, r7, r8)) :
    Calls Try.prog 13 #[.agg #[.slice A0_0 l0_0.length c0_0, .slice A0_1 l0_1.length c0_1, .bool a0_2], .agg #[.int .i64 a1_0, .int .i64 a1_1], .agg #[.int .i64 a2_0, .int .i64 a2_1, .int .u64 a2_2, .int .i64 a2_3], .string a3] w fun e w' =>
      ∃ v0_ v1_ : Value, e = .returned (.tuple #[.agg #[v0_, v1_, .bool r3], .agg #[.int .i64 r4, .int .i64 r5, .int .u64 r6, .int .i64 r7], .int .i64 r8]) ∧ Kd.V Kd.string 9 w' w.heap.size (fun k_ => ((P0_0 k_ ∨ P0_1 k_) ∨ w.heap.size ≤ k_)) v0_ r1 ∧ Kd.V k88 88 w' w.heap.size (fun k_ => ((P0_0 k_ ∨ P0_1 k_) ∨ w.heap.size ≤ k_)) v1_ r2 ∧ Below w.heap.size w w' := by
  have give : ∀ (code : Int), (r1, r2, r3, r4, r5, r6, r7, r8) = (l0_0, l0_1, a0_2, a2_0, a2_1, a2_2, a2_3, code) → ∀ e w', (e = Ending.returned (.tuple #[.agg #[.slice A0_0 l0_0.length c0_0, .slice A0_1 l0_1.length c0_1, .bool a0_2], .agg #[.int .i64 a2_0, .int .i64 a2_1, .int .u64 a2_2, .int .i64 a2_3], .int .i64 code]) ∧ Below w.heap.size w w') →
      ∃ v0_ v1_ : Value, e = .returned (.tuple #[.agg #[v0_, v1_, .bool r3], .agg #[.int .i64 r4, .int .i64 r5, .int .u64 r6, .int .i64 r7], .int .i64 r8]) ∧ Kd.V Kd.string 9 w' w.heap.size (fun k_ => ((P0_0 k_ ∨ P0_1 k_) ∨ w.heap.size ≤ k_)) v0_ r1 ∧ Kd.V k88 88 w' w.heap.size (fun k_ => ((P0_0 k_ ∨ P0_1 k_) ∨ w.heap.size ≤ k_)) v1_ r2 ∧ Below w.heap.size w w' := by
    rintro code hc e w' ⟨rfl, hb⟩
    simp only [Prod.mk.injEq] at hc
    obtain ⟨rfl, rfl, rfl, rfl, rfl, rfl, rfl, rfl⟩ := hc
    exact ⟨_, _, rfl, Kd.V_mono (Kd.V_below hs0_0 hb) (fun _ hk => .inl (.inl hk)), Kd.V_mono (Kd.V_below hs0_1 hb) (fun _ hk => .inl (.inr hk)), hb⟩
  unfold redo_Append.f at h
  split at h
  · rename_i h1
    subst h1
    exact (append_off _ _ _ _ _ _ _ _ _ _ _ _ _ _).mono (give 19 (Option.some.inj h).symm)
  · rename_i h1
    obtain rfl : a0_2 = false := by simpa using h1
    split at h
    · rename_i h2
      exact (append_big _ _ _ _ _ _ _ _ _ _ _ _ _ _ h2).mono (give 5 (Option.some.inj h).symm)
    · rename_i h2
      split at h
      · rename_i h3
        exact (append_room _ _ _ _ _ _ _ _ _ _ _ _ _ _ (by omega) h3).mono (give 12 (Option.some.inj h).symm)
      · rename_i h3
        split at h
        · rename_i hk
          obtain ⟨k1, k2, k3, k4, k5, k6, k7, k8, k9, k10, k11, k12, k13, k14⟩ := hk
          have h := Option.some.inj h
          simp only [Prod.mk.injEq] at h
          obtain ⟨rfl, rfl, rfl, rfl, rfl, rfl, rfl, rfl⟩ := h
          obtain ⟨fr, rfl⟩ := Int.eq_ofNat_of_zero_le k2
          obtain ⟨mn, rfl⟩ := Int.eq_ofNat_of_zero_le (show 0 ≤ a1_1 by omega)
          obtain ⟨at_, rfl⟩ := Int.eq_ofNat_of_zero_le k6
          obtain ⟨used, rfl⟩ := Int.eq_ofNat_of_zero_le k9
          obtain ⟨first, rfl⟩ := Int.eq_ofNat_of_zero_le k11
          obtain ⟨many, rfl⟩ := Int.eq_ofNat_of_zero_le k13
          have hnb : needN a3 ≤ 100000 := by
            have h10 := numS_size10 (show a3.size < 18446744073709551616 by omega)
            have := recS_size 0 a3
            unfold needN; omega
          rw [w64 (by omega) (by omega)] at h3
          exact append_main P0_0 P0_1 A0_0 c0_0 l0_0 A0_1 c0_1 l0_1 fr mn at_ used first many a3 w hs0_0 hs0_1 (by omega) (by omega) k4 k5 (by omega) (by omega) (by omega) (by omega) (by omega) (by omega)
        · cases h
end Go.Proofs.Ytcbfnfggnocndaa
end

section
/- Layer 5: all functions that are walked by hand. -/
end

section
/- The machine's side of laws of this seat: Go functions as Lean functions, and the proof that a call of each comes to what its function says (written by a program of this session, px.py, that runs the kit's print). -/
namespace Go.Proofs.Ytcbfnfggnocndaa.Q
open Go.RowKit Go.Proofs.YtcbfnfggnocndaaW.PrintWords Go.Proofs.YtcbfnfggnocndaaW.PrintLast Go.Proofs.YtcbfnfggnocndaaW.PrintMore
attribute [local go_sem] max2_int min2_int max_two min_two max_three min_three max_four min_four   -- for this text's walks alone
attribute [local go_sem high] Go.Proofs.Ytcbfnfggnocndaa.px_xor_u8 Go.Proofs.Ytcbfnfggnocndaa.px_xor_u16 Go.Proofs.Ytcbfnfggnocndaa.px_xor_u32 Go.Proofs.Ytcbfnfggnocndaa.px_xor_u64
set_option linter.unusedVariables false
set_option linter.unusedSimpArgs false

theorem eqA30 (d : Nat) (w : World) (x0 y0 : Int) (x1 y1 : Int) (x2 y2 : Int) (x3 y3 : Int) :
    (Op.equalIn (d + 2) 30 (.agg #[.int .i64 x0, .int .i64 x1, .int .u64 x2, .int .i64 x3]) (.agg #[.int .i64 y0, .int .i64 y1, .int .u64 y2, .int .i64 y3])).run Try.prog w = .ok (x0 == y0 && (x1 == y1 && (x2 == y2 && (x3 == y3)))) w := by
  refine eqA_of Try.underlying30 (by kernel_rfl) ?_
  refine eqf_cons (by rfl) (by go_simp; rfl) (by go_simp; rfl) (by go_simp) ?_
  refine eqf_cons (by rfl) (by go_simp; rfl) (by go_simp; rfl) (by go_simp) ?_
  refine eqf_cons (by rfl) (by go_simp; rfl) (by go_simp; rfl) (by go_simp) ?_
  exact eqf_last (by rfl) (by go_simp; rfl) (by go_simp; rfl) (by go_simp)
end Go.Proofs.Ytcbfnfggnocndaa.Q
end

section
/- The machine's side of laws of this seat: Go functions as Lean functions, and the proof that a call of each comes to what its function says (written by a program of this session, px.py, that runs the kit's print). -/
namespace Go.Proofs.Ytcbfnfggnocndaa.Q
open Go.RowKit Go.Proofs.YtcbfnfggnocndaaW.PrintWords Go.Proofs.YtcbfnfggnocndaaW.PrintLast Go.Proofs.YtcbfnfggnocndaaW.PrintMore
attribute [local go_sem] max2_int min2_int max_two min_two max_three min_three max_four min_four   -- for this text's walks alone
attribute [local go_sem high] Go.Proofs.Ytcbfnfggnocndaa.px_xor_u8 Go.Proofs.Ytcbfnfggnocndaa.px_xor_u16 Go.Proofs.Ytcbfnfggnocndaa.px_xor_u32 Go.Proofs.Ytcbfnfggnocndaa.px_xor_u64
set_option linter.unusedVariables false
set_option linter.unusedSimpArgs false

-- GIVEN: function 13 (redo_Append): its Lean function and its contract stand in a text of this session's

/-! ### seal_four: function 51 -/
def seal_four.f (a0 : Int) : Option (ByteArray) := some (strOfNums (([(a0) % 256, (a0 / 256) % 256, (a0 / 65536) % 256, (a0 / 16777216) % 256] : List Int)))
set_option maxHeartbeats 8000000 in
set_option maxRecDepth 100000 in
theorem seal_four.calls (a0 : Int) (r : ByteArray) (w : World) (h : seal_four.f a0 = some r) :
  Calls Try.prog 51 #[.int .u32 a0] w fun e w' => e = .returned (.string r) ∧ Below w.heap.size w w' := by
 have HB := Aside0.mk (Below.refl w.heap.size w)
 have H : (some (strOfNums (([(a0) % 256, (a0 / 256) % 256, (a0 / 65536) % 256, (a0 / 16777216) % 256] : List Int)))) = some r := h
 clear h
 obtain ⟨y101, hy101⟩ : ∃ y_ : List Int, y_ = (([(a0) % 256, (a0 / 256) % 256, (a0 / 65536) % 256, (a0 / 16777216) % 256] : List Int)) := ⟨_, rfl⟩
 replace H : (some (strOfNums y101)) = some r := by first | (rw [hy101]; with_reducible exact H) | (have H2_ := (Option.bind_some _ _).symm.trans H; rw [hy101]; with_reducible exact H2_) | (have H2_ := (Option.bind_some _ _).symm.trans H; with_reducible exact H2_) | with_reducible exact H | (rw [hy101]; exact H) | exact H
 have Ny101 := Aside0.mk hy101
 clear hy101
 obtain rfl := Option.some.inj H
 go_enter Try.func51, Try.ntmps51
 go_wp2_with (first | ((with_reducible refine gate_dst (N := 14) rfl ?_); refine Kd.R_lit (Kd.int .u8) _ 5 ?hg (N := 14) ?hd (xs := ([(a0) % 256, (a0 / 256) % 256, (a0 / 65536) % 256, (a0 / 16777216) % 256] : List Int)) (inner := [.int .u8 ((a0) % 256), .int .u8 ((a0 / 256) % 256), .int .u8 ((a0 / 65536) % 256), .int .u8 ((a0 / 16777216) % 256)]) (ok := fun _ => True) (okp := fun _ => True) ?hr ?hp (fun _ hk => hk) trivial (Below.refl _ _) (Nat.le_refl _) (by simp) ?_; (case hd => rfl); (case hg => rfl); (case hr => first | (go_simp; done) | (go_simp; rfl)); (case hp => exact (Reps.one (show Kd.M (Kd.int .u8) _ _ _ ((a0) % 256) [.int .u8 ((a0) % 256)] from rfl) (Reps.one (show Kd.M (Kd.int .u8) _ _ _ ((a0 / 256) % 256) [.int .u8 ((a0 / 256) % 256)] from rfl) (Reps.one (show Kd.M (Kd.int .u8) _ _ _ ((a0 / 65536) % 256) [.int .u8 ((a0 / 65536) % 256)] from rfl) (Reps.one (show Kd.M (Kd.int .u8) _ _ _ ((a0 / 16777216) % 256) [.int .u8 ((a0 / 16777216) % 256)] from rfl) (Reps.none _ _)))))); intro v102 w2 ho3 hb hg_ hnew_; clear hg_ hnew_; (first | rw [← Ny101.out] at ho3 | (simp only [Int.reduceToNat] at ho3; rw [← Ny101.out] at ho3)); have n0_ := Aside0.mk (Kd.R_lower ho3 (below_size (by repeat (first | (with_reducible first | exact HB.out | apply below_alloc | apply pw_below_drewN | apply below_drew1) | exact HB.out)))); have n1_ := Aside0.mk (below_step (by repeat (first | (with_reducible first | exact HB.out | apply below_alloc | apply pw_below_drewN | apply below_drew1) | exact HB.out)) hb); clear HB; have HO103 := n0_; have HB := n1_; clear n0_ n1_; clear hb ho3; have hcv4 := own_string (P := Try.prog) Try.underlying71 Try.underlying5 Try.underlying9 (Kd.own_of_R HO103.out)))
 go_ret
 exact ⟨by first | rfl | (simp [errW_none, errW_some] <;> rfl) | (simp [*, errW_none, errW_some] <;> rfl), by repeat (first | (with_reducible first | exact HB.out | apply below_alloc | apply pw_below_drewN | apply below_drew1) | exact HB.out)⟩

-- GIVEN: function 62 (seal_More): its Lean function and its contract stand in a text of this session's

/-! ### seal_Sum: function 52 -/
def seal_Sum.f (a0 : ByteArray) : Option (Int) := (seal_More.f 4294967295 a0).bind fun t104 => (some (Go.bits .xor .u32 4294967295 t104))
set_option maxHeartbeats 8000000 in
set_option maxRecDepth 100000 in
theorem seal_Sum.calls (a0 : ByteArray) (r : Int) (w : World) (h : seal_Sum.f a0 = some r) :
  Calls Try.prog 52 #[.string a0] w fun e w' => e = .returned (.int .u32 r) ∧ Below w.heap.size w w' := by
 have HB := Aside0.mk (Below.refl w.heap.size w)
 have H : ((seal_More.f 4294967295 a0).bind fun t104 => (some (Go.bits .xor .u32 4294967295 t104))) = some r := h
 clear h
 replace H := Option.bind_eq_some_iff.mp H
 obtain ⟨t104, A20, H⟩ := H
 replace H : (some (Go.bits .xor .u32 4294967295 t104)) = some r := H
 have A2 := Aside0.mk A20
 clear A20
 obtain rfl := Option.some.inj H
 go_enter Try.func52, Try.ntmps52
 go_wp2_with (first | ((with_reducible refine gate_callee (f := 62) rfl ?_); refine goesL_ (some 4) rfl rfl Try.func62 (by kernel_rfl) rfl #[.int .u32 4294967295, .string a0] rfl (by (try simp only [List.map_toArray, List.map_cons, List.map_nil]); first | done | rfl | (simp only [List.length_drop, List.length_take]; rfl)) ?_; (with_reducible refine (seal_More.calls 4294967295 a0 t104 _ A2.out).mono ?_); rintro e w3 ⟨rfl, hb⟩; refine ⟨_, rfl, ?_⟩; have n0_ := Aside0.mk (below_step (by repeat (first | (with_reducible first | exact HB.out | apply below_alloc | apply pw_below_drewN | apply below_drew1) | exact HB.out)) hb); clear HB; have HB := n0_; clear n0_; (try clear hb); (try clear hb2); (try clear hk); (try clear hi)))
 go_ret
 exact ⟨by first | rfl | (simp [errW_none, errW_some] <;> rfl) | (simp [*, errW_none, errW_some] <;> rfl), by repeat (first | (with_reducible first | exact HB.out | apply below_alloc | apply pw_below_drewN | apply below_drew1) | exact HB.out)⟩

/-! ### seal_Put: function 34 -/
def seal_Put.f (a0 : ByteArray) : Option (ByteArray) := (seal_Sum.f a0).bind fun t105 => ((seal_four.f t105).bind fun t106 => (if a0.size + t106.size ≤ 9223372036854775807 then (some (a0 ++ t106)) else (none)))
set_option maxHeartbeats 8000000 in
set_option maxRecDepth 100000 in
theorem seal_Put.calls (a0 : ByteArray) (r : ByteArray) (w : World) (h : seal_Put.f a0 = some r) :
  Calls Try.prog 34 #[.string a0] w fun e w' => e = .returned (.string r) ∧ Below w.heap.size w w' := by
 have HB := Aside0.mk (Below.refl w.heap.size w)
 have H : ((seal_Sum.f a0).bind fun t105 => ((seal_four.f t105).bind fun t106 => (if a0.size + t106.size ≤ 9223372036854775807 then (some (a0 ++ t106)) else (none)))) = some r := h
 clear h
 replace H := Option.bind_eq_some_iff.mp H
 obtain ⟨t105, A20, H⟩ := H
 replace H : ((seal_four.f t105).bind fun t106 => (if a0.size + t106.size ≤ 9223372036854775807 then (some (a0 ++ t106)) else (none))) = some r := H
 have A2 := Aside0.mk A20
 clear A20
 replace H := Option.bind_eq_some_iff.mp H
 obtain ⟨t106, A30, H⟩ := H
 replace H : (if a0.size + t106.size ≤ 9223372036854775807 then (some (a0 ++ t106)) else (none)) = some r := H
 have A3 := Aside0.mk A30
 clear A30
 by_cases c4 : a0.size + t106.size ≤ 9223372036854775807
 ·rw [if_pos c4] at H
  have c4b0 := eq_true c4
  have c4b1 : decide (a0.size + t106.size ≤ 9223372036854775807) = true := decide_eq_true c4
  try have c4b2 : (9223372036854775807 < a0.size + t106.size) = False := eq_false (Nat.not_lt.2 c4)
  obtain rfl := Option.some.inj H
  go_enter Try.func34, Try.ntmps34
  go_wp2_with (first | ((with_reducible refine gate_callee (f := 52) rfl ?_); refine goesL_ (some 5) rfl rfl Try.func52 (by kernel_rfl) rfl #[.string a0] rfl (by (try simp only [List.map_toArray, List.map_cons, List.map_nil]); first | done | rfl | (simp only [List.length_drop, List.length_take]; rfl)) ?_; (with_reducible refine (seal_Sum.calls a0 t105 _ A2.out).mono ?_); rintro e w5 ⟨rfl, hb⟩; refine ⟨_, rfl, ?_⟩; have n0_ := Aside0.mk (below_step (by repeat (first | (with_reducible first | exact HB.out | apply below_alloc | apply pw_below_drewN | apply below_drew1) | exact HB.out)) hb); clear HB; have HB := n0_; clear n0_; (try clear hb); (try clear hb2); (try clear hk); (try clear hi)) | ((with_reducible refine gate_callee (f := 51) rfl ?_); refine goesL_ (some 6) rfl rfl Try.func51 (by kernel_rfl) rfl #[.int .u32 t105] rfl (by (try simp only [List.map_toArray, List.map_cons, List.map_nil]); first | done | rfl | (simp only [List.length_drop, List.length_take]; rfl)) ?_; (with_reducible refine (seal_four.calls t105 t106 _ A3.out).mono ?_); rintro e w6 ⟨rfl, hb⟩; refine ⟨_, rfl, ?_⟩; have n0_ := Aside0.mk (below_step (by repeat (first | (with_reducible first | exact HB.out | apply below_alloc | apply pw_below_drewN | apply below_drew1) | exact HB.out)) hb); clear HB; have HB := n0_; clear n0_; (try clear hb); (try clear hb2); (try clear hk); (try clear hi)))
  go_ret
  exact ⟨by first | rfl | (simp [errW_none, errW_some] <;> rfl) | (simp [*, errW_none, errW_some] <;> rfl), by repeat (first | (with_reducible first | exact HB.out | apply below_alloc | apply pw_below_drewN | apply below_drew1) | exact HB.out)⟩
 ·rw [if_neg c4] at H
  exact absurd H (by simp)

/-! ### redo_number: function 35 -/
def redo_number.l0 : Nat → Int → List Int → Int → Option (ByteArray)
 | 0, _, _, _ => none
 | k + 1, x0, x3, x5 => if x5 < 8 then (if 0 ≤ (wrap64 (8 * x5)) then (if x3.length < 140737488355328 then (redo_number.l0 k x0 (x3 ++ [(shr .u64 x0 (wrap64 (8 * x5))) % 256]) (wrap64 (x5 + 1))) else (none)) else (none)) else (some (strOfNums x3))
def redo_number.f (k : Nat) (a0 : Int) : Option (ByteArray) := redo_number.l0 k a0 ([] : List Int) 0
theorem redo_number.mono_l : ∀ k, (∀ y0 y1 y2, LeO (redo_number.l0 k y0 y1 y2) (redo_number.l0 (k + 1) y0 y1 y2))
 | 0 => fun _ _ _ r h => by simp [redo_number.l0] at h
 | k + 1 => by
  have ih0 := redo_number.mono_l k
  ·intro y0 y1 y2
   unfold redo_number.l0
   repeat' first
   | (with_reducible exact ih0 _ _ _)
   | (with_reducible exact LeO.refl _)
   | (with_reducible exact LeO.none _)
   | (with_reducible refine LeO.ite ?_ ?_)
   | (with_reducible refine LeO.bind ?_ (fun _ => ?_))
   | exact ih0 _ _ _
   | exact LeO.none _
   | refine LeO.ite ?_ ?_
   | refine LeO.bind ?_ (fun _ => ?_)
theorem redo_number.mono : ∀ a0 k, LeO (redo_number.f k a0) (redo_number.f (k + 1) a0) := by
 intro a0 k
 have ih0 := redo_number.mono_l k
 unfold redo_number.f
 repeat' first
   | (with_reducible exact ih0 _ _ _)
   | (with_reducible exact LeO.refl _)
   | (with_reducible exact LeO.none _)
   | (with_reducible refine LeO.ite ?_ ?_)
   | (with_reducible refine LeO.bind ?_ (fun _ => ?_))
   | exact ih0 _ _ _
   | exact LeO.none _
   | refine LeO.ite ?_ ?_
   | refine LeO.bind ?_ (fun _ => ?_)
set_option maxHeartbeats 8000000 in
set_option maxRecDepth 100000 in
theorem redo_number.calls (k : Nat) (a0 : Int) (r : ByteArray) (w : World) (h : redo_number.f k a0 = some r) :
  Calls Try.prog 35 #[.int .u64 a0] w fun e w' => e = .returned (.string r) ∧ Below w.heap.size w w' := by
 have HB := Aside0.mk (Below.refl w.heap.size w)
 have H : (redo_number.l0 k a0 ([] : List Int) 0) = some r := h
 clear h
 have H' := Aside0.mk H
 clear H
 go_enter Try.func35, Try.ntmps35
 go_wp2
 go_loopg [3, 5] k (fun kq v3 v5 w' => ∃ (x3_1 : List Int) (x5_1 : Int), v5 = .int .i64 x5_1 ∧ Aside0 (redo_number.l0 kq a0 x3_1 x5_1 = some r) ∧ Aside0 (kq ≤ k) ∧ Aside0 (Kd.R (Kd.int .u8) 5 w' w.heap.size (fun _ => True) v3 x3_1) ∧ Aside0 (Below w.heap.size w w'))
 case atStart => exact ⟨(([] : List Int)), (0), (by first | rfl | (simp; done) | (simp [*]; done)), H', ⟨Nat.le_refl _⟩, ⟨by first | exact Kd.R_nil _ _ _ _ _ | exact Kd.N_nil _ _ _ _ _ | exact Kd.V_nil _ _ _ _ _ | exact Kd.Q_nil _ _ _ _ _ | exact Kd.S_nil _ _ _ _ _⟩, ⟨by repeat (first | (with_reducible first | exact HB.out | apply below_alloc | apply pw_below_drewN | apply below_drew1) | exact HB.out)⟩⟩
 case round =>
  clear H'
  obtain ⟨x3_1, x5_1, rfl, HA, HK1, HO_3, HB⟩ := hrel
  cases gk with
  | zero => exact absurd HA.out (by simp [redo_number.l0])
  | succ k1 =>
   (have H := HA.out; clear HA)
   simp only [redo_number.l0] at H
   by_cases c2 : x5_1 < 8
   ·rw [if_pos c2] at H
    have c2b0 : decide (x5_1 < 8) = true := decide_eq_true c2
    clear c2
    obtain ⟨ji3, hji3⟩ : ∃ j_ : Int, (wrap64 (8 * x5_1)) = j_ := ⟨_, rfl⟩
    replace H : (if 0 ≤ (ji3) then (if x3_1.length < 140737488355328 then (redo_number.l0 k1 a0 (x3_1 ++ [(shr .u64 a0 (ji3)) % 256]) (wrap64 (x5_1 + 1))) else (none)) else (none)) = some r := by first | (rw [hji3] at H; exact H) | (simp only [hji3] at H ⊢; exact H)
    have hji3w : (IntKind.i64.wrap (8 * x5_1)) = ji3 := (i64_w _).trans hji3
    by_cases c4 : 0 ≤ (ji3)
    ·rw [if_pos c4] at H
     have c4b0 := eq_true c4
     have c4b1 : decide (0 ≤ (ji3)) = true := decide_eq_true c4
     clear c4
     obtain ⟨ji5, hji5⟩ : ∃ j_ : Int, (shr .u64 a0 (ji3)) = j_ := ⟨_, rfl⟩
     replace H : (if x3_1.length < 140737488355328 then (redo_number.l0 k1 a0 (x3_1 ++ [(ji5) % 256]) (wrap64 (x5_1 + 1))) else (none)) = some r := by first | (rw [hji5] at H; exact H) | (simp only [hji5] at H ⊢; exact H)
     have hji5_ : (a0 / 2 ^ min (ji3).toNat 64) = ji5 := hji5
     have hji5z : (ji3) ≤ 64 → (a0 / 2 ^ (ji3).toNat) = ji5 := shr_small hji5
     by_cases c6 : x3_1.length < 140737488355328
     ·rw [if_pos c6] at H
      have LMc6 := Aside0.mk c6
      clear c6
      obtain ⟨y107, hy107⟩ : ∃ y_ : List Int, y_ = (x3_1 ++ [(ji5) % 256]) := ⟨_, rfl⟩
      replace H : (redo_number.l0 k1 a0 y107 (wrap64 (x5_1 + 1))) = some r := by first | (rw [hy107]; with_reducible exact H) | (have H2_ := (Option.bind_some _ _).symm.trans H; rw [hy107]; with_reducible exact H2_) | (have H2_ := (Option.bind_some _ _).symm.trans H; with_reducible exact H2_) | with_reducible exact H | (rw [hy107]; exact H) | exact H
      have Ny107 := Aside0.mk hy107
      clear hy107
      have H' := Aside0.mk H
      clear H
      go_wp2_with (first | ((with_reducible refine gate_builtin (b := .append) (xs := #[.tmp 8, .tmp 14]) rfl ?_); at_builtin; refine Kd.R_append (Kd.int .u8) (w0 := w) w.heap.size rfl (.tmp 8) (.tmp 14) 71 5 (.int .u8 0) 1 rfl Try.underlying71 info5 rfl (by decide) (by omega) u3 x3_1 ((ji5) % 256) [.int .u8 ((ji5) % 256)] (fun _ => True) (fun _ => False) rfl rfl ?aP (fun _ hk => hk.elim) ?aF ?aO ?aB ?aS ?aL ?_; (case aP => exact rfl); (case aB => exact (by repeat (first | (with_reducible first | exact HB.out | apply below_alloc | apply pw_below_drewN | apply below_drew1) | exact HB.out))); (case aF => exact (fun _ _ => trivial)); (case aO => exact (by (with_reducible repeat (first | apply Kd.R_alloc | apply Kd.R_drewN | apply Kd.R_drew)); exact HO_3.out)); (case aS => exact (below_size (by repeat (first | (with_reducible first | exact HB.out | apply below_alloc | apply pw_below_drewN | apply below_drew1) | exact HB.out)))); (case aL => have := LMc6.out; omega); intro v108 w7 ho hb hg hat; rw [← Ny107.out] at ho; have n0_ := Aside0.mk (hb); have n1_ := Aside0.mk (ho); clear HB; clear HO_3; have HB := n0_; have HO109 := n1_; clear n0_ n1_; clear ho hb hg hat))
      go_roundg k1
      case measure => have := HK1.out; omega
      case rel => exact ⟨(y107), (wrap64 (x5_1 + 1)), (by first | rfl | (simp; done) | (simp [*]; done)), H', ⟨by have := HK1.out; omega⟩, ⟨by (with_reducible repeat (first | apply Kd.R_alloc | apply Kd.R_drewN | apply Kd.R_drew)); exact HO109.out⟩, ⟨by repeat (first | (with_reducible first | exact HB.out | apply below_alloc | apply pw_below_drewN | apply below_drew1) | exact HB.out)⟩⟩
     ·rw [if_neg c6] at H
      exact absurd H (by simp)
    ·rw [if_neg c4] at H
     exact absurd H (by simp)
   ·rw [if_neg c2] at H
    have c2b0 : decide (x5_1 < 8) = false := decide_eq_false c2
    clear c2
    obtain rfl := Option.some.inj H
    have hcv8 := own_string (P := Try.prog) Try.underlying71 Try.underlying5 Try.underlying9 (Kd.own_of_R HO_3.out)
    go_wp2
    go_ret
    exact ⟨by first | rfl | (simp [errW_none, errW_some] <;> rfl) | (simp [*, errW_none, errW_some] <;> rfl), by repeat (first | (with_reducible first | exact HB.out | apply below_alloc | apply pw_below_drewN | apply below_drew1) | exact HB.out)⟩

-- GIVEN: function 36 (octet_Text): its Lean function and its contract stand in a text of this session's

/-! ### redo_Record: function 15 -/
def redo_Record.f (k : Nat) (a0 : Int) (a1 : ByteArray) : Option (ByteArray) := (redo_number.f k a0).bind fun t110 => ((octet_Text.f a1).bind fun t111 => (if t110.size + t111.size ≤ 9223372036854775807 then ((seal_Put.f (t110 ++ t111)).bind fun t112 => (some t112)) else (none)))
theorem redo_Record.mono : ∀ a0 a1 k, LeO (redo_Record.f k a0 a1) (redo_Record.f (k + 1) a0 a1) := by
 intro a0 a1 k
 unfold redo_Record.f
 repeat' first
   | (with_reducible exact redo_number.mono _ _)
   | (with_reducible exact LeO.refl _)
   | (with_reducible exact LeO.none _)
   | (with_reducible refine LeO.ite ?_ ?_)
   | (with_reducible refine LeO.bind ?_ (fun _ => ?_))
   | exact redo_number.mono _ _
   | exact LeO.none _
   | refine LeO.ite ?_ ?_
   | refine LeO.bind ?_ (fun _ => ?_)
set_option maxHeartbeats 8000000 in
set_option maxRecDepth 100000 in
theorem redo_Record.calls (k : Nat) (a0 : Int) (a1 : ByteArray) (r : ByteArray) (w : World) (h : redo_Record.f k a0 a1 = some r) :
  Calls Try.prog 15 #[.int .u64 a0, .string a1] w fun e w' => e = .returned (.string r) ∧ Below w.heap.size w w' := by
 have HB := Aside0.mk (Below.refl w.heap.size w)
 have H : ((redo_number.f k a0).bind fun t110 => ((octet_Text.f a1).bind fun t111 => (if t110.size + t111.size ≤ 9223372036854775807 then ((seal_Put.f (t110 ++ t111)).bind fun t112 => (some t112)) else (none)))) = some r := h
 clear h
 replace H := Option.bind_eq_some_iff.mp H
 obtain ⟨t110, A30, H⟩ := H
 replace H : ((octet_Text.f a1).bind fun t111 => (if t110.size + t111.size ≤ 9223372036854775807 then ((seal_Put.f (t110 ++ t111)).bind fun t112 => (some t112)) else (none))) = some r := H
 have A3 := Aside0.mk A30
 clear A30
 replace H := Option.bind_eq_some_iff.mp H
 obtain ⟨t111, A40, H⟩ := H
 replace H : (if t110.size + t111.size ≤ 9223372036854775807 then ((seal_Put.f (t110 ++ t111)).bind fun t112 => (some t112)) else (none)) = some r := H
 have A4 := Aside0.mk A40
 clear A40
 by_cases c5 : t110.size + t111.size ≤ 9223372036854775807
 ·rw [if_pos c5] at H
  have c5b0 := eq_true c5
  have c5b1 : decide (t110.size + t111.size ≤ 9223372036854775807) = true := decide_eq_true c5
  try have c5b2 : (9223372036854775807 < t110.size + t111.size) = False := eq_false (Nat.not_lt.2 c5)
  replace H := Option.bind_eq_some_iff.mp H
  obtain ⟨t112, A60, H⟩ := H
  replace H : (some t112) = some r := H
  have A6 := Aside0.mk A60
  clear A60
  obtain rfl := Option.some.inj H
  go_enter Try.func15, Try.ntmps15
  go_wp2_with (first | ((with_reducible refine gate_callee (f := 35) rfl ?_); refine goesL_ (some 6) rfl rfl Try.func35 (by kernel_rfl) rfl #[.int .u64 a0] rfl (by (try simp only [List.map_toArray, List.map_cons, List.map_nil]); first | done | rfl | (simp only [List.length_drop, List.length_take]; rfl)) ?_; (with_reducible refine (redo_number.calls k a0 t110 _ A3.out).mono ?_); rintro e w7 ⟨rfl, hb⟩; refine ⟨_, rfl, ?_⟩; have n0_ := Aside0.mk (below_step (by repeat (first | (with_reducible first | exact HB.out | apply below_alloc | apply pw_below_drewN | apply below_drew1) | exact HB.out)) hb); clear HB; have HB := n0_; clear n0_; (try clear hb); (try clear hb2); (try clear hk); (try clear hi)) | ((with_reducible refine gate_callee (f := 36) rfl ?_); refine goesL_ (some 8) rfl rfl Try.func36 (by kernel_rfl) rfl #[.string a1] rfl (by (try simp only [List.map_toArray, List.map_cons, List.map_nil]); first | done | rfl | (simp only [List.length_drop, List.length_take]; rfl)) ?_; (with_reducible refine (octet_Text.calls a1 t111 _ A4.out).mono ?_); rintro e w8 ⟨rfl, hb⟩; refine ⟨_, rfl, ?_⟩; have n0_ := Aside0.mk (below_step (by repeat (first | (with_reducible first | exact HB.out | apply below_alloc | apply pw_below_drewN | apply below_drew1) | exact HB.out)) hb); clear HB; have HB := n0_; clear n0_; (try clear hb); (try clear hb2); (try clear hk); (try clear hi)) | ((with_reducible refine gate_callee (f := 34) rfl ?_); refine goesL_ (some 10) rfl rfl Try.func34 (by kernel_rfl) rfl #[.string (t110 ++ t111)] rfl (by (try simp only [List.map_toArray, List.map_cons, List.map_nil]); first | done | rfl | (simp only [List.length_drop, List.length_take]; rfl)) ?_; (with_reducible refine (seal_Put.calls (t110 ++ t111) t112 _ A6.out).mono ?_); rintro e w9 ⟨rfl, hb⟩; refine ⟨_, rfl, ?_⟩; have n0_ := Aside0.mk (below_step (by repeat (first | (with_reducible first | exact HB.out | apply below_alloc | apply pw_below_drewN | apply below_drew1) | exact HB.out)) hb); clear HB; have HB := n0_; clear n0_; (try clear hb); (try clear hb2); (try clear hk); (try clear hi)))
  go_ret
  exact ⟨by first | rfl | (simp [errW_none, errW_some] <;> rfl) | (simp [*, errW_none, errW_some] <;> rfl), by repeat (first | (with_reducible first | exact HB.out | apply below_alloc | apply pw_below_drewN | apply below_drew1) | exact HB.out)⟩
 ·rw [if_neg c5] at H
  exact absurd H (by simp)

/-! ### redo_sectors: function 33 -/
def redo_sectors.f (a0 : Int) : Option (Int) := some (wrap64 (Int.tdiv (wrap64 ((wrap64 (a0 + 64)) - 1)) 64))
set_option maxHeartbeats 8000000 in
set_option maxRecDepth 100000 in
theorem redo_sectors.calls (a0 : Int) (r : Int) (w : World) (h : redo_sectors.f a0 = some r) :
  Calls Try.prog 33 #[.int .i64 a0] w fun e w' => e = .returned (.int .i64 r) ∧ Drawn0 w w' := by
 have H : (some (wrap64 (Int.tdiv (wrap64 ((wrap64 (a0 + 64)) - 1)) 64))) = some r := h
 clear h
 obtain rfl := Option.some.inj H
 go_enter Try.func33, Try.ntmps33
 go_wp2
 go_ret
 exact ⟨by first | rfl | (simp; done) | (simp [*]; done), by repeat (first | exact Drawn0.refl _ | apply Drawn0.step)⟩

/-! ### redo_Need: function 14 -/
def redo_Need.f (k : Nat) (a0 : ByteArray) : Option (Int) := (redo_Record.f k 0 a0).bind fun t113 => ((redo_sectors.f (t113.size : Int)).bind fun t114 => (some t114))
theorem redo_Need.mono : ∀ a0 k, LeO (redo_Need.f k a0) (redo_Need.f (k + 1) a0) := by
 intro a0 k
 unfold redo_Need.f
 repeat' first
   | (with_reducible exact redo_Record.mono _ _ _)
   | (with_reducible exact LeO.refl _)
   | (with_reducible exact LeO.none _)
   | (with_reducible refine LeO.ite ?_ ?_)
   | (with_reducible refine LeO.bind ?_ (fun _ => ?_))
   | exact redo_Record.mono _ _ _
   | exact LeO.none _
   | refine LeO.ite ?_ ?_
   | refine LeO.bind ?_ (fun _ => ?_)
set_option maxHeartbeats 8000000 in
set_option maxRecDepth 100000 in
theorem redo_Need.calls (k : Nat) (a0 : ByteArray) (r : Int) (w : World) (h : redo_Need.f k a0 = some r) :
  Calls Try.prog 14 #[.string a0] w fun e w' => e = .returned (.int .i64 r) ∧ Below w.heap.size w w' := by
 have HB := Aside0.mk (Below.refl w.heap.size w)
 have H : ((redo_Record.f k 0 a0).bind fun t113 => ((redo_sectors.f (t113.size : Int)).bind fun t114 => (some t114))) = some r := h
 clear h
 replace H := Option.bind_eq_some_iff.mp H
 obtain ⟨t113, A20, H⟩ := H
 replace H : ((redo_sectors.f (t113.size : Int)).bind fun t114 => (some t114)) = some r := H
 have A2 := Aside0.mk A20
 clear A20
 replace H := Option.bind_eq_some_iff.mp H
 obtain ⟨t114, A30, H⟩ := H
 replace H : (some t114) = some r := H
 have A3 := Aside0.mk A30
 clear A30
 obtain rfl := Option.some.inj H
 go_enter Try.func14, Try.ntmps14
 go_wp2_with (first | ((with_reducible refine gate_callee (f := 15) rfl ?_); refine goesL_ (some 4) rfl rfl Try.func15 (by kernel_rfl) rfl #[.int .u64 0, .string a0] rfl (by (try simp only [List.map_toArray, List.map_cons, List.map_nil]); first | done | rfl | (simp only [List.length_drop, List.length_take]; rfl)) ?_; (with_reducible refine (redo_Record.calls k 0 a0 t113 _ A2.out).mono ?_); rintro e w4 ⟨rfl, hb⟩; refine ⟨_, rfl, ?_⟩; have n0_ := Aside0.mk (below_step (by repeat (first | (with_reducible first | exact HB.out | apply below_alloc | apply pw_below_drewN | apply below_drew1) | exact HB.out)) hb); clear HB; have HB := n0_; clear n0_; (try clear hb); (try clear hb2); (try clear hk); (try clear hi)) | ((with_reducible refine gate_callee (f := 33) rfl ?_); refine goesL_ (some 6) rfl rfl Try.func33 (by kernel_rfl) rfl #[.int .i64 (t113.size : Int)] rfl (by (try simp only [List.map_toArray, List.map_cons, List.map_nil]); first | done | rfl | (simp only [List.length_drop, List.length_take]; rfl)) ?_; (with_reducible refine (redo_sectors.calls (t113.size : Int) t114 _ A3.out).mono ?_); rintro e w' ⟨rfl, ⟨nd, rfl⟩⟩; refine ⟨_, rfl, ?_⟩))
 go_ret
 exact ⟨by first | rfl | (simp [errW_none, errW_some] <;> rfl) | (simp [*, errW_none, errW_some] <;> rfl), by repeat (first | (with_reducible first | exact HB.out | apply below_alloc | apply pw_below_drewN | apply below_drew1) | exact HB.out)⟩

-- GIVEN: function 17 (redo_Scan): its Lean function and its contract stand in a text of this session's

/-! ### copyholdref04_filled: function 47 -/
def copyholdref04_filled.l0 : Nat → ByteArray → Option (ByteArray)
 | 0, _ => none
 | k + 1, x0 => if (x0.size : Int) < 64 then (if x0.size + 1 ≤ 9223372036854775807 then (copyholdref04_filled.l0 k (x0 ++ (⟨#[0]⟩ : ByteArray))) else (none)) else (some x0)
def copyholdref04_filled.f (k : Nat) (a0 : ByteArray) : Option (ByteArray) := copyholdref04_filled.l0 k a0
theorem copyholdref04_filled.mono_l : ∀ k, (∀ y0, LeO (copyholdref04_filled.l0 k y0) (copyholdref04_filled.l0 (k + 1) y0))
 | 0 => fun _ r h => by simp [copyholdref04_filled.l0] at h
 | k + 1 => by
  have ih0 := copyholdref04_filled.mono_l k
  ·intro y0
   unfold copyholdref04_filled.l0
   repeat' first
   | (with_reducible exact ih0 _)
   | (with_reducible exact LeO.refl _)
   | (with_reducible exact LeO.none _)
   | (with_reducible refine LeO.ite ?_ ?_)
   | (with_reducible refine LeO.bind ?_ (fun _ => ?_))
   | exact ih0 _
   | exact LeO.none _
   | refine LeO.ite ?_ ?_
   | refine LeO.bind ?_ (fun _ => ?_)
theorem copyholdref04_filled.mono : ∀ a0 k, LeO (copyholdref04_filled.f k a0) (copyholdref04_filled.f (k + 1) a0) := by
 intro a0 k
 have ih0 := copyholdref04_filled.mono_l k
 unfold copyholdref04_filled.f
 repeat' first
   | (with_reducible exact ih0 _)
   | (with_reducible exact LeO.refl _)
   | (with_reducible exact LeO.none _)
   | (with_reducible refine LeO.ite ?_ ?_)
   | (with_reducible refine LeO.bind ?_ (fun _ => ?_))
   | exact ih0 _
   | exact LeO.none _
   | refine LeO.ite ?_ ?_
   | refine LeO.bind ?_ (fun _ => ?_)
set_option maxHeartbeats 8000000 in
set_option maxRecDepth 100000 in
theorem copyholdref04_filled.calls (k : Nat) (a0 : ByteArray) (r : ByteArray) (w : World) (h : copyholdref04_filled.f k a0 = some r) :
  Calls Try.prog 47 #[.string a0] w fun e w' => e = .returned (.string r) ∧ Drawn0 w w' := by
 have H : (copyholdref04_filled.l0 k a0) = some r := h
 clear h
 have H' := Aside0.mk H
 clear H
 go_enter Try.func47, Try.ntmps47
 go_wp2
 go_loopg [0] k (fun kq v0 w' => ∃ (x0_1 : ByteArray), v0 = .string x0_1 ∧ Aside0 (copyholdref04_filled.l0 kq x0_1 = some r) ∧ Aside0 (kq ≤ k) ∧ Drawn0 w w')
 case atStart => exact ⟨(a0), (by first | rfl | (simp; done) | (simp [*]; done)), H', ⟨Nat.le_refl _⟩, by repeat (first | exact Drawn0.refl _ | apply Drawn0.step)⟩
 case round =>
  clear H'
  obtain ⟨x0_1, rfl, HA, HK1, ⟨m1, rfl⟩⟩ := hrel
  cases gk with
  | zero => exact absurd HA.out (by simp [copyholdref04_filled.l0])
  | succ k1 =>
   (have H := HA.out; clear HA)
   simp only [copyholdref04_filled.l0] at H
   by_cases c2 : (x0_1.size : Int) < 64
   ·rw [if_pos c2] at H
    have c2b0 : decide ((x0_1.size : Int) < 64) = true := decide_eq_true c2
    have c2b1 : decide (x0_1.size < 64) = true := decide_eq_true (by omega)
    clear c2
    by_cases c3 : x0_1.size + 1 ≤ 9223372036854775807
    ·rw [if_pos c3] at H
     have c3b0 := eq_true c3
     have c3b1 : decide (x0_1.size + 1 ≤ 9223372036854775807) = true := decide_eq_true c3
     try have c3b2 : (9223372036854775807 < x0_1.size + 1) = False := eq_false (Nat.not_lt.2 c3)
     have H' := Aside0.mk H
     clear H
     go_wp2
     go_roundg k1
     case measure => have := HK1.out; omega
     case rel => exact ⟨(x0_1 ++ (⟨#[0]⟩ : ByteArray)), (by first | rfl | (simp; done) | (simp [*]; done)), H', ⟨by have := HK1.out; omega⟩, by repeat (first | exact Drawn0.refl _ | apply Drawn0.step)⟩
    ·rw [if_neg c3] at H
     exact absurd H (by simp)
   ·rw [if_neg c2] at H
    have c2b0 : decide ((x0_1.size : Int) < 64) = false := decide_eq_false c2
    have c2b1 : decide (x0_1.size < 64) = false := decide_eq_false (by omega)
    clear c2
    obtain rfl := Option.some.inj H
    go_wp2
    go_ret
    exact ⟨by first | rfl | (simp; done) | (simp [*]; done), by repeat (first | exact Drawn0.refl _ | apply Drawn0.step)⟩

/-! ### copyholdref04_New: function 27 -/
mutual
def copyholdref04_New.j0 : Nat → Int → Bool → Option (List ByteArray × (List (S88)) × Bool × Int)
 | 0, _, _ => none
 | k + 1, x0, x12 => if x12 = true then (some (([] : List ByteArray), ([] : List (S88)), false, 1)) else ((copyholdref04_filled.f k (⟨#[]⟩ : ByteArray)).bind fun t117 => (copyholdref04_New.l0 k x0 t117 0 ([] : List ByteArray) false))
def copyholdref04_New.l0 : Nat → Int → ByteArray → Int → List ByteArray → Bool → Option (List ByteArray × (List (S88)) × Bool × Int)
 | 0, _, _, _, _, _ => none
 | k + 1, x0, x5, x6, x117000, x117002 => if x6 < x0 then (if x117000.length < 8796093022208 then (copyholdref04_New.l0 k x0 x5 (wrap64 (x6 + 1)) (x117000 ++ [x5]) x117002) else (none)) else (some (x117000, ([] : List (S88)), x117002, 0))
end
def copyholdref04_New.f (k : Nat) (a0 : Int) : Option (List ByteArray × (List (S88)) × Bool × Int) := if a0 < 1 then (copyholdref04_New.j0 k a0 true) else (copyholdref04_New.j0 k a0 (decide (a0 > 4096)))
theorem copyholdref04_New.mono_l : ∀ k, (∀ y0 y1, LeO (copyholdref04_New.j0 k y0 y1) (copyholdref04_New.j0 (k + 1) y0 y1)) ∧ (∀ y0 y1 y2 y3 y4, LeO (copyholdref04_New.l0 k y0 y1 y2 y3 y4) (copyholdref04_New.l0 (k + 1) y0 y1 y2 y3 y4))
 | 0 => ⟨fun _ _ r h => by simp [copyholdref04_New.j0] at h, fun _ _ _ _ _ r h => by simp [copyholdref04_New.l0] at h⟩
 | k + 1 => by
  obtain ⟨ih0, ih1⟩ := copyholdref04_New.mono_l k
  refine ⟨?_, ?_⟩
  ·intro y0 y1
   unfold copyholdref04_New.j0
   repeat' first
   | (with_reducible exact ih0 _ _)
   | (with_reducible exact ih1 _ _ _ _ _)
   | (with_reducible exact copyholdref04_filled.mono _ _)
   | (with_reducible exact LeO.refl _)
   | (with_reducible exact LeO.none _)
   | (with_reducible refine LeO.ite ?_ ?_)
   | (with_reducible refine LeO.bind ?_ (fun _ => ?_))
   | exact ih0 _ _
   | exact ih1 _ _ _ _ _
   | exact copyholdref04_filled.mono _ _
   | exact LeO.none _
   | refine LeO.ite ?_ ?_
   | refine LeO.bind ?_ (fun _ => ?_)
  ·intro y0 y1 y2 y3 y4
   unfold copyholdref04_New.l0
   repeat' first
   | (with_reducible exact ih0 _ _)
   | (with_reducible exact ih1 _ _ _ _ _)
   | (with_reducible exact copyholdref04_filled.mono _ _)
   | (with_reducible exact LeO.refl _)
   | (with_reducible exact LeO.none _)
   | (with_reducible refine LeO.ite ?_ ?_)
   | (with_reducible refine LeO.bind ?_ (fun _ => ?_))
   | exact ih0 _ _
   | exact ih1 _ _ _ _ _
   | exact copyholdref04_filled.mono _ _
   | exact LeO.none _
   | refine LeO.ite ?_ ?_
   | refine LeO.bind ?_ (fun _ => ?_)
theorem copyholdref04_New.mono : ∀ a0 k, LeO (copyholdref04_New.f k a0) (copyholdref04_New.f (k + 1) a0) := by
 intro a0 k
 obtain ⟨ih0, ih1⟩ := copyholdref04_New.mono_l k
 unfold copyholdref04_New.f
 repeat' first
   | (with_reducible exact ih0 _ _)
   | (with_reducible exact ih1 _ _ _ _ _)
   | (with_reducible exact copyholdref04_filled.mono _ _)
   | (with_reducible exact LeO.refl _)
   | (with_reducible exact LeO.none _)
   | (with_reducible refine LeO.ite ?_ ?_)
   | (with_reducible refine LeO.bind ?_ (fun _ => ?_))
   | exact ih0 _ _
   | exact ih1 _ _ _ _ _
   | exact copyholdref04_filled.mono _ _
   | exact LeO.none _
   | refine LeO.ite ?_ ?_
   | refine LeO.bind ?_ (fun _ => ?_)
set_option maxHeartbeats 8000000 in
set_option maxRecDepth 100000 in
theorem copyholdref04_New.calls (k : Nat) (a0 : Int) (r1 : List ByteArray) (r2 : List (S88)) (r3 : Bool) (r4 : Int) (w : World) (h : copyholdref04_New.f k a0 = some (r1, r2, r3, r4)) :
  Calls Try.prog 27 #[.int .i64 a0] w fun e w' => ∃ v0_ v1_ : Value, e = .returned (.tuple #[.agg #[v0_, v1_, .bool r3], .int .i64 r4]) ∧ Kd.R Kd.string 9 w' w.heap.size (fun _ => True) v0_ r1 ∧ Kd.R k88 88 w' w.heap.size (fun _ => True) v1_ r2 ∧ Below w.heap.size w w' := by
 have hu25 := Try.underlying25
 have HB := Aside0.mk (Below.refl w.heap.size w)
 have H : (if a0 < 1 then (copyholdref04_New.j0 k a0 true) else (copyholdref04_New.j0 k a0 (decide (a0 > 4096)))) = some (r1, r2, r3, r4) := h
 clear h
 have HC2 := Aside0.mk H
 clear H
 go_enter Try.func27, Try.ntmps27
 go_upto_region 1 with (first | ((with_reducible refine gate_dst (N := 2) rfl ?_); refine box_event ?hg (N := 2) ?hd (cs := #[.slice none 0 0, .slice none 0 0, .bool false]) (t := 25) ?hr ?_; (case hd => rfl); (case hg => rfl); (case hr => first | (go_simp; done) | (go_simp; rfl)); intro gb115 hg w3 hbox hb; have n0_ := Aside0.mk (below_step (by repeat (first | (with_reducible first | exact HB.out | apply below_alloc | apply pw_below_drewN | apply below_drew1) | exact HB.out)) hb); have n1_ := Aside0.mk (hbox); have n2_ := Aside0.mk ((by rw [hg]; exact (below_size (by repeat (first | (with_reducible first | exact HB.out | apply below_alloc | apply pw_below_drewN | apply below_drew1) | exact HB.out))) : w.heap.size ≤ gb115)); have n3_ := Aside0.mk ((by rw [hg]; exact (below_size (by repeat (first | (with_reducible first | exact HB.out | apply below_alloc | apply pw_below_drewN | apply below_drew1) | exact HB.out))) : w.heap.size ≤ gb115)); clear HB; have HB := n0_; have BK115 := n1_; have GW115 := n2_; have GE115 := n3_; clear n0_ n1_ n2_ n3_; clear hb hbox hg))
 (try simp only [Act.put, List.setIfInBounds_toArray, List.set_cons_zero, List.set_cons_succ])
 go_cut [12] (fun v12 wc => ∃ (kq : Nat) (x12_1 : Bool), v12 = .bool x12_1 ∧ Aside0 (copyholdref04_New.j0 kq a0 x12_1 = some (r1, r2, r3, r4)) ∧ Aside0 (kq ≤ k) ∧ Aside0 (wc.heap[gb115]? = some (.cells #[(.slice none 0 0), (.slice none 0 0), .bool false] 25 (0, 0))) ∧ Aside0 (Below w.heap.size w wc))
 case first =>
  (have H := HC2.out; clear HC2)
  by_cases c4 : a0 < 1
  ·rw [if_pos c4] at H
   have c4b0 : decide (a0 < 1) = true := decide_eq_true c4
   clear c4
   (first | rw [c4b0] | (simp only [i64_w, i32_w]; rw [c4b0]) | skip)
   have H' := Aside0.mk H
   clear H
   go_wp2
   go_meet
   case rel => exact ⟨_, (true), (by first | rfl | (simp; done) | (simp [*]; done)), H', ⟨by first | omega | exact Nat.le_refl _⟩, ⟨by (with_reducible repeat (first | refine blk_drewN ?_ _ | refine blk_drew ?_ | refine blk_alloc ?_ _)); exact BK115.out⟩, ⟨by repeat (first | (with_reducible first | exact HB.out | apply below_alloc | apply pw_below_drewN | apply below_drew1 | refine below_set ?_ GE115.out) | exact HB.out)⟩⟩
  ·rw [if_neg c4] at H
   have c4b0 : decide (a0 < 1) = false := decide_eq_false c4
   clear c4
   (first | rw [c4b0] | (simp only [i64_w, i32_w]; rw [c4b0]) | skip)
   have H' := Aside0.mk H
   clear H
   go_wp2
   go_meet
   case rel => exact ⟨_, (decide (a0 > 4096)), (by first | rfl | (simp; done) | (simp [*]; done)), H', ⟨by first | omega | exact Nat.le_refl _⟩, ⟨by (with_reducible repeat (first | refine blk_drewN ?_ _ | refine blk_drew ?_ | refine blk_alloc ?_ _)); exact BK115.out⟩, ⟨by repeat (first | (with_reducible first | exact HB.out | apply below_alloc | apply pw_below_drewN | apply below_drew1 | refine below_set ?_ GE115.out) | exact HB.out)⟩⟩
 case rest =>
  (clear HC2; (try clear c2); (try clear p2); (try clear c4); (try clear c4b0))
  obtain ⟨kq, x12_1, rfl, HA, HJ1, BK115, HB⟩ := hcut
  cases kq with
  | zero => exact absurd HA.out (by simp [copyholdref04_New.j0])
  | succ kj1 =>
   (have H := HA.out; clear HA)
   simp only [copyholdref04_New.j0] at H
   by_cases c5 : x12_1 = true
   ·subst c5
    have H1 : (some (([] : List ByteArray), ([] : List (S88)), false, 1)) = some (r1, r2, r3, r4) := by rw [if_pos rfl] at H; exact H
    clear H
    have H := H1
    clear H1
    simp only [Option.some.injEq, Prod.mk.injEq] at H
    obtain ⟨rfl, rfl, rfl, rfl⟩ := H
    have hcz6_0 : wc.cell? ⟨gb115, 0, none⟩ = some (.slice none 0 0) := (blk_cell BK115.out 0).trans rfl
    have hcz6_1 : wc.cell? ⟨gb115, 1, none⟩ = some (.slice none 0 0) := (blk_cell BK115.out 1).trans rfl
    have hcz6_2 : wc.cell? ⟨gb115, 2, none⟩ = some (.bool false) := (blk_cell BK115.out 2).trans rfl
    (have hfz6_0 := blk_frozen BK115.out 0; have hfz6_1 := blk_frozen BK115.out 1; have hfz6_2 := blk_frozen BK115.out 2)
    go_wp2
    refine bodyPost_ret (results_ct rfl _ _ gb115 25 #[.slice none 0 0, .slice none 0 0, .bool false] (0, 0) _ rfl (by (with_reducible repeat (first | refine blk_drewN ?_ _ | refine blk_drew ?_ | refine blk_alloc ?_ _)); refine blk_put (cs := #[.slice none 0 0, .slice none 0 0, .bool false]) ?_ 2 _ rfl; (with_reducible repeat (first | refine blk_drewN ?_ _ | refine blk_drew ?_ | refine blk_alloc ?_ _)); refine blk_put (cs := #[.slice none 0 0, .slice none 0 0, .bool false]) ?_ 1 _ rfl; (with_reducible repeat (first | refine blk_drewN ?_ _ | refine blk_drew ?_ | refine blk_alloc ?_ _)); refine blk_put (cs := #[.slice none 0 0, .slice none 0 0, .bool false]) ?_ 0 _ rfl; (with_reducible repeat (first | refine blk_drewN ?_ _ | refine blk_drew ?_ | refine blk_alloc ?_ _)); exact BK115.out) Try.underlying25 rfl (by kernel_rfl)) rfl ?_
    exact ⟨_, _, by first | rfl | (simp [errW_none, errW_some] <;> rfl) | (simp [*, errW_none, errW_some] <;> rfl), by first | exact Kd.R_nil _ _ _ _ _ | exact Kd.N_nil _ _ _ _ _ | exact Kd.V_nil _ _ _ _ _ | exact Kd.Q_nil _ _ _ _ _ | exact Kd.S_nil _ _ _ _ _, by first | exact Kd.R_nil _ _ _ _ _ | exact Kd.N_nil _ _ _ _ _ | exact Kd.V_nil _ _ _ _ _ | exact Kd.Q_nil _ _ _ _ _ | exact Kd.S_nil _ _ _ _ _, by repeat (first | (with_reducible first | exact HB.out | apply below_alloc | apply pw_below_drewN | apply below_drew1 | refine below_set ?_ GE115.out) | exact HB.out)⟩
   ·replace c5 := Bool.eq_false_iff.mpr c5
    subst c5
    have H1 : ((copyholdref04_filled.f kj1 (⟨#[]⟩ : ByteArray)).bind fun t117 => (copyholdref04_New.l0 kj1 a0 t117 0 ([] : List ByteArray) false)) = some (r1, r2, r3, r4) := by rw [if_neg (show ¬ (false = true) by decide)] at H; exact H
    clear H
    have H := H1
    clear H1
    replace H := Option.bind_eq_some_iff.mp H
    obtain ⟨t117, A70, H⟩ := H
    replace H : (copyholdref04_New.l0 kj1 a0 t117 0 ([] : List ByteArray) false) = some (r1, r2, r3, r4) := H
    have A7 := Aside0.mk A70
    clear A70
    have H' := Aside0.mk H
    clear H
    go_wp2_with (first | ((with_reducible refine gate_dst (N := 4) rfl ?_); refine box_event ?hg (N := 4) ?hd (cs := #[.slice none 0 0, .slice none 0 0, .bool false]) (t := 25) ?hr ?_; (case hd => rfl); (case hg => rfl); (case hr => first | (go_simp; done) | (go_simp; rfl)); intro gb116 hg w8 hbox hb; have n0_ := Aside0.mk (blk_below (g := gb115) (o := .cells #[.slice none 0 0, .slice none 0 0, .bool false] 25 (0, 0)) (by (with_reducible repeat (first | refine blk_drewN ?_ _ | refine blk_drew ?_ | refine blk_alloc ?_ _)); exact BK115.out) hb); have n1_ := Aside0.mk (below_step (by repeat (first | (with_reducible first | exact HB.out | apply below_alloc | apply pw_below_drewN | apply below_drew1 | refine below_set ?_ GE115.out) | exact HB.out)) hb); have n2_ := Aside0.mk (hbox); have n3_ := Aside0.mk ((by rw [hg]; exact (below_size (by repeat (first | (with_reducible first | exact HB.out | apply below_alloc | apply pw_below_drewN | apply below_drew1 | refine below_set ?_ GE115.out) | exact HB.out))) : w.heap.size ≤ gb116)); have n4_ := Aside0.mk ((by rw [hg]; exact (below_size (by repeat (first | (with_reducible first | exact HB.out | apply below_alloc | apply pw_below_drewN | apply below_drew1 | refine below_set ?_ GE115.out) | exact HB.out))) : w.heap.size ≤ gb116)); have n5_ := Aside0.mk ((by rw [hg]; exact Nat.ne_of_lt (blk_lt (g := gb115) (o := .cells #[.slice none 0 0, .slice none 0 0, .bool false] 25 (0, 0)) (by (with_reducible repeat (first | refine blk_drewN ?_ _ | refine blk_drew ?_ | refine blk_alloc ?_ _)); exact BK115.out)) : gb115 ≠ gb116)); have n6_ := Aside0.mk ((by rw [hg]; exact Nat.ne_of_gt (blk_lt (g := gb115) (o := .cells #[.slice none 0 0, .slice none 0 0, .bool false] 25 (0, 0)) (by (with_reducible repeat (first | refine blk_drewN ?_ _ | refine blk_drew ?_ | refine blk_alloc ?_ _)); exact BK115.out)) : gb116 ≠ gb115)); clear BK115; clear HB; have BK115 := n0_; have HB := n1_; have BK116 := n2_; have GW116 := n3_; have GE116 := n4_; have NB115_116 := n5_; have NB116_115 := n6_; clear n0_ n1_ n2_ n3_ n4_ n5_ n6_; clear hb hbox hg; have hnb9 := NB116_115.out; have hnc9 := NB115_116.out; have hcz10_0 : w8.cell? ⟨gb116, 0, none⟩ = some (.slice none 0 0) := (blk_cell BK116.out 0).trans rfl; have hcz10_1 : w8.cell? ⟨gb116, 1, none⟩ = some (.slice none 0 0) := (blk_cell BK116.out 1).trans rfl; have hcz10_2 : w8.cell? ⟨gb116, 2, none⟩ = some (.bool false) := (blk_cell BK116.out 2).trans rfl; have hfz10_0 := blk_frozen BK116.out 0; have hfz10_1 := blk_frozen BK116.out 1; have hfz10_2 := blk_frozen BK116.out 2) | ((with_reducible refine gate_callee (f := 47) rfl ?_); refine goesL_ (some 15) rfl rfl Try.func47 (by kernel_rfl) rfl #[.string (⟨#[]⟩ : ByteArray)] rfl (by (try simp only [List.map_toArray, List.map_cons, List.map_nil]); first | done | rfl | (simp only [List.length_drop, List.length_take]; rfl)) ?_; (with_reducible refine (copyholdref04_filled.calls kj1 (⟨#[]⟩ : ByteArray) t117 _ A7.out).mono ?_); rintro e w' ⟨rfl, ⟨nd, rfl⟩⟩; refine ⟨_, rfl, ?_⟩))
    go_loopg [6] kj1 (fun kq v6 w' => ∃ (x6_2 : Int) (x117000_2 : List ByteArray) (u117000 : Value), v6 = .int .i64 x6_2 ∧ Aside0 (copyholdref04_New.l0 kq a0 t117 x6_2 x117000_2 false = some (r1, r2, r3, r4)) ∧ Aside0 (kq ≤ kj1) ∧ Aside0 (Kd.R Kd.string 9 w' w.heap.size (fun _ => True) u117000 x117000_2) ∧ Aside0 (w'.heap[gb115]? = some (.cells #[(.slice none 0 0), (.slice none 0 0), .bool false] 25 (0, 0))) ∧ Aside0 (w'.heap[gb116]? = some (.cells #[u117000, (.slice none 0 0), .bool false] 25 (0, 0))) ∧ Aside0 (Below w.heap.size w w'))
    case atStart => exact ⟨(0), (([] : List ByteArray)), (.slice none 0 0), (by first | rfl | (simp; done) | (simp [*]; done)), H', ⟨Nat.le_refl _⟩, ⟨by first | exact Kd.R_nil _ _ _ _ _ | exact Kd.N_nil _ _ _ _ _ | exact Kd.V_nil _ _ _ _ _ | exact Kd.Q_nil _ _ _ _ _ | exact Kd.S_nil _ _ _ _ _⟩, ⟨by (iterate 3 ((with_reducible repeat (first | refine blk_drewN ?_ _ | refine blk_drew ?_ | refine blk_alloc ?_ _)); refine blk_far ?_ NB115_116.out _)); (with_reducible repeat (first | refine blk_drewN ?_ _ | refine blk_drew ?_ | refine blk_alloc ?_ _)); exact BK115.out⟩, ⟨by (with_reducible repeat (first | refine blk_drewN ?_ _ | refine blk_drew ?_ | refine blk_alloc ?_ _)); refine blk_put (cs := #[.slice none 0 0, .slice none 0 0, .bool false]) ?_ 2 _ rfl; (with_reducible repeat (first | refine blk_drewN ?_ _ | refine blk_drew ?_ | refine blk_alloc ?_ _)); refine blk_put (cs := #[.slice none 0 0, .slice none 0 0, .bool false]) ?_ 1 _ rfl; (with_reducible repeat (first | refine blk_drewN ?_ _ | refine blk_drew ?_ | refine blk_alloc ?_ _)); refine blk_put (cs := #[.slice none 0 0, .slice none 0 0, .bool false]) ?_ 0 _ rfl; (with_reducible repeat (first | refine blk_drewN ?_ _ | refine blk_drew ?_ | refine blk_alloc ?_ _)); exact BK116.out⟩, ⟨by repeat (first | (with_reducible first | exact HB.out | apply below_alloc | apply pw_below_drewN | apply below_drew1 | refine below_set ?_ GE115.out | refine below_set ?_ GE116.out) | exact HB.out)⟩⟩
    case round =>
     clear H'
     ((try clear c2); (try clear p2); (try clear c4); (try clear c4b0); (try clear c5); (try clear c9); (try clear hcz10_0); (try clear hcz10_1); (try clear hcz10_2); (try clear hcz6_0); (try clear hcz6_1); (try clear hcz6_2); (try clear hfz10_0); (try clear hfz10_1); (try clear hfz10_2); (try clear hfz6_0); (try clear hfz6_1); (try clear hfz6_2); (try clear p2))
     obtain ⟨x6_2, x117000_2, u117000, rfl, HA, HK2, HO_117000, BK115, BK116, HB⟩ := hrel
     cases gk with
     | zero => exact absurd HA.out (by simp [copyholdref04_New.l0])
     | succ k2 =>
      (have H := HA.out; clear HA)
      simp only [copyholdref04_New.l0] at H
      by_cases c11 : x6_2 < a0
      ·rw [if_pos c11] at H
       have c11b0 : decide (x6_2 < a0) = true := decide_eq_true c11
       clear c11
       by_cases c12 : x117000_2.length < 8796093022208
       ·rw [if_pos c12] at H
        have LMc12 := Aside0.mk c12
        clear c12
        obtain ⟨y118, hy118⟩ : ∃ y_ : List ByteArray, y_ = (x117000_2 ++ [t117]) := ⟨_, rfl⟩
        replace H : (copyholdref04_New.l0 k2 a0 t117 (wrap64 (x6_2 + 1)) y118 false) = some (r1, r2, r3, r4) := by first | (rw [hy118]; with_reducible exact H) | (have H2_ := (Option.bind_some _ _).symm.trans H; rw [hy118]; with_reducible exact H2_) | (have H2_ := (Option.bind_some _ _).symm.trans H; with_reducible exact H2_) | with_reducible exact H | (rw [hy118]; exact H) | exact H
        have Ny118 := Aside0.mk hy118
        clear hy118
        have H' := Aside0.mk H
        clear H
        have hnb13 := NB116_115.out
        have hnc13 := NB115_116.out
        have hcz14_0 : wr.cell? ⟨gb116, 0, none⟩ = some (u117000) := (blk_cell BK116.out 0).trans rfl
        have hcz14_1 : wr.cell? ⟨gb116, 1, none⟩ = some (.slice none 0 0) := (blk_cell BK116.out 1).trans rfl
        have hcz14_2 : wr.cell? ⟨gb116, 2, none⟩ = some (.bool false) := (blk_cell BK116.out 2).trans rfl
        (have hfz14_0 := blk_frozen BK116.out 0; have hfz14_1 := blk_frozen BK116.out 1; have hfz14_2 := blk_frozen BK116.out 2)
        go_wp2_with (first | ((with_reducible refine gate_builtin (b := .append) (xs := #[.tmp 22, .tmp 24]) rfl ?_); at_builtin; refine Kd.R_append Kd.string (w0 := w) w.heap.size rfl (.tmp 22) (.tmp 24) 22 9 (.string ⟨#[]⟩) 16 rfl Try.underlying22 info9 rfl (by decide) (by omega) u117000 x117000_2 t117 [.string t117] (fun _ => True) (fun _ => False) rfl rfl ?aP (fun _ hk => hk.elim) ?aF ?aO ?aB ?aS ?aL ?_; (case aP => exact rfl); (case aB => exact (by repeat (first | (with_reducible first | exact HB.out | apply below_alloc | apply pw_below_drewN | apply below_drew1 | refine below_set ?_ GE115.out | refine below_set ?_ GE116.out) | exact HB.out))); (case aF => exact (fun _ _ => trivial)); (case aO => exact (by (with_reducible repeat (first | apply Kd.R_alloc | apply Kd.R_drewN | apply Kd.R_drew)); exact HO_117000.out)); (case aS => exact (below_size (by repeat (first | (with_reducible first | exact HB.out | apply below_alloc | apply pw_below_drewN | apply below_drew1 | refine below_set ?_ GE115.out | refine below_set ?_ GE116.out) | exact HB.out)))); (case aL => have := LMc12.out; omega); intro v119 w15 ho hb hg hat; rw [← Ny118.out] at ho; have n0_ := Aside0.mk (blk_grown (g := gb115) (o := .cells #[.slice none 0 0, .slice none 0 0, .bool false] 25 (0, 0)) (by (with_reducible repeat (first | refine blk_drewN ?_ _ | refine blk_drew ?_ | refine blk_alloc ?_ _)); exact BK115.out) hg (Kd.R_ne HO_117000.out BK115.out (by decide))); have n1_ := Aside0.mk (blk_grown (g := gb116) (o := .cells #[u117000, .slice none 0 0, .bool false] 25 (0, 0)) (by (with_reducible repeat (first | refine blk_drewN ?_ _ | refine blk_drew ?_ | refine blk_alloc ?_ _)); exact BK116.out) hg (Kd.R_ne HO_117000.out BK116.out (by decide))); have n2_ := Aside0.mk (hb); have n3_ := Aside0.mk (ho); clear BK115; clear BK116; clear HB; clear HO_117000; have BK115 := n0_; have BK116 := n1_; have HB := n2_; have HO120 := n3_; clear n0_ n1_ n2_ n3_; clear ho hb hg hat; obtain ⟨Ao16, co16, eo16⟩ := Kd.R_slice HO120.out; subst eo16; have hcz17_0 : w15.cell? ⟨gb116, 0, none⟩ = some (u117000) := (blk_cell BK116.out 0).trans rfl; have hcz17_1 : w15.cell? ⟨gb116, 1, none⟩ = some (.slice none 0 0) := (blk_cell BK116.out 1).trans rfl; have hcz17_2 : w15.cell? ⟨gb116, 2, none⟩ = some (.bool false) := (blk_cell BK116.out 2).trans rfl; have hfz17_0 := blk_frozen BK116.out 0; have hfz17_1 := blk_frozen BK116.out 1; have hfz17_2 := blk_frozen BK116.out 2))
        go_roundg k2
        case measure => have := HJ1.out; have := HK2.out; omega
        case rel => exact ⟨(wrap64 (x6_2 + 1)), (y118), (.slice Ao16 y118.length co16), (by first | rfl | (simp; done) | (simp [*]; done)), H', ⟨by have := HJ1.out; have := HK2.out; omega⟩, ⟨by (with_reducible repeat (first | apply Kd.R_alloc | apply Kd.R_drewN | apply Kd.R_drew)); exact Kd.R_mono (Kd.R_far (p := ⟨gb116, 0, none⟩) (Kd.R_types HO120.out BK116.out (by decide)) (fun _ hk => hk.2) (.slice Ao16 y118.length co16)) (fun _ hk => trivial)⟩, ⟨by (with_reducible repeat (first | refine blk_drewN ?_ _ | refine blk_drew ?_ | refine blk_alloc ?_ _)); refine blk_far ?_ NB115_116.out _; (with_reducible repeat (first | refine blk_drewN ?_ _ | refine blk_drew ?_ | refine blk_alloc ?_ _)); exact BK115.out⟩, ⟨by (with_reducible repeat (first | refine blk_drewN ?_ _ | refine blk_drew ?_ | refine blk_alloc ?_ _)); refine blk_put (cs := #[u117000, .slice none 0 0, .bool false]) ?_ 0 _ rfl; (with_reducible repeat (first | refine blk_drewN ?_ _ | refine blk_drew ?_ | refine blk_alloc ?_ _)); exact BK116.out⟩, ⟨by repeat (first | (with_reducible first | exact HB.out | apply below_alloc | apply pw_below_drewN | apply below_drew1 | refine below_set ?_ GE115.out | refine below_set ?_ GE116.out) | exact HB.out)⟩⟩
       ·rw [if_neg c12] at H
        exact absurd H (by simp)
      ·rw [if_neg c11] at H
       have c11b0 : decide (x6_2 < a0) = false := decide_eq_false c11
       clear c11
       simp only [Option.some.injEq, Prod.mk.injEq] at H
       obtain ⟨rfl, rfl, rfl, rfl⟩ := H
       have hnb18 := NB116_115.out
       have hnc18 := NB115_116.out
       have hcz19_0 : wr.cell? ⟨gb116, 0, none⟩ = some (u117000) := (blk_cell BK116.out 0).trans rfl
       have hcz19_1 : wr.cell? ⟨gb116, 1, none⟩ = some (.slice none 0 0) := (blk_cell BK116.out 1).trans rfl
       have hcz19_2 : wr.cell? ⟨gb116, 2, none⟩ = some (.bool false) := (blk_cell BK116.out 2).trans rfl
       (have hfz19_0 := blk_frozen BK116.out 0; have hfz19_1 := blk_frozen BK116.out 1; have hfz19_2 := blk_frozen BK116.out 2)
       obtain ⟨Ao20, co20, eo20⟩ := Kd.R_slice HO_117000.out
       subst eo20
       have hcz21_0 : wr.cell? ⟨gb115, 0, none⟩ = some (.slice none 0 0) := (blk_cell BK115.out 0).trans rfl
       have hcz21_1 : wr.cell? ⟨gb115, 1, none⟩ = some (.slice none 0 0) := (blk_cell BK115.out 1).trans rfl
       have hcz21_2 : wr.cell? ⟨gb115, 2, none⟩ = some (.bool false) := (blk_cell BK115.out 2).trans rfl
       (have hfz21_0 := blk_frozen BK115.out 0; have hfz21_1 := blk_frozen BK115.out 1; have hfz21_2 := blk_frozen BK115.out 2)
       go_wp2
       refine bodyPost_ret (results_ct rfl _ _ gb115 25 #[.slice Ao20 x117000_2.length co20, .slice none 0 0, .bool false] (0, 0) _ rfl (by (with_reducible repeat (first | refine blk_drewN ?_ _ | refine blk_drew ?_ | refine blk_alloc ?_ _)); refine blk_put (cs := #[.slice Ao20 x117000_2.length co20, .slice none 0 0, .bool false]) ?_ 2 _ rfl; (with_reducible repeat (first | refine blk_drewN ?_ _ | refine blk_drew ?_ | refine blk_alloc ?_ _)); refine blk_put (cs := #[.slice Ao20 x117000_2.length co20, .slice none 0 0, .bool false]) ?_ 1 _ rfl; (with_reducible repeat (first | refine blk_drewN ?_ _ | refine blk_drew ?_ | refine blk_alloc ?_ _)); refine blk_put (cs := #[.slice none 0 0, .slice none 0 0, .bool false]) ?_ 0 _ rfl; (with_reducible repeat (first | refine blk_drewN ?_ _ | refine blk_drew ?_ | refine blk_alloc ?_ _)); exact BK115.out) Try.underlying25 rfl (by kernel_rfl)) rfl ?_
       exact ⟨_, _, by first | rfl | (simp [errW_none, errW_some] <;> rfl) | (simp [*, errW_none, errW_some] <;> rfl), by (with_reducible repeat (first | apply Kd.R_alloc | apply Kd.R_drewN | apply Kd.R_drew)); exact Kd.R_mono (Kd.R_far (p := ⟨gb115, 2, none⟩) (Kd.R_far (p := ⟨gb115, 1, none⟩) (Kd.R_far (p := ⟨gb115, 0, none⟩) (Kd.R_types HO_117000.out BK115.out (by decide)) (fun _ hk => hk.2) (.slice Ao20 x117000_2.length co20)) (fun _ hk => hk.2) (.slice none 0 0)) (fun _ hk => hk.2) (.bool false)) (fun _ hk => trivial), by first | exact Kd.R_nil _ _ _ _ _ | exact Kd.N_nil _ _ _ _ _ | exact Kd.V_nil _ _ _ _ _ | exact Kd.Q_nil _ _ _ _ _ | exact Kd.S_nil _ _ _ _ _, by repeat (first | (with_reducible first | exact HB.out | apply below_alloc | apply pw_below_drewN | apply below_drew1 | refine below_set ?_ GE115.out | refine below_set ?_ GE116.out) | exact HB.out)⟩

/-! ### copyholdlaw05_shown: function 10 -/
def copyholdlaw05_shown.f (k : Nat)  : Option (Bool) := (copyholdref04_New.f k 2).bind fun bt121 => ((redo_Append.f bt121.1 bt121.2.1 bt121.2.2.1 0 2 0 0 7 0 (⟨#[104, 105]⟩ : ByteArray)).bind fun bt131 => ((redo_Scan.f bt131.1 bt131.2.1 bt131.2.2.1 0 2 0 7).bind fun bt144 => (if bt131.2.2.2.2.2.2.2 = 0 then (if bt144.2.2.2.2.2 = 0 then (if bt131.2.2.2.2.1 = 1 then (if bt131.2.2.2.2.2.2.1 = 1 then (if (bt144.2.2.2.2.1.length : Int) = 1 then (if 0 < (bt144.2.2.2.2.1.length : Int) then (if (rdOf ByteArray.empty bt144.2.2.2.2.1 0).toList = ([104, 105] : List UInt8) then (if 47 ≤ 281474976710656 then ((redo_Need.f k (strOfNums (List.replicate 47 0))).bind fun t157 => (if t157 = 1 then (if 52 ≤ 281474976710656 then ((redo_Need.f k (strOfNums (List.replicate 52 0))).bind fun t161 => (some (t161 == 2))) else (none)) else (none))) else (none)) else (none)) else (none)) else (none)) else (none)) else (none)) else (none)) else (none))))
theorem copyholdlaw05_shown.mono : ∀ k, LeO (copyholdlaw05_shown.f k ) (copyholdlaw05_shown.f (k + 1) ) := by
 intro  k
 unfold copyholdlaw05_shown.f
 repeat' first
   | (with_reducible exact copyholdref04_New.mono _ _)
   | (with_reducible exact redo_Need.mono _ _)
   | (with_reducible exact LeO.refl _)
   | (with_reducible exact LeO.none _)
   | (with_reducible refine LeO.ite ?_ ?_)
   | (with_reducible refine LeO.bind ?_ (fun _ => ?_))
   | exact copyholdref04_New.mono _ _
   | exact redo_Need.mono _ _
   | exact LeO.none _
   | refine LeO.ite ?_ ?_
   | refine LeO.bind ?_ (fun _ => ?_)
set_option maxHeartbeats 8000000 in
set_option maxRecDepth 100000 in
theorem copyholdlaw05_shown.calls (k : Nat)  (r : Bool) (w : World) (h : copyholdlaw05_shown.f k  = some r) :
  Calls Try.prog 10 #[] w fun e w' => e = .returned (.bool r) ∧ Below w.heap.size w w' := by
 have hu25 := Try.underlying25
 have hu27 := Try.underlying27
 have hu30 := Try.underlying30
 have HB := Aside0.mk (Below.refl w.heap.size w)
 have H : ((copyholdref04_New.f k 2).bind fun bt121 => ((redo_Append.f bt121.1 bt121.2.1 bt121.2.2.1 0 2 0 0 7 0 (⟨#[104, 105]⟩ : ByteArray)).bind fun bt131 => ((redo_Scan.f bt131.1 bt131.2.1 bt131.2.2.1 0 2 0 7).bind fun bt144 => (if bt131.2.2.2.2.2.2.2 = 0 then (if bt144.2.2.2.2.2 = 0 then (if bt131.2.2.2.2.1 = 1 then (if bt131.2.2.2.2.2.2.1 = 1 then (if (bt144.2.2.2.2.1.length : Int) = 1 then (if 0 < (bt144.2.2.2.2.1.length : Int) then (if (rdOf ByteArray.empty bt144.2.2.2.2.1 0).toList = ([104, 105] : List UInt8) then (if 47 ≤ 281474976710656 then ((redo_Need.f k (strOfNums (List.replicate 47 0))).bind fun t157 => (if t157 = 1 then (if 52 ≤ 281474976710656 then ((redo_Need.f k (strOfNums (List.replicate 52 0))).bind fun t161 => (some (t161 == 2))) else (none)) else (none))) else (none)) else (none)) else (none)) else (none)) else (none)) else (none)) else (none)) else (none))))) = some r := h
 clear h
 replace H := Option.bind_eq_some_iff.mp H
 obtain ⟨⟨t121, t124, t127, t128⟩, A10, H⟩ := H
 replace H : ((redo_Append.f t121 t124 t127 0 2 0 0 7 0 (⟨#[104, 105]⟩ : ByteArray)).bind fun bt131 => ((redo_Scan.f bt131.1 bt131.2.1 bt131.2.2.1 0 2 0 7).bind fun bt144 => (if bt131.2.2.2.2.2.2.2 = 0 then (if bt144.2.2.2.2.2 = 0 then (if bt131.2.2.2.2.1 = 1 then (if bt131.2.2.2.2.2.2.1 = 1 then (if (bt144.2.2.2.2.1.length : Int) = 1 then (if 0 < (bt144.2.2.2.2.1.length : Int) then (if (rdOf ByteArray.empty bt144.2.2.2.2.1 0).toList = ([104, 105] : List UInt8) then (if 47 ≤ 281474976710656 then ((redo_Need.f k (strOfNums (List.replicate 47 0))).bind fun t157 => (if t157 = 1 then (if 52 ≤ 281474976710656 then ((redo_Need.f k (strOfNums (List.replicate 52 0))).bind fun t161 => (some (t161 == 2))) else (none)) else (none))) else (none)) else (none)) else (none)) else (none)) else (none)) else (none)) else (none)) else (none)))) = some r := H
 have A1 := Aside0.mk A10
 clear A10
 replace H := Option.bind_eq_some_iff.mp H
 obtain ⟨⟨t131, t134, t137, t138, t139, t140, t141, t142⟩, A20, H⟩ := H
 replace H : ((redo_Scan.f t131 t134 t137 0 2 0 7).bind fun bt144 => (if t142 = 0 then (if bt144.2.2.2.2.2 = 0 then (if t139 = 1 then (if t141 = 1 then (if (bt144.2.2.2.2.1.length : Int) = 1 then (if 0 < (bt144.2.2.2.2.1.length : Int) then (if (rdOf ByteArray.empty bt144.2.2.2.2.1 0).toList = ([104, 105] : List UInt8) then (if 47 ≤ 281474976710656 then ((redo_Need.f k (strOfNums (List.replicate 47 0))).bind fun t157 => (if t157 = 1 then (if 52 ≤ 281474976710656 then ((redo_Need.f k (strOfNums (List.replicate 52 0))).bind fun t161 => (some (t161 == 2))) else (none)) else (none))) else (none)) else (none)) else (none)) else (none)) else (none)) else (none)) else (none)) else (none))) = some r := H
 have A2 := Aside0.mk A20
 clear A20
 replace H := Option.bind_eq_some_iff.mp H
 obtain ⟨⟨t144, t145, t146, t147, t148, t151⟩, A30, H⟩ := H
 replace H : (if t142 = 0 then (if t151 = 0 then (if t139 = 1 then (if t141 = 1 then (if (t148.length : Int) = 1 then (if 0 < (t148.length : Int) then (if (rdOf ByteArray.empty t148 0).toList = ([104, 105] : List UInt8) then (if 47 ≤ 281474976710656 then ((redo_Need.f k (strOfNums (List.replicate 47 0))).bind fun t157 => (if t157 = 1 then (if 52 ≤ 281474976710656 then ((redo_Need.f k (strOfNums (List.replicate 52 0))).bind fun t161 => (some (t161 == 2))) else (none)) else (none))) else (none)) else (none)) else (none)) else (none)) else (none)) else (none)) else (none)) else (none)) = some r := H
 have A3 := Aside0.mk A30
 clear A30
 by_cases c4 : t142 = 0
 ·rw [if_pos c4] at H
  have c4b0 : (t142 == 0) = true := beq_iff_eq.mpr c4
  have c4b1 : (t142 != 0) = false := bne_eq_false_iff_eq.mpr c4
  clear c4
  by_cases c5 : t151 = 0
  ·rw [if_pos c5] at H
   have c5b0 : (t151 == 0) = true := beq_iff_eq.mpr c5
   have c5b1 : (t151 != 0) = false := bne_eq_false_iff_eq.mpr c5
   clear c5
   by_cases c6 : t139 = 1
   ·rw [if_pos c6] at H
    have c6b0 : (t139 == 1) = true := beq_iff_eq.mpr c6
    have c6b1 : (t139 != 1) = false := bne_eq_false_iff_eq.mpr c6
    clear c6
    by_cases c7 : t141 = 1
    ·rw [if_pos c7] at H
     have c7b0 : (t141 == 1) = true := beq_iff_eq.mpr c7
     have c7b1 : (t141 != 1) = false := bne_eq_false_iff_eq.mpr c7
     clear c7
     by_cases c8 : (t148.length : Int) = 1
     ·rw [if_pos c8] at H
      have c8b0 : ((t148.length : Int) == 1) = true := beq_iff_eq.mpr c8
      have c8b1 : ((t148.length : Int) != 1) = false := bne_eq_false_iff_eq.mpr c8
      clear c8
      by_cases c9 : 0 < (t148.length : Int)
      ·rw [if_pos c9] at H
       have c9b0 : decide (0 < (t148.length : Int)) = true := decide_eq_true c9
       have c9b1 : decide (0 < t148.length) = true := decide_eq_true (by omega)
       clear c9
       by_cases c10 : (rdOf ByteArray.empty t148 0).toList = ([104, 105] : List UInt8)
       ·rw [if_pos c10] at H
        have c10b0 : ((rdOf ByteArray.empty t148 0).toList == ([104, 105] : List UInt8)) = true := beq_iff_eq.mpr c10
        have c10b1 : ((rdOf ByteArray.empty t148 0).toList != ([104, 105] : List UInt8)) = false := bne_eq_false_iff_eq.mpr c10
        clear c10
        by_cases c11 : 47 ≤ 281474976710656
        ·rw [if_pos c11] at H
         have c11b0 := eq_true c11
         have c11b1 : decide (47 ≤ 281474976710656) = true := decide_eq_true c11
         clear c11
         obtain ⟨y154, hy154⟩ : ∃ y_ : List Int, y_ = (List.replicate 47 0) := ⟨_, rfl⟩
         replace H : ((redo_Need.f k (strOfNums y154)).bind fun t157 => (if t157 = 1 then (if 52 ≤ 281474976710656 then ((redo_Need.f k (strOfNums (List.replicate 52 0))).bind fun t161 => (some (t161 == 2))) else (none)) else (none))) = some r := by first | (rw [hy154]; with_reducible exact H) | (have H2_ := (Option.bind_some _ _).symm.trans H; rw [hy154]; with_reducible exact H2_) | (have H2_ := (Option.bind_some _ _).symm.trans H; with_reducible exact H2_) | with_reducible exact H | (rw [hy154]; exact H) | exact H
         have Ny154 := Aside0.mk hy154
         clear hy154
         replace H := Option.bind_eq_some_iff.mp H
         obtain ⟨t157, A120, H⟩ := H
         replace H : (if t157 = 1 then (if 52 ≤ 281474976710656 then ((redo_Need.f k (strOfNums (List.replicate 52 0))).bind fun t161 => (some (t161 == 2))) else (none)) else (none)) = some r := H
         have A12 := Aside0.mk A120
         clear A120
         by_cases c13 : t157 = 1
         ·rw [if_pos c13] at H
          have c13b0 : (t157 == 1) = true := beq_iff_eq.mpr c13
          have c13b1 : (t157 != 1) = false := bne_eq_false_iff_eq.mpr c13
          clear c13
          by_cases c14 : 52 ≤ 281474976710656
          ·rw [if_pos c14] at H
           have c14b0 := eq_true c14
           have c14b1 : decide (52 ≤ 281474976710656) = true := decide_eq_true c14
           clear c14
           obtain ⟨y158, hy158⟩ : ∃ y_ : List Int, y_ = (List.replicate 52 0) := ⟨_, rfl⟩
           replace H : ((redo_Need.f k (strOfNums y158)).bind fun t161 => (some (t161 == 2))) = some r := by first | (rw [hy158]; with_reducible exact H) | (have H2_ := (Option.bind_some _ _).symm.trans H; rw [hy158]; with_reducible exact H2_) | (have H2_ := (Option.bind_some _ _).symm.trans H; with_reducible exact H2_) | with_reducible exact H | (rw [hy158]; exact H) | exact H
           have Ny158 := Aside0.mk hy158
           clear hy158
           replace H := Option.bind_eq_some_iff.mp H
           obtain ⟨t161, A150, H⟩ := H
           replace H : (some (t161 == 2)) = some r := H
           have A15 := Aside0.mk A150
           clear A150
           obtain rfl := Option.some.inj H
           go_enter Try.func10, Try.ntmps10
           go_wp2_with (first | ((with_reducible refine gate_callee (f := 27) rfl ?_); refine goesL_ (some 10) rfl rfl Try.func27 (by kernel_rfl) rfl #[.int .i64 2] rfl (by (try simp only [List.map_toArray, List.map_cons, List.map_nil]); first | done | rfl | (simp only [List.length_drop, List.length_take]; rfl)) ?_; (with_reducible refine (copyholdref04_New.calls k 2 t121 t124 t127 t128 _ A1.out).mono ?_); rintro e w16 ⟨v122, v125, rfl, ho0, ho1, hb⟩; refine ⟨_, rfl, ?_⟩; have n0_ := Aside0.mk (Kd.R_lower ho0 (below_size (by repeat (first | (with_reducible first | exact HB.out | apply below_alloc | apply pw_below_drewN | apply below_drew1) | exact HB.out)))); have n1_ := Aside0.mk (Kd.R_lower ho1 (below_size (by repeat (first | (with_reducible first | exact HB.out | apply below_alloc | apply pw_below_drewN | apply below_drew1) | exact HB.out)))); have n2_ := Aside0.mk (below_step (by repeat (first | (with_reducible first | exact HB.out | apply below_alloc | apply pw_below_drewN | apply below_drew1) | exact HB.out)) hb); clear HB; have HO123 := n0_; have HO126 := n1_; have HB := n2_; clear n0_ n1_ n2_; (try clear hb); (try clear hb2); (try clear hk); (try clear hi); (try clear ho0); (try clear ho1)) | ((with_reducible refine gate_dst (N := 1) rfl ?_); (try (refine gate_guard (by rfl) ?_; dsimp only)); refine box_event ?hg (N := 1) ?hd (cs := #[.slice none 0 0, .slice none 0 0, .bool false]) (t := 25) ?hr ?_; (case hd => rfl); (case hg => rfl); (case hr => first | (go_simp; done) | (go_simp; rfl)); intro gb129 hg w17 hbox hb; have n0_ := Aside0.mk (Kd.R_below (by (with_reducible repeat (first | apply Kd.R_alloc | apply Kd.R_drewN | apply Kd.R_drew)); exact HO123.out) hb); have n1_ := Aside0.mk (Kd.R_below (by (with_reducible repeat (first | apply Kd.R_alloc | apply Kd.R_drewN | apply Kd.R_drew)); exact HO126.out) hb); have n2_ := Aside0.mk (below_step (by repeat (first | (with_reducible first | exact HB.out | apply below_alloc | apply pw_below_drewN | apply below_drew1) | exact HB.out)) hb); have n3_ := Aside0.mk (hbox); have n4_ := Aside0.mk ((by rw [hg]; exact (below_size (by repeat (first | (with_reducible first | exact HB.out | apply below_alloc | apply pw_below_drewN | apply below_drew1) | exact HB.out))) : w.heap.size ≤ gb129)); have n5_ := Aside0.mk ((by rw [hg]; exact (below_size (by repeat (first | (with_reducible first | exact HB.out | apply below_alloc | apply pw_below_drewN | apply below_drew1) | exact HB.out))) : w.heap.size ≤ gb129)); clear HO123; clear HO126; clear HB; have HO123 := n0_; have HO126 := n1_; have HB := n2_; have BK129 := n3_; have GW129 := n4_; have GE129 := n5_; clear n0_ n1_ n2_ n3_ n4_ n5_; clear hb hbox hg; obtain ⟨Ao18, co18, eo18⟩ := Kd.R_slice HO123.out; subst eo18; have hcz19_0 : w17.cell? ⟨gb129, 0, none⟩ = some (.slice none 0 0) := (blk_cell BK129.out 0).trans rfl; have hcz19_1 : w17.cell? ⟨gb129, 1, none⟩ = some (.slice none 0 0) := (blk_cell BK129.out 1).trans rfl; have hcz19_2 : w17.cell? ⟨gb129, 2, none⟩ = some (.bool false) := (blk_cell BK129.out 2).trans rfl; have hfz19_0 := blk_frozen BK129.out 0; have hfz19_1 := blk_frozen BK129.out 1; have hfz19_2 := blk_frozen BK129.out 2; obtain ⟨Ao20, co20, eo20⟩ := Kd.R_slice HO126.out; subst eo20) | ((with_reducible refine gate_dst (N := 3) rfl ?_); (try (refine gate_guard (by rfl) ?_; dsimp only)); refine box_event ?hg (N := 3) ?hd (cs := #[.int .i64 0, .int .i64 0]) (t := 27) ?hr ?_; (case hd => rfl); (case hg => rfl); (case hr => first | (go_simp; done) | (go_simp; rfl)); intro gb130 hg w21 hbox hb; have n0_ := Aside0.mk (Kd.R_below (by (with_reducible repeat (first | apply Kd.R_alloc | apply Kd.R_drewN | apply Kd.R_drew)); exact (Kd.R_mono (Kd.R_far (p := ⟨gb129, 2, none⟩) (Kd.R_far (p := ⟨gb129, 1, none⟩) (Kd.R_far (p := ⟨gb129, 0, none⟩) (Kd.R_types HO123.out BK129.out (by decide)) (fun _ hk => hk.2) (.slice Ao18 t121.length co18)) (fun _ hk => hk.2) (.slice Ao20 t124.length co20)) (fun _ hk => hk.2) (.bool t127)) (fun _ h_ => h_.1))) hb); have n1_ := Aside0.mk (Kd.R_below (by (with_reducible repeat (first | apply Kd.R_alloc | apply Kd.R_drewN | apply Kd.R_drew)); exact (Kd.R_mono (Kd.R_far (p := ⟨gb129, 2, none⟩) (Kd.R_far (p := ⟨gb129, 1, none⟩) (Kd.R_far (p := ⟨gb129, 0, none⟩) (Kd.R_types HO126.out BK129.out (by decide)) (fun _ hk => hk.2) (.slice Ao18 t121.length co18)) (fun _ hk => hk.2) (.slice Ao20 t124.length co20)) (fun _ hk => hk.2) (.bool t127)) (fun _ h_ => h_.1))) hb); have n2_ := Aside0.mk (blk_below (g := gb129) (o := .cells #[.slice Ao18 t121.length co18, .slice Ao20 t124.length co20, .bool t127] 25 (0, 0)) (by (with_reducible repeat (first | refine blk_drewN ?_ _ | refine blk_drew ?_ | refine blk_alloc ?_ _)); refine blk_put (cs := #[.slice Ao18 t121.length co18, .slice Ao20 t124.length co20, .bool false]) ?_ 2 _ rfl; (with_reducible repeat (first | refine blk_drewN ?_ _ | refine blk_drew ?_ | refine blk_alloc ?_ _)); refine blk_put (cs := #[.slice Ao18 t121.length co18, .slice none 0 0, .bool false]) ?_ 1 _ rfl; (with_reducible repeat (first | refine blk_drewN ?_ _ | refine blk_drew ?_ | refine blk_alloc ?_ _)); refine blk_put (cs := #[.slice none 0 0, .slice none 0 0, .bool false]) ?_ 0 _ rfl; (with_reducible repeat (first | refine blk_drewN ?_ _ | refine blk_drew ?_ | refine blk_alloc ?_ _)); exact BK129.out) hb); have n3_ := Aside0.mk (below_step (by repeat (first | (with_reducible first | exact HB.out | apply below_alloc | apply pw_below_drewN | apply below_drew1 | refine below_set ?_ GE129.out) | exact HB.out)) hb); have n4_ := Aside0.mk (hbox); have n5_ := Aside0.mk ((by rw [hg]; exact (below_size (by repeat (first | (with_reducible first | exact HB.out | apply below_alloc | apply pw_below_drewN | apply below_drew1 | refine below_set ?_ GE129.out) | exact HB.out))) : w.heap.size ≤ gb130)); have n6_ := Aside0.mk ((by rw [hg]; exact (below_size (by repeat (first | (with_reducible first | exact HB.out | apply below_alloc | apply pw_below_drewN | apply below_drew1 | refine below_set ?_ GE129.out) | exact HB.out))) : w.heap.size ≤ gb130)); have n7_ := Aside0.mk ((by rw [hg]; exact Nat.ne_of_lt (blk_lt (g := gb129) (o := .cells #[.slice Ao18 t121.length co18, .slice Ao20 t124.length co20, .bool t127] 25 (0, 0)) (by (with_reducible repeat (first | refine blk_drewN ?_ _ | refine blk_drew ?_ | refine blk_alloc ?_ _)); refine blk_put (cs := #[.slice Ao18 t121.length co18, .slice Ao20 t124.length co20, .bool false]) ?_ 2 _ rfl; (with_reducible repeat (first | refine blk_drewN ?_ _ | refine blk_drew ?_ | refine blk_alloc ?_ _)); refine blk_put (cs := #[.slice Ao18 t121.length co18, .slice none 0 0, .bool false]) ?_ 1 _ rfl; (with_reducible repeat (first | refine blk_drewN ?_ _ | refine blk_drew ?_ | refine blk_alloc ?_ _)); refine blk_put (cs := #[.slice none 0 0, .slice none 0 0, .bool false]) ?_ 0 _ rfl; (with_reducible repeat (first | refine blk_drewN ?_ _ | refine blk_drew ?_ | refine blk_alloc ?_ _)); exact BK129.out)) : gb129 ≠ gb130)); have n8_ := Aside0.mk ((by rw [hg]; exact Nat.ne_of_gt (blk_lt (g := gb129) (o := .cells #[.slice Ao18 t121.length co18, .slice Ao20 t124.length co20, .bool t127] 25 (0, 0)) (by (with_reducible repeat (first | refine blk_drewN ?_ _ | refine blk_drew ?_ | refine blk_alloc ?_ _)); refine blk_put (cs := #[.slice Ao18 t121.length co18, .slice Ao20 t124.length co20, .bool false]) ?_ 2 _ rfl; (with_reducible repeat (first | refine blk_drewN ?_ _ | refine blk_drew ?_ | refine blk_alloc ?_ _)); refine blk_put (cs := #[.slice Ao18 t121.length co18, .slice none 0 0, .bool false]) ?_ 1 _ rfl; (with_reducible repeat (first | refine blk_drewN ?_ _ | refine blk_drew ?_ | refine blk_alloc ?_ _)); refine blk_put (cs := #[.slice none 0 0, .slice none 0 0, .bool false]) ?_ 0 _ rfl; (with_reducible repeat (first | refine blk_drewN ?_ _ | refine blk_drew ?_ | refine blk_alloc ?_ _)); exact BK129.out)) : gb130 ≠ gb129)); clear HO123; clear HO126; clear BK129; clear HB; have HO123 := n0_; have HO126 := n1_; have BK129 := n2_; have HB := n3_; have BK130 := n4_; have GW130 := n5_; have GE130 := n6_; have NB129_130 := n7_; have NB130_129 := n8_; clear n0_ n1_ n2_ n3_ n4_ n5_ n6_ n7_ n8_; clear hb hbox hg; have hnb22 := NB130_129.out; have hnc22 := NB129_130.out; have hcz23_0 : w21.cell? ⟨gb130, 0, none⟩ = some (.int .i64 0) := (blk_cell BK130.out 0).trans rfl; have hcz23_1 : w21.cell? ⟨gb130, 1, none⟩ = some (.int .i64 0) := (blk_cell BK130.out 1).trans rfl; have hfz23_0 := blk_frozen BK130.out 0; have hfz23_1 := blk_frozen BK130.out 1) | ((with_reducible refine gate_store (t := 27) (p := 3) rfl ?_); refine store_event (t := 27) (p := 3) (v := ?vo_w24) (w1 := ((w21.setCell ⟨gb130, 0, none⟩ (.int .i64 0)).setCell ⟨gb130, 1, none⟩ (.int .i64 2))) ?hg ?ho ?hn ?hr ?_; (case ho => rfl); (case hg => rfl); (case hn => rfl); (case hr => first | (go_simp; done) | (go_simp; rfl)); intro w24 hw; have n0_ : Aside0 (Kd.R Kd.string 9 w24 w.heap.size (fun _ => True) (.slice Ao18 t121.length co18) t121) := ⟨(by rw [hw]; exact (by (with_reducible repeat (first | apply Kd.R_alloc | apply Kd.R_drewN | apply Kd.R_drew)); exact Kd.R_mono (Kd.R_far (p := ⟨gb130, 1, none⟩) (Kd.R_far (p := ⟨gb130, 0, none⟩) (Kd.R_types HO123.out BK130.out (by decide)) (fun _ hk => hk.2) (.int .i64 0)) (fun _ hk => hk.2) (.int .i64 2)) (fun _ hk => trivial)))⟩; have n1_ : Aside0 (Kd.R k88 88 w24 w.heap.size (fun _ => True) (.slice Ao20 t124.length co20) t124) := ⟨(by rw [hw]; exact (by (with_reducible repeat (first | apply Kd.R_alloc | apply Kd.R_drewN | apply Kd.R_drew)); exact Kd.R_mono (Kd.R_far (p := ⟨gb130, 1, none⟩) (Kd.R_far (p := ⟨gb130, 0, none⟩) (Kd.R_types HO126.out BK130.out (by decide)) (fun _ hk => hk.2) (.int .i64 0)) (fun _ hk => hk.2) (.int .i64 2)) (fun _ hk => trivial)))⟩; have n2_ : Aside0 (w24.heap[gb129]? = some (.cells #[.slice Ao18 t121.length co18, .slice Ao20 t124.length co20, .bool t127] 25 (0, 0))) := ⟨(by rw [hw]; exact (by (iterate 2 ((with_reducible repeat (first | refine blk_drewN ?_ _ | refine blk_drew ?_ | refine blk_alloc ?_ _)); refine blk_far ?_ NB129_130.out _)); (with_reducible repeat (first | refine blk_drewN ?_ _ | refine blk_drew ?_ | refine blk_alloc ?_ _)); exact BK129.out))⟩; have n3_ : Aside0 (w24.heap[gb130]? = some (.cells #[.int .i64 0, .int .i64 2] 27 (0, 0))) := ⟨(by rw [hw]; exact (by (with_reducible repeat (first | refine blk_drewN ?_ _ | refine blk_drew ?_ | refine blk_alloc ?_ _)); refine blk_put (cs := #[.int .i64 0, .int .i64 0]) ?_ 1 _ rfl; (with_reducible repeat (first | refine blk_drewN ?_ _ | refine blk_drew ?_ | refine blk_alloc ?_ _)); refine blk_put (cs := #[.int .i64 0, .int .i64 0]) ?_ 0 _ rfl; (with_reducible repeat (first | refine blk_drewN ?_ _ | refine blk_drew ?_ | refine blk_alloc ?_ _)); exact BK130.out))⟩; have n4_ : Aside0 (Below w.heap.size w w24) := ⟨(by rw [hw]; exact (by repeat (first | (with_reducible first | exact HB.out | apply below_alloc | apply pw_below_drewN | apply below_drew1 | refine below_set ?_ GE129.out | refine below_set ?_ GE130.out) | exact HB.out)))⟩; clear hw; clear HO123; clear HO126; clear BK129; clear BK130; clear HB; have HO123 := n0_; have HO126 := n1_; have BK129 := n2_; have BK130 := n3_; have HB := n4_; clear n0_ n1_ n2_ n3_ n4_; have hcz25_0 : w24.cell? ⟨gb129, 0, none⟩ = some (.slice Ao18 t121.length co18) := (blk_cell BK129.out 0).trans rfl; have hcz25_1 : w24.cell? ⟨gb129, 1, none⟩ = some (.slice Ao20 t124.length co20) := (blk_cell BK129.out 1).trans rfl; have hcz25_2 : w24.cell? ⟨gb129, 2, none⟩ = some (.bool t127) := (blk_cell BK129.out 2).trans rfl; have hfz25_0 := blk_frozen BK129.out 0; have hfz25_1 := blk_frozen BK129.out 1; have hfz25_2 := blk_frozen BK129.out 2; have hcz26_0 : w24.cell? ⟨gb130, 0, none⟩ = some (.int .i64 0) := (blk_cell BK130.out 0).trans rfl; have hcz26_1 : w24.cell? ⟨gb130, 1, none⟩ = some (.int .i64 2) := (blk_cell BK130.out 1).trans rfl; have hfz26_0 := blk_frozen BK130.out 0; have hfz26_1 := blk_frozen BK130.out 1) | ((with_reducible refine gate_callee (f := 13) rfl ?_); refine goesL_ (some 18) rfl rfl Try.func13 (by kernel_rfl) rfl #[.agg #[.slice Ao18 t121.length co18, .slice Ao20 t124.length co20, .bool t127], .agg #[.int .i64 0, .int .i64 2], .agg #[.int .i64 0, .int .i64 0, .int .u64 7, .int .i64 0], .string (⟨#[104, 105]⟩ : ByteArray)] rfl (by (try simp only [List.map_toArray, List.map_cons, List.map_nil]); first | done | rfl | (simp only [List.length_drop, List.length_take]; rfl)) ?_; (with_reducible refine (redo_Append.calls (fun k_ => some k_ = (.slice Ao18 t121.length co18 : Value).ownBlock) _ _ t121 (fun k_ => some k_ = (.slice Ao20 t124.length co20 : Value).ownBlock) _ _ t124 t127 0 2 0 0 7 0 (⟨#[104, 105]⟩ : ByteArray) t131 t134 t137 t138 t139 t140 t141 t142 _ ?side1 ?side2 A2.out).mono ?_); (case side1 => exact Kd.R_V (Kd.R_tight rfl (Kd.R_types (Kd.R_types (Kd.R_apart' (HO123.out) (Kd.R_typed HO126.out) (by decide)) BK129.out (by decide)) BK130.out (by decide)))); (case side2 => exact Kd.R_V (Kd.R_tight rfl (Kd.R_types (Kd.R_types (Kd.R_apart' (HO126.out) (Kd.R_typed HO123.out) (by decide)) BK129.out (by decide)) BK130.out (by decide)))); rintro e w27 ⟨v132, v135, rfl, ho0, ho1, hb⟩; refine ⟨_, rfl, ?_⟩; have n0_ := Aside0.mk (Kd.R_below (by (with_reducible repeat (first | apply Kd.R_alloc | apply Kd.R_drewN | apply Kd.R_drew)); exact HO123.out) hb); have n1_ := Aside0.mk (Kd.R_below (by (with_reducible repeat (first | apply Kd.R_alloc | apply Kd.R_drewN | apply Kd.R_drew)); exact HO126.out) hb); have n2_ := Aside0.mk (Kd.V_lower (Kd.V_mono (ok' := fun k_ => k_ ≠ gb129 ∧ k_ ≠ gb130) ho0 (fun k_ hk_ => ⟨Or.elim hk_ (fun hs_ => Or.elim hs_ (fun hs_ => ((Kd.R_types (Kd.R_types (Kd.R_apart' (HO123.out) (Kd.R_typed HO126.out) (by decide)) BK129.out (by decide)) BK130.out (by decide)).1 k_ hs_.symm).1.2) (fun hs_ => ((Kd.R_types (Kd.R_types (Kd.R_apart' (HO126.out) (Kd.R_typed HO123.out) (by decide)) BK129.out (by decide)) BK130.out (by decide)).1 k_ hs_.symm).1.2)) (fun hn_ => (Kd.freshB (g := gb129) (o := .cells #[.slice Ao18 t121.length co18, .slice Ao20 t124.length co20, .bool t127] 25 (0, 0)) (by (with_reducible repeat (first | refine blk_drewN ?_ _ | refine blk_drew ?_ | refine blk_alloc ?_ _)); exact BK129.out) k_ hn_)), Or.elim hk_ (fun hs_ => Or.elim hs_ (fun hs_ => ((Kd.R_types (Kd.R_types (Kd.R_apart' (HO123.out) (Kd.R_typed HO126.out) (by decide)) BK129.out (by decide)) BK130.out (by decide)).1 k_ hs_.symm).2) (fun hs_ => ((Kd.R_types (Kd.R_types (Kd.R_apart' (HO126.out) (Kd.R_typed HO123.out) (by decide)) BK129.out (by decide)) BK130.out (by decide)).1 k_ hs_.symm).2)) (fun hn_ => (Kd.freshB (g := gb130) (o := .cells #[.int .i64 0, .int .i64 2] 27 (0, 0)) (by (with_reducible repeat (first | refine blk_drewN ?_ _ | refine blk_drew ?_ | refine blk_alloc ?_ _)); exact BK130.out) k_ hn_))⟩)) (below_size (by repeat (first | (with_reducible first | exact HB.out | apply below_alloc | apply pw_below_drewN | apply below_drew1 | refine below_set ?_ GE129.out | refine below_set ?_ GE130.out) | exact HB.out)))); have n3_ := Aside0.mk (Kd.V_lower (Kd.V_mono (ok' := fun k_ => k_ ≠ gb129 ∧ k_ ≠ gb130) ho1 (fun k_ hk_ => ⟨Or.elim hk_ (fun hs_ => Or.elim hs_ (fun hs_ => ((Kd.R_types (Kd.R_types (Kd.R_apart' (HO123.out) (Kd.R_typed HO126.out) (by decide)) BK129.out (by decide)) BK130.out (by decide)).1 k_ hs_.symm).1.2) (fun hs_ => ((Kd.R_types (Kd.R_types (Kd.R_apart' (HO126.out) (Kd.R_typed HO123.out) (by decide)) BK129.out (by decide)) BK130.out (by decide)).1 k_ hs_.symm).1.2)) (fun hn_ => (Kd.freshB (g := gb129) (o := .cells #[.slice Ao18 t121.length co18, .slice Ao20 t124.length co20, .bool t127] 25 (0, 0)) (by (with_reducible repeat (first | refine blk_drewN ?_ _ | refine blk_drew ?_ | refine blk_alloc ?_ _)); exact BK129.out) k_ hn_)), Or.elim hk_ (fun hs_ => Or.elim hs_ (fun hs_ => ((Kd.R_types (Kd.R_types (Kd.R_apart' (HO123.out) (Kd.R_typed HO126.out) (by decide)) BK129.out (by decide)) BK130.out (by decide)).1 k_ hs_.symm).2) (fun hs_ => ((Kd.R_types (Kd.R_types (Kd.R_apart' (HO126.out) (Kd.R_typed HO123.out) (by decide)) BK129.out (by decide)) BK130.out (by decide)).1 k_ hs_.symm).2)) (fun hn_ => (Kd.freshB (g := gb130) (o := .cells #[.int .i64 0, .int .i64 2] 27 (0, 0)) (by (with_reducible repeat (first | refine blk_drewN ?_ _ | refine blk_drew ?_ | refine blk_alloc ?_ _)); exact BK130.out) k_ hn_))⟩)) (below_size (by repeat (first | (with_reducible first | exact HB.out | apply below_alloc | apply pw_below_drewN | apply below_drew1 | refine below_set ?_ GE129.out | refine below_set ?_ GE130.out) | exact HB.out)))); have n4_ := Aside0.mk (blk_below (g := gb129) (o := .cells #[.slice Ao18 t121.length co18, .slice Ao20 t124.length co20, .bool t127] 25 (0, 0)) (by (with_reducible repeat (first | refine blk_drewN ?_ _ | refine blk_drew ?_ | refine blk_alloc ?_ _)); exact BK129.out) hb); have n5_ := Aside0.mk (blk_below (g := gb130) (o := .cells #[.int .i64 0, .int .i64 2] 27 (0, 0)) (by (with_reducible repeat (first | refine blk_drewN ?_ _ | refine blk_drew ?_ | refine blk_alloc ?_ _)); exact BK130.out) hb); have n6_ := Aside0.mk (below_step (by repeat (first | (with_reducible first | exact HB.out | apply below_alloc | apply pw_below_drewN | apply below_drew1 | refine below_set ?_ GE129.out | refine below_set ?_ GE130.out) | exact HB.out)) hb); clear HO123; clear HO126; clear BK129; clear BK130; clear HB; have HO123 := n0_; have HO126 := n1_; have HO133 := n2_; have HO136 := n3_; have BK129 := n4_; have BK130 := n5_; have HB := n6_; clear n0_ n1_ n2_ n3_ n4_ n5_ n6_; (try clear hb); (try clear hb2); (try clear hk); (try clear hi); (try clear ho0); (try clear ho1)) | ((with_reducible refine gate_dst (N := 4) rfl ?_); (try (refine gate_guard (by rfl) ?_; dsimp only)); refine box_event ?hg (N := 4) ?hd (cs := #[.int .i64 0, .int .i64 0, .int .u64 0, .int .i64 0]) (t := 30) ?hr ?_; (case hd => rfl); (case hg => rfl); (case hr => first | (go_simp; done) | (go_simp; rfl)); intro gb143 hg w28 hbox hb; have n0_ := Aside0.mk (Kd.R_below (by (with_reducible repeat (first | apply Kd.R_alloc | apply Kd.R_drewN | apply Kd.R_drew)); exact HO123.out) hb); have n1_ := Aside0.mk (Kd.R_below (by (with_reducible repeat (first | apply Kd.R_alloc | apply Kd.R_drewN | apply Kd.R_drew)); exact HO126.out) hb); have n2_ := Aside0.mk (Kd.V_below (Kd.V_elderB (by (with_reducible repeat (first | apply Kd.V_alloc | apply Kd.V_drewN | apply Kd.V_drew)); exact HO133.out) gb143 (Nat.le_of_eq hg.symm)) hb); have n3_ := Aside0.mk (Kd.V_below (Kd.V_elderB (by (with_reducible repeat (first | apply Kd.V_alloc | apply Kd.V_drewN | apply Kd.V_drew)); exact HO136.out) gb143 (Nat.le_of_eq hg.symm)) hb); have n4_ := Aside0.mk (blk_below (g := gb129) (o := .cells #[.slice Ao18 t121.length co18, .slice Ao20 t124.length co20, .bool t127] 25 (0, 0)) (by (with_reducible repeat (first | refine blk_drewN ?_ _ | refine blk_drew ?_ | refine blk_alloc ?_ _)); exact BK129.out) hb); have n5_ := Aside0.mk (blk_below (g := gb130) (o := .cells #[.int .i64 0, .int .i64 2] 27 (0, 0)) (by (with_reducible repeat (first | refine blk_drewN ?_ _ | refine blk_drew ?_ | refine blk_alloc ?_ _)); exact BK130.out) hb); have n6_ := Aside0.mk (below_step (by repeat (first | (with_reducible first | exact HB.out | apply below_alloc | apply pw_below_drewN | apply below_drew1 | refine below_set ?_ GE129.out | refine below_set ?_ GE130.out) | exact HB.out)) hb); have n7_ := Aside0.mk (hbox); have n8_ := Aside0.mk ((by rw [hg]; exact (below_size (by repeat (first | (with_reducible first | exact HB.out | apply below_alloc | apply pw_below_drewN | apply below_drew1 | refine below_set ?_ GE129.out | refine below_set ?_ GE130.out) | exact HB.out))) : w.heap.size ≤ gb143)); have n9_ := Aside0.mk ((by rw [hg]; exact (below_size (by repeat (first | (with_reducible first | exact HB.out | apply below_alloc | apply pw_below_drewN | apply below_drew1 | refine below_set ?_ GE129.out | refine below_set ?_ GE130.out) | exact HB.out))) : w.heap.size ≤ gb143)); have n10_ := Aside0.mk ((by rw [hg]; exact Nat.ne_of_lt (blk_lt (g := gb129) (o := .cells #[.slice Ao18 t121.length co18, .slice Ao20 t124.length co20, .bool t127] 25 (0, 0)) (by (with_reducible repeat (first | refine blk_drewN ?_ _ | refine blk_drew ?_ | refine blk_alloc ?_ _)); exact BK129.out)) : gb129 ≠ gb143)); have n11_ := Aside0.mk ((by rw [hg]; exact Nat.ne_of_gt (blk_lt (g := gb129) (o := .cells #[.slice Ao18 t121.length co18, .slice Ao20 t124.length co20, .bool t127] 25 (0, 0)) (by (with_reducible repeat (first | refine blk_drewN ?_ _ | refine blk_drew ?_ | refine blk_alloc ?_ _)); exact BK129.out)) : gb143 ≠ gb129)); have n12_ := Aside0.mk ((by rw [hg]; exact Nat.ne_of_lt (blk_lt (g := gb130) (o := .cells #[.int .i64 0, .int .i64 2] 27 (0, 0)) (by (with_reducible repeat (first | refine blk_drewN ?_ _ | refine blk_drew ?_ | refine blk_alloc ?_ _)); exact BK130.out)) : gb130 ≠ gb143)); have n13_ := Aside0.mk ((by rw [hg]; exact Nat.ne_of_gt (blk_lt (g := gb130) (o := .cells #[.int .i64 0, .int .i64 2] 27 (0, 0)) (by (with_reducible repeat (first | refine blk_drewN ?_ _ | refine blk_drew ?_ | refine blk_alloc ?_ _)); exact BK130.out)) : gb143 ≠ gb130)); clear HO123; clear HO126; clear HO133; clear HO136; clear BK129; clear BK130; clear HB; have HO123 := n0_; have HO126 := n1_; have HO133 := n2_; have HO136 := n3_; have BK129 := n4_; have BK130 := n5_; have HB := n6_; have BK143 := n7_; have GW143 := n8_; have GE143 := n9_; have NB129_143 := n10_; have NB143_129 := n11_; have NB130_143 := n12_; have NB143_130 := n13_; clear n0_ n1_ n2_ n3_ n4_ n5_ n6_ n7_ n8_ n9_ n10_ n11_ n12_ n13_; clear hb hbox hg; obtain ⟨Ao29, co29, eo29⟩ := Kd.V_slice HO133.out; subst eo29; have hnb30 := NB129_143.out; have hnc30 := NB143_129.out; have hcz31_0 : w28.cell? ⟨gb129, 0, none⟩ = some (.slice Ao18 t121.length co18) := (blk_cell BK129.out 0).trans rfl; have hcz31_1 : w28.cell? ⟨gb129, 1, none⟩ = some (.slice Ao20 t124.length co20) := (blk_cell BK129.out 1).trans rfl; have hcz31_2 : w28.cell? ⟨gb129, 2, none⟩ = some (.bool t127) := (blk_cell BK129.out 2).trans rfl; have hfz31_0 := blk_frozen BK129.out 0; have hfz31_1 := blk_frozen BK129.out 1; have hfz31_2 := blk_frozen BK129.out 2; obtain ⟨Ao32, co32, eo32⟩ := Kd.V_slice HO136.out; subst eo32; have hnb33 := NB143_130.out; have hnc33 := NB130_143.out; have hcz34_0 : w28.cell? ⟨gb143, 0, none⟩ = some (.int .i64 0) := (blk_cell BK143.out 0).trans rfl; have hcz34_1 : w28.cell? ⟨gb143, 1, none⟩ = some (.int .i64 0) := (blk_cell BK143.out 1).trans rfl; have hcz34_2 : w28.cell? ⟨gb143, 2, none⟩ = some (.int .u64 0) := (blk_cell BK143.out 2).trans rfl; have hcz34_3 : w28.cell? ⟨gb143, 3, none⟩ = some (.int .i64 0) := (blk_cell BK143.out 3).trans rfl; have hfz34_0 := blk_frozen BK143.out 0; have hfz34_1 := blk_frozen BK143.out 1; have hfz34_2 := blk_frozen BK143.out 2; have hfz34_3 := blk_frozen BK143.out 3; have hcz35_0 : w28.cell? ⟨gb130, 0, none⟩ = some (.int .i64 0) := (blk_cell BK130.out 0).trans rfl; have hcz35_1 : w28.cell? ⟨gb130, 1, none⟩ = some (.int .i64 2) := (blk_cell BK130.out 1).trans rfl; have hfz35_0 := blk_frozen BK130.out 0; have hfz35_1 := blk_frozen BK130.out 1) | ((with_reducible refine gate_callee (f := 17) rfl ?_); refine goesL_ (some 25) rfl rfl Try.func17 (by kernel_rfl) rfl #[.agg #[.slice Ao29 t131.length co29, .slice Ao32 t134.length co32, .bool t137], .agg #[.int .i64 0, .int .i64 2], .int .i64 0, .int .u64 7] rfl (by (try simp only [List.map_toArray, List.map_cons, List.map_nil]); first | done | rfl | (simp only [List.length_drop, List.length_take]; rfl)) ?_; (with_reducible refine (redo_Scan.calls _ _ t131 _ _ t134 t137 0 2 0 7 t144 t145 t146 t147 t148 t151 _ ?side1 ?side2 ?side3 ?side4 A3.out).mono ?_); (case side1 => refine (Kd.V_reads' (e := 9) (base := w.heap.size) (ok := fun k_ => ((k_ ≠ gb129 ∧ k_ ≠ gb130) ∧ k_ ≠ gb143)) (n := t131.length) (c := co29) ?_).2.2; exact (by (with_reducible repeat (first | apply Kd.V_alloc | apply Kd.V_drewN | apply Kd.V_drew)); exact (Kd.V_mono (Kd.V_mono (Kd.V_far (p := ⟨gb143, 3, none⟩) (Kd.V_far (p := ⟨gb143, 2, none⟩) (Kd.V_far (p := ⟨gb143, 1, none⟩) (Kd.V_far (p := ⟨gb143, 0, none⟩) (Kd.V_far (p := ⟨gb129, 2, none⟩) (Kd.V_far (p := ⟨gb129, 1, none⟩) (Kd.V_far (p := ⟨gb129, 0, none⟩) (Kd.V_mono (Kd.V_mono HO133.out (fun k_ hk => (⟨hk, hk.1.1⟩ : _ ∧ k_ ≠ gb129))) (fun k_ hk => (⟨hk, hk.1.2⟩ : _ ∧ k_ ≠ gb143))) (fun _ hk => hk.1.2) (.slice Ao29 t131.length co29)) (fun _ hk => hk.1.2) (.slice Ao32 t134.length co32)) (fun _ hk => hk.1.2) (.bool t137)) (fun _ hk => hk.2) (.int .i64 t138)) (fun _ hk => hk.2) (.int .i64 t139)) (fun _ hk => hk.2) (.int .u64 t140)) (fun _ hk => hk.2) (.int .i64 t141)) (fun _ h_ => h_.1)) (fun _ h_ => h_.1)))); (case side2 => exact (Kd.V_reads' HO133.out).2.1); (case side3 => refine (Kd.V_reads' (e := 88) (base := w.heap.size) (ok := fun k_ => ((k_ ≠ gb129 ∧ k_ ≠ gb130) ∧ k_ ≠ gb143)) (n := t134.length) (c := co32) ?_).2.2; exact (by (with_reducible repeat (first | apply Kd.V_alloc | apply Kd.V_drewN | apply Kd.V_drew)); exact (Kd.V_mono (Kd.V_mono (Kd.V_far (p := ⟨gb143, 3, none⟩) (Kd.V_far (p := ⟨gb143, 2, none⟩) (Kd.V_far (p := ⟨gb143, 1, none⟩) (Kd.V_far (p := ⟨gb143, 0, none⟩) (Kd.V_far (p := ⟨gb129, 2, none⟩) (Kd.V_far (p := ⟨gb129, 1, none⟩) (Kd.V_far (p := ⟨gb129, 0, none⟩) (Kd.V_mono (Kd.V_mono HO136.out (fun k_ hk => (⟨hk, hk.1.1⟩ : _ ∧ k_ ≠ gb129))) (fun k_ hk => (⟨hk, hk.1.2⟩ : _ ∧ k_ ≠ gb143))) (fun _ hk => hk.1.2) (.slice Ao29 t131.length co29)) (fun _ hk => hk.1.2) (.slice Ao32 t134.length co32)) (fun _ hk => hk.1.2) (.bool t137)) (fun _ hk => hk.2) (.int .i64 t138)) (fun _ hk => hk.2) (.int .i64 t139)) (fun _ hk => hk.2) (.int .u64 t140)) (fun _ hk => hk.2) (.int .i64 t141)) (fun _ h_ => h_.1)) (fun _ h_ => h_.1)))); (case side4 => exact (Kd.V_reads' HO136.out).2.1); rintro e w36 ⟨v149, rfl, ho0, hb⟩; refine ⟨_, rfl, ?_⟩; have n0_ := Aside0.mk (Kd.R_elder' (by (with_reducible repeat (first | apply Kd.R_alloc | apply Kd.R_drewN | apply Kd.R_drew)); exact (Kd.R_mono (Kd.R_mono (Kd.R_far (p := ⟨gb143, 3, none⟩) (Kd.R_far (p := ⟨gb143, 2, none⟩) (Kd.R_far (p := ⟨gb143, 1, none⟩) (Kd.R_far (p := ⟨gb143, 0, none⟩) (Kd.R_far (p := ⟨gb129, 2, none⟩) (Kd.R_far (p := ⟨gb129, 1, none⟩) (Kd.R_far (p := ⟨gb129, 0, none⟩) (Kd.R_types (Kd.R_types HO123.out BK129.out (by decide)) BK143.out (by decide)) (fun _ hk => hk.1.2) (.slice Ao29 t131.length co29)) (fun _ hk => hk.1.2) (.slice Ao32 t134.length co32)) (fun _ hk => hk.1.2) (.bool t137)) (fun _ hk => hk.2) (.int .i64 t138)) (fun _ hk => hk.2) (.int .i64 t139)) (fun _ hk => hk.2) (.int .u64 t140)) (fun _ hk => hk.2) (.int .i64 t141)) (fun _ h_ => h_.1)) (fun _ h_ => h_.1))) (Kd.R_base ho0) hb); have n1_ := Aside0.mk (Kd.R_below (by (with_reducible repeat (first | apply Kd.R_alloc | apply Kd.R_drewN | apply Kd.R_drew)); exact (Kd.R_mono (Kd.R_mono (Kd.R_far (p := ⟨gb143, 3, none⟩) (Kd.R_far (p := ⟨gb143, 2, none⟩) (Kd.R_far (p := ⟨gb143, 1, none⟩) (Kd.R_far (p := ⟨gb143, 0, none⟩) (Kd.R_far (p := ⟨gb129, 2, none⟩) (Kd.R_far (p := ⟨gb129, 1, none⟩) (Kd.R_far (p := ⟨gb129, 0, none⟩) (Kd.R_types (Kd.R_types HO126.out BK129.out (by decide)) BK143.out (by decide)) (fun _ hk => hk.1.2) (.slice Ao29 t131.length co29)) (fun _ hk => hk.1.2) (.slice Ao32 t134.length co32)) (fun _ hk => hk.1.2) (.bool t137)) (fun _ hk => hk.2) (.int .i64 t138)) (fun _ hk => hk.2) (.int .i64 t139)) (fun _ hk => hk.2) (.int .u64 t140)) (fun _ hk => hk.2) (.int .i64 t141)) (fun _ h_ => h_.1)) (fun _ h_ => h_.1))) hb); have n2_ := Aside0.mk (Kd.V_elder' (by (with_reducible repeat (first | apply Kd.V_alloc | apply Kd.V_drewN | apply Kd.V_drew)); exact (Kd.V_mono (Kd.V_mono (Kd.V_far (p := ⟨gb143, 3, none⟩) (Kd.V_far (p := ⟨gb143, 2, none⟩) (Kd.V_far (p := ⟨gb143, 1, none⟩) (Kd.V_far (p := ⟨gb143, 0, none⟩) (Kd.V_far (p := ⟨gb129, 2, none⟩) (Kd.V_far (p := ⟨gb129, 1, none⟩) (Kd.V_far (p := ⟨gb129, 0, none⟩) (Kd.V_mono (Kd.V_mono HO133.out (fun k_ hk => (⟨hk, hk.1.1⟩ : _ ∧ k_ ≠ gb129))) (fun k_ hk => (⟨hk, hk.1.2⟩ : _ ∧ k_ ≠ gb143))) (fun _ hk => hk.1.2) (.slice Ao29 t131.length co29)) (fun _ hk => hk.1.2) (.slice Ao32 t134.length co32)) (fun _ hk => hk.1.2) (.bool t137)) (fun _ hk => hk.2) (.int .i64 t138)) (fun _ hk => hk.2) (.int .i64 t139)) (fun _ hk => hk.2) (.int .u64 t140)) (fun _ hk => hk.2) (.int .i64 t141)) (fun _ h_ => h_.1)) (fun _ h_ => h_.1))) (Kd.R_base ho0) hb); have n3_ := Aside0.mk (Kd.V_elder' (by (with_reducible repeat (first | apply Kd.V_alloc | apply Kd.V_drewN | apply Kd.V_drew)); exact (Kd.V_mono (Kd.V_mono (Kd.V_far (p := ⟨gb143, 3, none⟩) (Kd.V_far (p := ⟨gb143, 2, none⟩) (Kd.V_far (p := ⟨gb143, 1, none⟩) (Kd.V_far (p := ⟨gb143, 0, none⟩) (Kd.V_far (p := ⟨gb129, 2, none⟩) (Kd.V_far (p := ⟨gb129, 1, none⟩) (Kd.V_far (p := ⟨gb129, 0, none⟩) (Kd.V_mono (Kd.V_mono HO136.out (fun k_ hk => (⟨hk, hk.1.1⟩ : _ ∧ k_ ≠ gb129))) (fun k_ hk => (⟨hk, hk.1.2⟩ : _ ∧ k_ ≠ gb143))) (fun _ hk => hk.1.2) (.slice Ao29 t131.length co29)) (fun _ hk => hk.1.2) (.slice Ao32 t134.length co32)) (fun _ hk => hk.1.2) (.bool t137)) (fun _ hk => hk.2) (.int .i64 t138)) (fun _ hk => hk.2) (.int .i64 t139)) (fun _ hk => hk.2) (.int .u64 t140)) (fun _ hk => hk.2) (.int .i64 t141)) (fun _ h_ => h_.1)) (fun _ h_ => h_.1))) (Kd.R_base ho0) hb); have n4_ := Aside0.mk (Kd.R_lower (Kd.R_new' ho0 (Kd.R_lt (by (with_reducible repeat (first | apply Kd.R_alloc | apply Kd.R_drewN | apply Kd.R_drew)); exact (Kd.R_mono (Kd.R_mono (Kd.R_far (p := ⟨gb143, 3, none⟩) (Kd.R_far (p := ⟨gb143, 2, none⟩) (Kd.R_far (p := ⟨gb143, 1, none⟩) (Kd.R_far (p := ⟨gb143, 0, none⟩) (Kd.R_far (p := ⟨gb129, 2, none⟩) (Kd.R_far (p := ⟨gb129, 1, none⟩) (Kd.R_far (p := ⟨gb129, 0, none⟩) (Kd.R_types (Kd.R_types HO123.out BK129.out (by decide)) BK143.out (by decide)) (fun _ hk => hk.1.2) (.slice Ao29 t131.length co29)) (fun _ hk => hk.1.2) (.slice Ao32 t134.length co32)) (fun _ hk => hk.1.2) (.bool t137)) (fun _ hk => hk.2) (.int .i64 t138)) (fun _ hk => hk.2) (.int .i64 t139)) (fun _ hk => hk.2) (.int .u64 t140)) (fun _ hk => hk.2) (.int .i64 t141)) (fun _ h_ => h_.1)) (fun _ h_ => h_.1))))) (below_size (by repeat (first | (with_reducible first | exact HB.out | apply below_alloc | apply pw_below_drewN | apply below_drew1 | refine below_set ?_ GE129.out | refine below_set ?_ GE130.out | refine below_set ?_ GE143.out) | exact HB.out)))); have n5_ := Aside0.mk (blk_below (g := gb129) (o := .cells #[.slice Ao29 t131.length co29, .slice Ao32 t134.length co32, .bool t137] 25 (0, 0)) (by (iterate 4 ((with_reducible repeat (first | refine blk_drewN ?_ _ | refine blk_drew ?_ | refine blk_alloc ?_ _)); refine blk_far ?_ NB129_143.out _)); (with_reducible repeat (first | refine blk_drewN ?_ _ | refine blk_drew ?_ | refine blk_alloc ?_ _)); refine blk_put (cs := #[.slice Ao29 t131.length co29, .slice Ao32 t134.length co32, .bool t127]) ?_ 2 _ rfl; (with_reducible repeat (first | refine blk_drewN ?_ _ | refine blk_drew ?_ | refine blk_alloc ?_ _)); refine blk_put (cs := #[.slice Ao29 t131.length co29, .slice Ao20 t124.length co20, .bool t127]) ?_ 1 _ rfl; (with_reducible repeat (first | refine blk_drewN ?_ _ | refine blk_drew ?_ | refine blk_alloc ?_ _)); refine blk_put (cs := #[.slice Ao18 t121.length co18, .slice Ao20 t124.length co20, .bool t127]) ?_ 0 _ rfl; (with_reducible repeat (first | refine blk_drewN ?_ _ | refine blk_drew ?_ | refine blk_alloc ?_ _)); exact BK129.out) hb); have n6_ := Aside0.mk (blk_below (g := gb130) (o := .cells #[.int .i64 0, .int .i64 2] 27 (0, 0)) (by (iterate 4 ((with_reducible repeat (first | refine blk_drewN ?_ _ | refine blk_drew ?_ | refine blk_alloc ?_ _)); refine blk_far ?_ NB130_143.out _)); (iterate 3 ((with_reducible repeat (first | refine blk_drewN ?_ _ | refine blk_drew ?_ | refine blk_alloc ?_ _)); refine blk_far ?_ NB130_129.out _)); (with_reducible repeat (first | refine blk_drewN ?_ _ | refine blk_drew ?_ | refine blk_alloc ?_ _)); exact BK130.out) hb); have n7_ := Aside0.mk (blk_below (g := gb143) (o := .cells #[.int .i64 t138, .int .i64 t139, .int .u64 t140, .int .i64 t141] 30 (0, 0)) (by (with_reducible repeat (first | refine blk_drewN ?_ _ | refine blk_drew ?_ | refine blk_alloc ?_ _)); refine blk_put (cs := #[.int .i64 t138, .int .i64 t139, .int .u64 t140, .int .i64 0]) ?_ 3 _ rfl; (with_reducible repeat (first | refine blk_drewN ?_ _ | refine blk_drew ?_ | refine blk_alloc ?_ _)); refine blk_put (cs := #[.int .i64 t138, .int .i64 t139, .int .u64 0, .int .i64 0]) ?_ 2 _ rfl; (with_reducible repeat (first | refine blk_drewN ?_ _ | refine blk_drew ?_ | refine blk_alloc ?_ _)); refine blk_put (cs := #[.int .i64 t138, .int .i64 0, .int .u64 0, .int .i64 0]) ?_ 1 _ rfl; (with_reducible repeat (first | refine blk_drewN ?_ _ | refine blk_drew ?_ | refine blk_alloc ?_ _)); refine blk_put (cs := #[.int .i64 0, .int .i64 0, .int .u64 0, .int .i64 0]) ?_ 0 _ rfl; (iterate 3 ((with_reducible repeat (first | refine blk_drewN ?_ _ | refine blk_drew ?_ | refine blk_alloc ?_ _)); refine blk_far ?_ NB143_129.out _)); (with_reducible repeat (first | refine blk_drewN ?_ _ | refine blk_drew ?_ | refine blk_alloc ?_ _)); exact BK143.out) hb); have n8_ := Aside0.mk (below_step (by repeat (first | (with_reducible first | exact HB.out | apply below_alloc | apply pw_below_drewN | apply below_drew1 | refine below_set ?_ GE129.out | refine below_set ?_ GE130.out | refine below_set ?_ GE143.out) | exact HB.out)) hb); clear HO123; clear HO126; clear HO133; clear HO136; clear BK129; clear BK130; clear BK143; clear HB; have HO123 := n0_; have HO126 := n1_; have HO133 := n2_; have HO136 := n3_; have HO150 := n4_; have BK129 := n5_; have BK130 := n6_; have BK143 := n7_; have HB := n8_; clear n0_ n1_ n2_ n3_ n4_ n5_ n6_ n7_ n8_; (try clear hb); (try clear hb2); (try clear hk); (try clear hi); (try clear ho0)) | ((with_reducible refine gate_dst (N := 6) rfl ?_); (try (refine gate_guard (by rfl) ?_; dsimp only)); refine box_event ?hg (N := 6) ?hd (cs := #[.int .i64 0, .int .i64 0, .int .u64 0, .int .i64 0]) (t := 30) ?hr ?_; (case hd => rfl); (case hg => rfl); (case hr => first | (go_simp; done) | (go_simp; rfl)); intro gb152 hg w37 hbox hb; have n0_ := Aside0.mk (Kd.R_below (by (with_reducible repeat (first | apply Kd.R_alloc | apply Kd.R_drewN | apply Kd.R_drew)); exact HO123.out) hb); have n1_ := Aside0.mk (Kd.R_below (by (with_reducible repeat (first | apply Kd.R_alloc | apply Kd.R_drewN | apply Kd.R_drew)); exact HO126.out) hb); have n2_ := Aside0.mk (Kd.V_below (Kd.V_elderB (by (with_reducible repeat (first | apply Kd.V_alloc | apply Kd.V_drewN | apply Kd.V_drew)); exact HO133.out) gb152 (Nat.le_of_eq hg.symm)) hb); have n3_ := Aside0.mk (Kd.V_below (Kd.V_elderB (by (with_reducible repeat (first | apply Kd.V_alloc | apply Kd.V_drewN | apply Kd.V_drew)); exact HO136.out) gb152 (Nat.le_of_eq hg.symm)) hb); have n4_ := Aside0.mk (Kd.R_below (by (with_reducible repeat (first | apply Kd.R_alloc | apply Kd.R_drewN | apply Kd.R_drew)); exact HO150.out) hb); have n5_ := Aside0.mk (blk_below (g := gb129) (o := .cells #[.slice Ao29 t131.length co29, .slice Ao32 t134.length co32, .bool t137] 25 (0, 0)) (by (with_reducible repeat (first | refine blk_drewN ?_ _ | refine blk_drew ?_ | refine blk_alloc ?_ _)); exact BK129.out) hb); have n6_ := Aside0.mk (blk_below (g := gb130) (o := .cells #[.int .i64 0, .int .i64 2] 27 (0, 0)) (by (with_reducible repeat (first | refine blk_drewN ?_ _ | refine blk_drew ?_ | refine blk_alloc ?_ _)); exact BK130.out) hb); have n7_ := Aside0.mk (blk_below (g := gb143) (o := .cells #[.int .i64 t138, .int .i64 t139, .int .u64 t140, .int .i64 t141] 30 (0, 0)) (by (with_reducible repeat (first | refine blk_drewN ?_ _ | refine blk_drew ?_ | refine blk_alloc ?_ _)); exact BK143.out) hb); have n8_ := Aside0.mk (below_step (by repeat (first | (with_reducible first | exact HB.out | apply below_alloc | apply pw_below_drewN | apply below_drew1 | refine below_set ?_ GE129.out | refine below_set ?_ GE130.out | refine below_set ?_ GE143.out) | exact HB.out)) hb); have n9_ := Aside0.mk (hbox); have n10_ := Aside0.mk ((by rw [hg]; exact (below_size (by repeat (first | (with_reducible first | exact HB.out | apply below_alloc | apply pw_below_drewN | apply below_drew1 | refine below_set ?_ GE129.out | refine below_set ?_ GE130.out | refine below_set ?_ GE143.out) | exact HB.out))) : w.heap.size ≤ gb152)); have n11_ := Aside0.mk ((by rw [hg]; exact (below_size (by repeat (first | (with_reducible first | exact HB.out | apply below_alloc | apply pw_below_drewN | apply below_drew1 | refine below_set ?_ GE129.out | refine below_set ?_ GE130.out | refine below_set ?_ GE143.out) | exact HB.out))) : w.heap.size ≤ gb152)); have n12_ := Aside0.mk ((by rw [hg]; exact Nat.ne_of_lt (blk_lt (g := gb129) (o := .cells #[.slice Ao29 t131.length co29, .slice Ao32 t134.length co32, .bool t137] 25 (0, 0)) (by (with_reducible repeat (first | refine blk_drewN ?_ _ | refine blk_drew ?_ | refine blk_alloc ?_ _)); exact BK129.out)) : gb129 ≠ gb152)); have n13_ := Aside0.mk ((by rw [hg]; exact Nat.ne_of_gt (blk_lt (g := gb129) (o := .cells #[.slice Ao29 t131.length co29, .slice Ao32 t134.length co32, .bool t137] 25 (0, 0)) (by (with_reducible repeat (first | refine blk_drewN ?_ _ | refine blk_drew ?_ | refine blk_alloc ?_ _)); exact BK129.out)) : gb152 ≠ gb129)); have n14_ := Aside0.mk ((by rw [hg]; exact Nat.ne_of_lt (blk_lt (g := gb130) (o := .cells #[.int .i64 0, .int .i64 2] 27 (0, 0)) (by (with_reducible repeat (first | refine blk_drewN ?_ _ | refine blk_drew ?_ | refine blk_alloc ?_ _)); exact BK130.out)) : gb130 ≠ gb152)); have n15_ := Aside0.mk ((by rw [hg]; exact Nat.ne_of_gt (blk_lt (g := gb130) (o := .cells #[.int .i64 0, .int .i64 2] 27 (0, 0)) (by (with_reducible repeat (first | refine blk_drewN ?_ _ | refine blk_drew ?_ | refine blk_alloc ?_ _)); exact BK130.out)) : gb152 ≠ gb130)); have n16_ := Aside0.mk ((by rw [hg]; exact Nat.ne_of_lt (blk_lt (g := gb143) (o := .cells #[.int .i64 t138, .int .i64 t139, .int .u64 t140, .int .i64 t141] 30 (0, 0)) (by (with_reducible repeat (first | refine blk_drewN ?_ _ | refine blk_drew ?_ | refine blk_alloc ?_ _)); exact BK143.out)) : gb143 ≠ gb152)); have n17_ := Aside0.mk ((by rw [hg]; exact Nat.ne_of_gt (blk_lt (g := gb143) (o := .cells #[.int .i64 t138, .int .i64 t139, .int .u64 t140, .int .i64 t141] 30 (0, 0)) (by (with_reducible repeat (first | refine blk_drewN ?_ _ | refine blk_drew ?_ | refine blk_alloc ?_ _)); exact BK143.out)) : gb152 ≠ gb143)); clear HO123; clear HO126; clear HO133; clear HO136; clear HO150; clear BK129; clear BK130; clear BK143; clear HB; have HO123 := n0_; have HO126 := n1_; have HO133 := n2_; have HO136 := n3_; have HO150 := n4_; have BK129 := n5_; have BK130 := n6_; have BK143 := n7_; have HB := n8_; have BK152 := n9_; have GW152 := n10_; have GE152 := n11_; have NB129_152 := n12_; have NB152_129 := n13_; have NB130_152 := n14_; have NB152_130 := n15_; have NB143_152 := n16_; have NB152_143 := n17_; clear n0_ n1_ n2_ n3_ n4_ n5_ n6_ n7_ n8_ n9_ n10_ n11_ n12_ n13_ n14_ n15_ n16_ n17_; clear hb hbox hg; have hnb38 := NB152_129.out; have hnc38 := NB129_152.out; have hnb39 := NB152_130.out; have hnc39 := NB130_152.out; have hnb40 := NB152_143.out; have hnc40 := NB143_152.out; have hcz41_0 : w37.cell? ⟨gb152, 0, none⟩ = some (.int .i64 0) := (blk_cell BK152.out 0).trans rfl; have hcz41_1 : w37.cell? ⟨gb152, 1, none⟩ = some (.int .i64 0) := (blk_cell BK152.out 1).trans rfl; have hcz41_2 : w37.cell? ⟨gb152, 2, none⟩ = some (.int .u64 0) := (blk_cell BK152.out 2).trans rfl; have hcz41_3 : w37.cell? ⟨gb152, 3, none⟩ = some (.int .i64 0) := (blk_cell BK152.out 3).trans rfl; have hfz41_0 := blk_frozen BK152.out 0; have hfz41_1 := blk_frozen BK152.out 1; have hfz41_2 := blk_frozen BK152.out 2; have hfz41_3 := blk_frozen BK152.out 3; have hcz42_0 : w37.cell? ⟨gb143, 0, none⟩ = some (.int .i64 t138) := (blk_cell BK143.out 0).trans rfl; have hcz42_1 : w37.cell? ⟨gb143, 1, none⟩ = some (.int .i64 t139) := (blk_cell BK143.out 1).trans rfl; have hcz42_2 : w37.cell? ⟨gb143, 2, none⟩ = some (.int .u64 t140) := (blk_cell BK143.out 2).trans rfl; have hcz42_3 : w37.cell? ⟨gb143, 3, none⟩ = some (.int .i64 t141) := (blk_cell BK143.out 3).trans rfl; have hfz42_0 := blk_frozen BK143.out 0; have hfz42_1 := blk_frozen BK143.out 1; have hfz42_2 := blk_frozen BK143.out 2; have hfz42_3 := blk_frozen BK143.out 3; obtain ⟨Ao43, co43, eo43⟩ := Kd.R_slice HO150.out; subst eo43; have p153 : 0 ≤ (0 : Int) := (by omega); have q153 : 0 < (t148.length : Int) := of_decide_eq_true (by first | (with_reducible assumption) | assumption); obtain ⟨ad153, e153, hx153_0⟩ := Kd.at_string (Kd.R_reads' HO150.out).2.2 0 p153 q153; cases e153; have qi153 : (0 < t148.length) = True := eq_true (by omega); (try rw [show ((0 : Int)).toNat = 0 from rfl] at hx153_0); (try rw [Addr.add_zero'] at hx153_0); have hn153_0 : ad153.block ≠ gb152 := Kd.own_blk (Kd.R_ne HO150.out BK152.out (by decide)); have hn153_1 : ad153.block ≠ gb152 := Kd.own_blk (Kd.R_ne HO150.out BK152.out (by decide)); have hn153_2 : ad153.block ≠ gb152 := Kd.own_blk (Kd.R_ne HO150.out BK152.out (by decide)); have hn153_3 : ad153.block ≠ gb152 := Kd.own_blk (Kd.R_ne HO150.out BK152.out (by decide)); replace hx153_0 := (cell_far (p := ⟨gb152, 0, none⟩) (by first | (rw [add_block]; exact hn153_0) | (show (Addr.add _ _).block ≠ _; rw [add_block]; exact hn153_0) | exact hn153_0) (.int .i64 t144)).trans hx153_0; replace hx153_0 := (cell_far (p := ⟨gb152, 1, none⟩) (by first | (rw [add_block]; exact hn153_1) | (show (Addr.add _ _).block ≠ _; rw [add_block]; exact hn153_1) | exact hn153_1) (.int .i64 t145)).trans hx153_0; replace hx153_0 := (cell_far (p := ⟨gb152, 2, none⟩) (by first | (rw [add_block]; exact hn153_2) | (show (Addr.add _ _).block ≠ _; rw [add_block]; exact hn153_2) | exact hn153_2) (.int .u64 t146)).trans hx153_0; replace hx153_0 := (cell_far (p := ⟨gb152, 3, none⟩) (by first | (rw [add_block]; exact hn153_3) | (show (Addr.add _ _).block ≠ _; rw [add_block]; exact hn153_3) | exact hn153_3) (.int .i64 t147)).trans hx153_0; clear hn153_0; clear hn153_1; clear hn153_2; clear hn153_3; replace p153 := eq_true p153; replace q153 := eq_true q153) | ((with_reducible refine gate_dst (N := 57) rfl ?_); (try (refine gate_guard (by rfl) ?_; dsimp only)); refine Kd.R_make (Kd.int .u8) _ 5 rfl (N := 57) rfl 71 _ _ rfl 47 rfl rfl Try.underlying71 (.int .u8 0) 1 info5 rfl (by decide) (by omega) 0 (ok := fun _ => True) (okp := fun _ => True) rfl (fun _ hk => hk) trivial (by omega) (by omega) (Below.refl _ _) (Nat.le_refl _) ?_; intro v155 w44 ho45 hb hg_ hnew_; clear hg_ hnew_; (first | rw [← Ny154.out] at ho45 | (simp only [Int.reduceToNat] at ho45; rw [← Ny154.out] at ho45)); have n0_ := Aside0.mk (Kd.R_below (by (with_reducible repeat (first | apply Kd.R_alloc | apply Kd.R_drewN | apply Kd.R_drew)); exact (Kd.R_mono (Kd.R_far (p := ⟨gb152, 3, none⟩) (Kd.R_far (p := ⟨gb152, 2, none⟩) (Kd.R_far (p := ⟨gb152, 1, none⟩) (Kd.R_far (p := ⟨gb152, 0, none⟩) (Kd.R_types HO123.out BK152.out (by decide)) (fun _ hk => hk.2) (.int .i64 t144)) (fun _ hk => hk.2) (.int .i64 t145)) (fun _ hk => hk.2) (.int .u64 t146)) (fun _ hk => hk.2) (.int .i64 t147)) (fun _ h_ => h_.1))) hb); have n1_ := Aside0.mk (Kd.R_below (by (with_reducible repeat (first | apply Kd.R_alloc | apply Kd.R_drewN | apply Kd.R_drew)); exact (Kd.R_mono (Kd.R_far (p := ⟨gb152, 3, none⟩) (Kd.R_far (p := ⟨gb152, 2, none⟩) (Kd.R_far (p := ⟨gb152, 1, none⟩) (Kd.R_far (p := ⟨gb152, 0, none⟩) (Kd.R_types HO126.out BK152.out (by decide)) (fun _ hk => hk.2) (.int .i64 t144)) (fun _ hk => hk.2) (.int .i64 t145)) (fun _ hk => hk.2) (.int .u64 t146)) (fun _ hk => hk.2) (.int .i64 t147)) (fun _ h_ => h_.1))) hb); have n2_ := Aside0.mk (Kd.V_elder' (by (with_reducible repeat (first | apply Kd.V_alloc | apply Kd.V_drewN | apply Kd.V_drew)); exact (Kd.V_mono (Kd.V_far (p := ⟨gb152, 3, none⟩) (Kd.V_far (p := ⟨gb152, 2, none⟩) (Kd.V_far (p := ⟨gb152, 1, none⟩) (Kd.V_far (p := ⟨gb152, 0, none⟩) (Kd.V_mono HO133.out (fun k_ hk => (⟨hk, hk.2⟩ : _ ∧ k_ ≠ gb152))) (fun _ hk => hk.2) (.int .i64 t144)) (fun _ hk => hk.2) (.int .i64 t145)) (fun _ hk => hk.2) (.int .u64 t146)) (fun _ hk => hk.2) (.int .i64 t147)) (fun _ h_ => h_.1))) (Kd.R_base ho45) hb); have n3_ := Aside0.mk (Kd.V_elder' (by (with_reducible repeat (first | apply Kd.V_alloc | apply Kd.V_drewN | apply Kd.V_drew)); exact (Kd.V_mono (Kd.V_far (p := ⟨gb152, 3, none⟩) (Kd.V_far (p := ⟨gb152, 2, none⟩) (Kd.V_far (p := ⟨gb152, 1, none⟩) (Kd.V_far (p := ⟨gb152, 0, none⟩) (Kd.V_mono HO136.out (fun k_ hk => (⟨hk, hk.2⟩ : _ ∧ k_ ≠ gb152))) (fun _ hk => hk.2) (.int .i64 t144)) (fun _ hk => hk.2) (.int .i64 t145)) (fun _ hk => hk.2) (.int .u64 t146)) (fun _ hk => hk.2) (.int .i64 t147)) (fun _ h_ => h_.1))) (Kd.R_base ho45) hb); have n4_ := Aside0.mk (Kd.R_below (by (with_reducible repeat (first | apply Kd.R_alloc | apply Kd.R_drewN | apply Kd.R_drew)); exact (Kd.R_mono (Kd.R_far (p := ⟨gb152, 3, none⟩) (Kd.R_far (p := ⟨gb152, 2, none⟩) (Kd.R_far (p := ⟨gb152, 1, none⟩) (Kd.R_far (p := ⟨gb152, 0, none⟩) (Kd.R_types HO150.out BK152.out (by decide)) (fun _ hk => hk.2) (.int .i64 t144)) (fun _ hk => hk.2) (.int .i64 t145)) (fun _ hk => hk.2) (.int .u64 t146)) (fun _ hk => hk.2) (.int .i64 t147)) (fun _ h_ => h_.1))) hb); have n5_ := Aside0.mk (Kd.R_lower ho45 (below_size (by repeat (first | (with_reducible first | exact HB.out | apply below_alloc | apply pw_below_drewN | apply below_drew1 | refine below_set ?_ GE129.out | refine below_set ?_ GE130.out | refine below_set ?_ GE143.out | refine below_set ?_ GE152.out) | exact HB.out)))); have n6_ := Aside0.mk (blk_below (g := gb129) (o := .cells #[.slice Ao29 t131.length co29, .slice Ao32 t134.length co32, .bool t137] 25 (0, 0)) (by (iterate 4 ((with_reducible repeat (first | refine blk_drewN ?_ _ | refine blk_drew ?_ | refine blk_alloc ?_ _)); refine blk_far ?_ NB129_152.out _)); (with_reducible repeat (first | refine blk_drewN ?_ _ | refine blk_drew ?_ | refine blk_alloc ?_ _)); exact BK129.out) hb); have n7_ := Aside0.mk (blk_below (g := gb130) (o := .cells #[.int .i64 0, .int .i64 2] 27 (0, 0)) (by (iterate 4 ((with_reducible repeat (first | refine blk_drewN ?_ _ | refine blk_drew ?_ | refine blk_alloc ?_ _)); refine blk_far ?_ NB130_152.out _)); (with_reducible repeat (first | refine blk_drewN ?_ _ | refine blk_drew ?_ | refine blk_alloc ?_ _)); exact BK130.out) hb); have n8_ := Aside0.mk (blk_below (g := gb143) (o := .cells #[.int .i64 t138, .int .i64 t139, .int .u64 t140, .int .i64 t141] 30 (0, 0)) (by (iterate 4 ((with_reducible repeat (first | refine blk_drewN ?_ _ | refine blk_drew ?_ | refine blk_alloc ?_ _)); refine blk_far ?_ NB143_152.out _)); (with_reducible repeat (first | refine blk_drewN ?_ _ | refine blk_drew ?_ | refine blk_alloc ?_ _)); exact BK143.out) hb); have n9_ := Aside0.mk (blk_below (g := gb152) (o := .cells #[.int .i64 t144, .int .i64 t145, .int .u64 t146, .int .i64 t147] 30 (0, 0)) (by (with_reducible repeat (first | refine blk_drewN ?_ _ | refine blk_drew ?_ | refine blk_alloc ?_ _)); refine blk_put (cs := #[.int .i64 t144, .int .i64 t145, .int .u64 t146, .int .i64 0]) ?_ 3 _ rfl; (with_reducible repeat (first | refine blk_drewN ?_ _ | refine blk_drew ?_ | refine blk_alloc ?_ _)); refine blk_put (cs := #[.int .i64 t144, .int .i64 t145, .int .u64 0, .int .i64 0]) ?_ 2 _ rfl; (with_reducible repeat (first | refine blk_drewN ?_ _ | refine blk_drew ?_ | refine blk_alloc ?_ _)); refine blk_put (cs := #[.int .i64 t144, .int .i64 0, .int .u64 0, .int .i64 0]) ?_ 1 _ rfl; (with_reducible repeat (first | refine blk_drewN ?_ _ | refine blk_drew ?_ | refine blk_alloc ?_ _)); refine blk_put (cs := #[.int .i64 0, .int .i64 0, .int .u64 0, .int .i64 0]) ?_ 0 _ rfl; (with_reducible repeat (first | refine blk_drewN ?_ _ | refine blk_drew ?_ | refine blk_alloc ?_ _)); exact BK152.out) hb); have n10_ := Aside0.mk (below_step (by repeat (first | (with_reducible first | exact HB.out | apply below_alloc | apply pw_below_drewN | apply below_drew1 | refine below_set ?_ GE129.out | refine below_set ?_ GE130.out | refine below_set ?_ GE143.out | refine below_set ?_ GE152.out) | exact HB.out)) hb); clear HO123; clear HO126; clear HO133; clear HO136; clear HO150; clear BK129; clear BK130; clear BK143; clear BK152; clear HB; have HO123 := n0_; have HO126 := n1_; have HO133 := n2_; have HO136 := n3_; have HO150 := n4_; have HO156 := n5_; have BK129 := n6_; have BK130 := n7_; have BK143 := n8_; have BK152 := n9_; have HB := n10_; clear n0_ n1_ n2_ n3_ n4_ n5_ n6_ n7_ n8_ n9_ n10_; clear hb ho45; have hcv46 := own_string (P := Try.prog) Try.underlying71 Try.underlying5 Try.underlying9 (Kd.own_of_R HO156.out)) | (go_at_call 14; (with_reducible refine (redo_Need.calls k (strOfNums y154) t157 _ A12.out).mono ?_); rintro e w47 ⟨rfl, hb⟩; have n0_ := Aside0.mk (Kd.R_below (by (with_reducible repeat (first | apply Kd.R_alloc | apply Kd.R_drewN | apply Kd.R_drew)); exact HO123.out) hb); have n1_ := Aside0.mk (Kd.R_below (by (with_reducible repeat (first | apply Kd.R_alloc | apply Kd.R_drewN | apply Kd.R_drew)); exact HO126.out) hb); have n2_ := Aside0.mk (Kd.V_below (by (with_reducible repeat (first | apply Kd.V_alloc | apply Kd.V_drewN | apply Kd.V_drew)); exact HO133.out) hb); have n3_ := Aside0.mk (Kd.V_below (by (with_reducible repeat (first | apply Kd.V_alloc | apply Kd.V_drewN | apply Kd.V_drew)); exact HO136.out) hb); have n4_ := Aside0.mk (Kd.R_below (by (with_reducible repeat (first | apply Kd.R_alloc | apply Kd.R_drewN | apply Kd.R_drew)); exact HO150.out) hb); have n5_ := Aside0.mk (Kd.R_below (by (with_reducible repeat (first | apply Kd.R_alloc | apply Kd.R_drewN | apply Kd.R_drew)); exact HO156.out) hb); have n6_ := Aside0.mk (blk_below (g := gb129) (o := .cells #[.slice Ao29 t131.length co29, .slice Ao32 t134.length co32, .bool t137] 25 (0, 0)) (by (with_reducible repeat (first | refine blk_drewN ?_ _ | refine blk_drew ?_ | refine blk_alloc ?_ _)); exact BK129.out) hb); have n7_ := Aside0.mk (blk_below (g := gb130) (o := .cells #[.int .i64 0, .int .i64 2] 27 (0, 0)) (by (with_reducible repeat (first | refine blk_drewN ?_ _ | refine blk_drew ?_ | refine blk_alloc ?_ _)); exact BK130.out) hb); have n8_ := Aside0.mk (blk_below (g := gb143) (o := .cells #[.int .i64 t138, .int .i64 t139, .int .u64 t140, .int .i64 t141] 30 (0, 0)) (by (with_reducible repeat (first | refine blk_drewN ?_ _ | refine blk_drew ?_ | refine blk_alloc ?_ _)); exact BK143.out) hb); have n9_ := Aside0.mk (blk_below (g := gb152) (o := .cells #[.int .i64 t144, .int .i64 t145, .int .u64 t146, .int .i64 t147] 30 (0, 0)) (by (with_reducible repeat (first | refine blk_drewN ?_ _ | refine blk_drew ?_ | refine blk_alloc ?_ _)); exact BK152.out) hb); have n10_ := Aside0.mk (below_step (by repeat (first | (with_reducible first | exact HB.out | apply below_alloc | apply pw_below_drewN | apply below_drew1 | refine below_set ?_ GE129.out | refine below_set ?_ GE130.out | refine below_set ?_ GE143.out | refine below_set ?_ GE152.out) | exact HB.out)) hb); clear HO123; clear HO126; clear HO133; clear HO136; clear HO150; clear HO156; clear BK129; clear BK130; clear BK143; clear BK152; clear HB; have HO123 := n0_; have HO126 := n1_; have HO133 := n2_; have HO136 := n3_; have HO150 := n4_; have HO156 := n5_; have BK129 := n6_; have BK130 := n7_; have BK143 := n8_; have BK152 := n9_; have HB := n10_; clear n0_ n1_ n2_ n3_ n4_ n5_ n6_ n7_ n8_ n9_ n10_; (try clear hb); (try clear hb2); (try clear hk); (try clear hi)) | ((with_reducible refine gate_dst (N := 63) rfl ?_); (try (refine gate_guard (by rfl) ?_; dsimp only)); refine Kd.R_make (Kd.int .u8) _ 5 rfl (N := 63) rfl 71 _ _ rfl 52 rfl rfl Try.underlying71 (.int .u8 0) 1 info5 rfl (by decide) (by omega) 0 (ok := fun _ => True) (okp := fun _ => True) rfl (fun _ hk => hk) trivial (by omega) (by omega) (Below.refl _ _) (Nat.le_refl _) ?_; intro v159 w48 ho49 hb hg_ hnew_; clear hg_ hnew_; (first | rw [← Ny158.out] at ho49 | (simp only [Int.reduceToNat] at ho49; rw [← Ny158.out] at ho49)); have n0_ := Aside0.mk (Kd.R_below (by (with_reducible repeat (first | apply Kd.R_alloc | apply Kd.R_drewN | apply Kd.R_drew)); exact HO123.out) hb); have n1_ := Aside0.mk (Kd.R_below (by (with_reducible repeat (first | apply Kd.R_alloc | apply Kd.R_drewN | apply Kd.R_drew)); exact HO126.out) hb); have n2_ := Aside0.mk (Kd.V_elder' (by (with_reducible repeat (first | apply Kd.V_alloc | apply Kd.V_drewN | apply Kd.V_drew)); exact HO133.out) (Kd.R_base ho49) hb); have n3_ := Aside0.mk (Kd.V_elder' (by (with_reducible repeat (first | apply Kd.V_alloc | apply Kd.V_drewN | apply Kd.V_drew)); exact HO136.out) (Kd.R_base ho49) hb); have n4_ := Aside0.mk (Kd.R_below (by (with_reducible repeat (first | apply Kd.R_alloc | apply Kd.R_drewN | apply Kd.R_drew)); exact HO150.out) hb); have n5_ := Aside0.mk (Kd.R_elder' (by (with_reducible repeat (first | apply Kd.R_alloc | apply Kd.R_drewN | apply Kd.R_drew)); exact HO156.out) (Kd.R_base ho49) hb); have n6_ := Aside0.mk (Kd.R_lower (Kd.R_new' ho49 (Kd.R_lt (by (with_reducible repeat (first | apply Kd.R_alloc | apply Kd.R_drewN | apply Kd.R_drew)); exact HO156.out))) (below_size (by repeat (first | (with_reducible first | exact HB.out | apply below_alloc | apply pw_below_drewN | apply below_drew1 | refine below_set ?_ GE129.out | refine below_set ?_ GE130.out | refine below_set ?_ GE143.out | refine below_set ?_ GE152.out) | exact HB.out)))); have n7_ := Aside0.mk (blk_below (g := gb129) (o := .cells #[.slice Ao29 t131.length co29, .slice Ao32 t134.length co32, .bool t137] 25 (0, 0)) (by (with_reducible repeat (first | refine blk_drewN ?_ _ | refine blk_drew ?_ | refine blk_alloc ?_ _)); exact BK129.out) hb); have n8_ := Aside0.mk (blk_below (g := gb130) (o := .cells #[.int .i64 0, .int .i64 2] 27 (0, 0)) (by (with_reducible repeat (first | refine blk_drewN ?_ _ | refine blk_drew ?_ | refine blk_alloc ?_ _)); exact BK130.out) hb); have n9_ := Aside0.mk (blk_below (g := gb143) (o := .cells #[.int .i64 t138, .int .i64 t139, .int .u64 t140, .int .i64 t141] 30 (0, 0)) (by (with_reducible repeat (first | refine blk_drewN ?_ _ | refine blk_drew ?_ | refine blk_alloc ?_ _)); exact BK143.out) hb); have n10_ := Aside0.mk (blk_below (g := gb152) (o := .cells #[.int .i64 t144, .int .i64 t145, .int .u64 t146, .int .i64 t147] 30 (0, 0)) (by (with_reducible repeat (first | refine blk_drewN ?_ _ | refine blk_drew ?_ | refine blk_alloc ?_ _)); exact BK152.out) hb); have n11_ := Aside0.mk (below_step (by repeat (first | (with_reducible first | exact HB.out | apply below_alloc | apply pw_below_drewN | apply below_drew1 | refine below_set ?_ GE129.out | refine below_set ?_ GE130.out | refine below_set ?_ GE143.out | refine below_set ?_ GE152.out) | exact HB.out)) hb); clear HO123; clear HO126; clear HO133; clear HO136; clear HO150; clear HO156; clear BK129; clear BK130; clear BK143; clear BK152; clear HB; have HO123 := n0_; have HO126 := n1_; have HO133 := n2_; have HO136 := n3_; have HO150 := n4_; have HO156 := n5_; have HO160 := n6_; have BK129 := n7_; have BK130 := n8_; have BK143 := n9_; have BK152 := n10_; have HB := n11_; clear n0_ n1_ n2_ n3_ n4_ n5_ n6_ n7_ n8_ n9_ n10_ n11_; clear hb ho49; have hcv50 := own_string (P := Try.prog) Try.underlying71 Try.underlying5 Try.underlying9 (Kd.own_of_R HO160.out)) | (go_at_call 14; (with_reducible refine (redo_Need.calls k (strOfNums y158) t161 _ A15.out).mono ?_); rintro e w51 ⟨rfl, hb⟩; have n0_ := Aside0.mk (Kd.R_below (by (with_reducible repeat (first | apply Kd.R_alloc | apply Kd.R_drewN | apply Kd.R_drew)); exact HO123.out) hb); have n1_ := Aside0.mk (Kd.R_below (by (with_reducible repeat (first | apply Kd.R_alloc | apply Kd.R_drewN | apply Kd.R_drew)); exact HO126.out) hb); have n2_ := Aside0.mk (Kd.V_below (by (with_reducible repeat (first | apply Kd.V_alloc | apply Kd.V_drewN | apply Kd.V_drew)); exact HO133.out) hb); have n3_ := Aside0.mk (Kd.V_below (by (with_reducible repeat (first | apply Kd.V_alloc | apply Kd.V_drewN | apply Kd.V_drew)); exact HO136.out) hb); have n4_ := Aside0.mk (Kd.R_below (by (with_reducible repeat (first | apply Kd.R_alloc | apply Kd.R_drewN | apply Kd.R_drew)); exact HO150.out) hb); have n5_ := Aside0.mk (Kd.R_below (by (with_reducible repeat (first | apply Kd.R_alloc | apply Kd.R_drewN | apply Kd.R_drew)); exact HO156.out) hb); have n6_ := Aside0.mk (Kd.R_below (by (with_reducible repeat (first | apply Kd.R_alloc | apply Kd.R_drewN | apply Kd.R_drew)); exact HO160.out) hb); have n7_ := Aside0.mk (blk_below (g := gb129) (o := .cells #[.slice Ao29 t131.length co29, .slice Ao32 t134.length co32, .bool t137] 25 (0, 0)) (by (with_reducible repeat (first | refine blk_drewN ?_ _ | refine blk_drew ?_ | refine blk_alloc ?_ _)); exact BK129.out) hb); have n8_ := Aside0.mk (blk_below (g := gb130) (o := .cells #[.int .i64 0, .int .i64 2] 27 (0, 0)) (by (with_reducible repeat (first | refine blk_drewN ?_ _ | refine blk_drew ?_ | refine blk_alloc ?_ _)); exact BK130.out) hb); have n9_ := Aside0.mk (blk_below (g := gb143) (o := .cells #[.int .i64 t138, .int .i64 t139, .int .u64 t140, .int .i64 t141] 30 (0, 0)) (by (with_reducible repeat (first | refine blk_drewN ?_ _ | refine blk_drew ?_ | refine blk_alloc ?_ _)); exact BK143.out) hb); have n10_ := Aside0.mk (blk_below (g := gb152) (o := .cells #[.int .i64 t144, .int .i64 t145, .int .u64 t146, .int .i64 t147] 30 (0, 0)) (by (with_reducible repeat (first | refine blk_drewN ?_ _ | refine blk_drew ?_ | refine blk_alloc ?_ _)); exact BK152.out) hb); have n11_ := Aside0.mk (below_step (by repeat (first | (with_reducible first | exact HB.out | apply below_alloc | apply pw_below_drewN | apply below_drew1 | refine below_set ?_ GE129.out | refine below_set ?_ GE130.out | refine below_set ?_ GE143.out | refine below_set ?_ GE152.out) | exact HB.out)) hb); clear HO123; clear HO126; clear HO133; clear HO136; clear HO150; clear HO156; clear HO160; clear BK129; clear BK130; clear BK143; clear BK152; clear HB; have HO123 := n0_; have HO126 := n1_; have HO133 := n2_; have HO136 := n3_; have HO150 := n4_; have HO156 := n5_; have HO160 := n6_; have BK129 := n7_; have BK130 := n8_; have BK143 := n9_; have BK152 := n10_; have HB := n11_; clear n0_ n1_ n2_ n3_ n4_ n5_ n6_ n7_ n8_ n9_ n10_ n11_; (try clear hb); (try clear hb2); (try clear hk); (try clear hi)))
           go_ret
           exact ⟨by first | rfl | (simp [errW_none, errW_some] <;> rfl) | (simp [*, errW_none, errW_some] <;> rfl), by repeat (first | (with_reducible first | exact HB.out | apply below_alloc | apply pw_below_drewN | apply below_drew1 | refine below_set ?_ GE129.out | refine below_set ?_ GE130.out | refine below_set ?_ GE143.out | refine below_set ?_ GE152.out) | exact HB.out)⟩
          ·rw [if_neg c14] at H
           exact absurd H (by simp)
         ·rw [if_neg c13] at H
          exact absurd H (by simp)
        ·rw [if_neg c11] at H
         exact absurd H (by simp)
       ·rw [if_neg c10] at H
        exact absurd H (by simp)
      ·rw [if_neg c9] at H
       exact absurd H (by simp)
     ·rw [if_neg c8] at H
      exact absurd H (by simp)
    ·rw [if_neg c7] at H
     exact absurd H (by simp)
   ·rw [if_neg c6] at H
    exact absurd H (by simp)
  ·rw [if_neg c5] at H
   exact absurd H (by simp)
 ·rw [if_neg c4] at H
  exact absurd H (by simp)

end Go.Proofs.Ytcbfnfggnocndaa.Q
end

section
/- The machine's side of laws of this seat: Go functions as Lean functions, and the proof that a call of each comes to what its function says (written by a program of this session, px.py, that runs the kit's print). -/
namespace Go.Proofs.Ytcbfnfggnocndaa.Q
open Go.RowKit Go.Proofs.YtcbfnfggnocndaaW.PrintWords Go.Proofs.YtcbfnfggnocndaaW.PrintLast Go.Proofs.YtcbfnfggnocndaaW.PrintMore
attribute [local go_sem] max2_int min2_int max_two min_two max_three min_three max_four min_four   -- for this text's walks alone
attribute [local go_sem high] Go.Proofs.Ytcbfnfggnocndaa.px_xor_u8 Go.Proofs.Ytcbfnfggnocndaa.px_xor_u16 Go.Proofs.Ytcbfnfggnocndaa.px_xor_u32 Go.Proofs.Ytcbfnfggnocndaa.px_xor_u64
set_option linter.unusedVariables false
set_option linter.unusedSimpArgs false

/-! ### copyholdref04_Right: function 28 -/
/-! ### copyholdlaw05_few: function 11 -/
/-! ### copyholdref05_May: function 29 -/
/-! ### copyholdref02_four: function 57 -/
/-! ### copyholdref02_More: function 69 -/
/-! ### copyholdref02_Sum: function 58 -/
/-! ### copyholdref02_Put: function 41 -/
end Go.Proofs.Ytcbfnfggnocndaa.Q
end

section
/- The machine's side of laws of this seat: Go functions as Lean functions, and the proof that a call of each comes to what its function says (written by a program of this session, px.py, that runs the kit's print). -/
namespace Go.Proofs.Ytcbfnfggnocndaa.Q
open Go.RowKit Go.Proofs.YtcbfnfggnocndaaW.PrintWords Go.Proofs.YtcbfnfggnocndaaW.PrintLast Go.Proofs.YtcbfnfggnocndaaW.PrintMore
attribute [local go_sem] max2_int min2_int max_two min_two max_three min_three max_four min_four   -- for this text's walks alone
attribute [local go_sem high] Go.Proofs.Ytcbfnfggnocndaa.px_xor_u8 Go.Proofs.Ytcbfnfggnocndaa.px_xor_u16 Go.Proofs.Ytcbfnfggnocndaa.px_xor_u32 Go.Proofs.Ytcbfnfggnocndaa.px_xor_u64
set_option linter.unusedVariables false
set_option linter.unusedSimpArgs false

/-! ### copyholdref01_Num: function 59 -/
/-! ### copyholdref01_Text: function 42 -/
/-! ### copyholdref05_Record: function 20 -/
/-! ### copyholdref05_Need: function 21 -/
end Go.Proofs.Ytcbfnfggnocndaa.Q
end

section
/- The machine's side of laws of this seat: Go functions as Lean functions, and the proof that a call of each comes to what its function says (written by a program of this session, px.py, that runs the kit's print). -/
namespace Go.Proofs.Ytcbfnfggnocndaa.Q
open Go.RowKit Go.Proofs.YtcbfnfggnocndaaW.PrintWords Go.Proofs.YtcbfnfggnocndaaW.PrintLast Go.Proofs.YtcbfnfggnocndaaW.PrintMore
attribute [local go_sem] max2_int min2_int max_two min_two max_three min_three max_four min_four   -- for this text's walks alone
attribute [local go_sem high] Go.Proofs.Ytcbfnfggnocndaa.px_xor_u8 Go.Proofs.Ytcbfnfggnocndaa.px_xor_u16 Go.Proofs.Ytcbfnfggnocndaa.px_xor_u32 Go.Proofs.Ytcbfnfggnocndaa.px_xor_u64
set_option linter.unusedVariables false
set_option linter.unusedSimpArgs false

/-! ### copyholdref04_Image: function 44 -/
/-! ### copyholdref01_TakeNum: function 70 -/
end Go.Proofs.Ytcbfnfggnocndaa.Q
end

section
/- The machine's side of laws of this seat: Go functions as Lean functions, and the proof that a call of each comes to what its function says (written by a program of this session, px.py, that runs the kit's print). -/
namespace Go.Proofs.Ytcbfnfggnocndaa.Q
open Go.RowKit Go.Proofs.YtcbfnfggnocndaaW.PrintWords Go.Proofs.YtcbfnfggnocndaaW.PrintLast Go.Proofs.YtcbfnfggnocndaaW.PrintMore
attribute [local go_sem] max2_int min2_int max_two min_two max_three min_three max_four min_four   -- for this text's walks alone
attribute [local go_sem high] Go.Proofs.Ytcbfnfggnocndaa.px_xor_u8 Go.Proofs.Ytcbfnfggnocndaa.px_xor_u16 Go.Proofs.Ytcbfnfggnocndaa.px_xor_u32 Go.Proofs.Ytcbfnfggnocndaa.px_xor_u64
set_option linter.unusedVariables false
set_option linter.unusedSimpArgs false

/-! ### copyholdref01_TakeText: function 60 -/
/-! ### copyholdref05_stands: function 48 -/
end Go.Proofs.Ytcbfnfggnocndaa.Q
end

section
/- The machine's side of laws of this seat: Go functions as Lean functions, and the proof that a call of each comes to what its function says (written by a program of this session, px.py, that runs the kit's print). -/
namespace Go.Proofs.Ytcbfnfggnocndaa.Q
open Go.RowKit Go.Proofs.YtcbfnfggnocndaaW.PrintWords Go.Proofs.YtcbfnfggnocndaaW.PrintLast Go.Proofs.YtcbfnfggnocndaaW.PrintMore
attribute [local go_sem] max2_int min2_int max_two min_two max_three min_three max_four min_four   -- for this text's walks alone
attribute [local go_sem high] Go.Proofs.Ytcbfnfggnocndaa.px_xor_u8 Go.Proofs.Ytcbfnfggnocndaa.px_xor_u16 Go.Proofs.Ytcbfnfggnocndaa.px_xor_u32 Go.Proofs.Ytcbfnfggnocndaa.px_xor_u64
set_option linter.unusedVariables false
set_option linter.unusedSimpArgs false

/-! ### copyholdref05_found: function 30 -/
/-! ### copyholdref05_Right: function 12 -/
end Go.Proofs.Ytcbfnfggnocndaa.Q
end

section
/- The machine's side of laws of this seat: Go functions as Lean functions, and the proof that a call of each comes to what its function says (written by a program of this session, px.py, that runs the kit's print). -/
namespace Go.Proofs.Ytcbfnfggnocndaa.Q
open Go.RowKit Go.Proofs.YtcbfnfggnocndaaW.PrintWords Go.Proofs.YtcbfnfggnocndaaW.PrintLast Go.Proofs.YtcbfnfggnocndaaW.PrintMore
attribute [local go_sem] max2_int min2_int max_two min_two max_three min_three max_four min_four   -- for this text's walks alone
attribute [local go_sem high] Go.Proofs.Ytcbfnfggnocndaa.px_xor_u8 Go.Proofs.Ytcbfnfggnocndaa.px_xor_u16 Go.Proofs.Ytcbfnfggnocndaa.px_xor_u32 Go.Proofs.Ytcbfnfggnocndaa.px_xor_u64
set_option linter.unusedVariables false
set_option linter.unusedSimpArgs false

attribute [local go_sem high] eqA30
/-! ### copyholdlaw05_RedoFull: function 3 -/
/-! ### copyholdref01_Long: function 16 -/
def copyholdref01_Long.l0 : Nat → List ByteArray → Int → Int → Option (Int)
 | 0, _, _, _ => none
 | k + 1, x0, x3, x4 => if x4 < (x0.length : Int) then (if 0 ≤ x4 then (copyholdref01_Long.l0 k x0 (wrap64 (x3 + ((rdOf ByteArray.empty x0 x4).size : Int))) (wrap64 (x4 + 1))) else (none)) else (some x3)
def copyholdref01_Long.f (k : Nat) (l0 : List ByteArray) : Option (Int) := copyholdref01_Long.l0 k l0 (l0.length : Int) 0
theorem copyholdref01_Long.mono_l : ∀ k, (∀ y0 y1 y2, LeO (copyholdref01_Long.l0 k y0 y1 y2) (copyholdref01_Long.l0 (k + 1) y0 y1 y2))
 | 0 => fun _ _ _ r h => by simp [copyholdref01_Long.l0] at h
 | k + 1 => by
  have ih0 := copyholdref01_Long.mono_l k
  ·intro y0 y1 y2
   unfold copyholdref01_Long.l0
   repeat' first
   | (with_reducible exact ih0 _ _ _)
   | (with_reducible exact LeO.refl _)
   | (with_reducible exact LeO.none _)
   | (with_reducible refine LeO.ite ?_ ?_)
   | (with_reducible refine LeO.bind ?_ (fun _ => ?_))
   | exact ih0 _ _ _
   | exact LeO.none _
   | refine LeO.ite ?_ ?_
   | refine LeO.bind ?_ (fun _ => ?_)
theorem copyholdref01_Long.mono : ∀ a0 k, LeO (copyholdref01_Long.f k a0) (copyholdref01_Long.f (k + 1) a0) := by
 intro a0 k
 have ih0 := copyholdref01_Long.mono_l k
 unfold copyholdref01_Long.f
 repeat' first
   | (with_reducible exact ih0 _ _ _)
   | (with_reducible exact LeO.refl _)
   | (with_reducible exact LeO.none _)
   | (with_reducible refine LeO.ite ?_ ?_)
   | (with_reducible refine LeO.bind ?_ (fun _ => ?_))
   | exact ih0 _ _ _
   | exact LeO.none _
   | refine LeO.ite ?_ ?_
   | refine LeO.bind ?_ (fun _ => ?_)
set_option maxHeartbeats 8000000 in
set_option maxRecDepth 100000 in
theorem copyholdref01_Long.calls (k : Nat) (A0 : Option Addr) (c0 : Nat) (l0 : List ByteArray) (r : Int) (w : World) (hr0 : Kd.C Kd.string w A0 l0.length l0) (hc0 : l0.length ≤ c0) (h : copyholdref01_Long.f k l0 = some r) :
  Calls Try.prog 16 #[.slice A0 l0.length c0] w fun e w' => e = .returned (.int .i64 r) ∧ Drawn0 w w' := by
 have HR0 := Aside0.mk hr0
 have HC0 := Aside0.mk hc0
 clear hr0 hc0
 have H : (copyholdref01_Long.l0 k l0 (l0.length : Int) 0) = some r := h
 clear h
 have H' := Aside0.mk H
 clear H
 go_enter Try.func16, Try.ntmps16
 go_wp2
 go_loopg [3, 4] k (fun kq v3 v4 w' => ∃ (x3_1 : Int) (x4_1 : Int), v3 = .int .i64 x3_1 ∧ v4 = .int .i64 x4_1 ∧ Aside0 (copyholdref01_Long.l0 kq l0 x3_1 x4_1 = some r) ∧ Aside0 (kq ≤ k) ∧ Drawn0 w w')
 case atStart => exact ⟨((l0.length : Int)), (0), (by first | rfl | (simp; done) | (simp [*]; done)), (by first | rfl | (simp; done) | (simp [*]; done)), H', ⟨Nat.le_refl _⟩, by repeat (first | exact Drawn0.refl _ | apply Drawn0.step)⟩
 case round =>
  clear H'
  (try clear c1)
  obtain ⟨x3_1, x4_1, rfl, rfl, HA, HK1, ⟨m1, rfl⟩⟩ := hrel
  cases gk with
  | zero => exact absurd HA.out (by simp [copyholdref01_Long.l0])
  | succ k1 =>
   (have H := HA.out; clear HA)
   simp only [copyholdref01_Long.l0] at H
   by_cases c2 : x4_1 < (l0.length : Int)
   ·rw [if_pos c2] at H
    have c2b0 : decide (x4_1 < (l0.length : Int)) = true := decide_eq_true c2
    clear c2
    by_cases c3 : 0 ≤ x4_1
    ·rw [if_pos c3] at H
     have c3b0 : decide (0 ≤ x4_1) = true := decide_eq_true c3
     clear c3
     have H' := Aside0.mk H
     clear H
     have p253 : 0 ≤ (x4_1 : Int) := of_decide_eq_true (by first | (with_reducible assumption) | assumption)
     have q253 : x4_1 < (l0.length : Int) := of_decide_eq_true (by first | (with_reducible assumption) | assumption)
     obtain ⟨ad253, e253, hx253_0⟩ := Kd.at_string HR0.out x4_1 p253 q253
     cases e253
     replace p253 := eq_true p253
     replace q253 := eq_true q253
     go_wp2
     go_roundg k1
     case measure => have := HK1.out; omega
     case rel => exact ⟨(wrap64 (x3_1 + ((rdOf ByteArray.empty l0 x4_1).size : Int))), (wrap64 (x4_1 + 1)), (by first | rfl | (simp; done) | (simp [*]; done)), (by first | rfl | (simp; done) | (simp [*]; done)), H', ⟨by have := HK1.out; omega⟩, by repeat (first | exact Drawn0.refl _ | apply Drawn0.step)⟩
    ·rw [if_neg c3] at H
     exact absurd H (by simp)
   ·rw [if_neg c2] at H
    have c2b0 : decide (x4_1 < (l0.length : Int)) = false := decide_eq_false c2
    clear c2
    obtain rfl := Option.some.inj H
    go_wp2
    go_ret
    exact ⟨by first | rfl | (simp; done) | (simp [*]; done), by repeat (first | exact Drawn0.refl _ | apply Drawn0.step)⟩

/-! ### copyholdlaw05_RedoRecords: function 4 -/
def copyholdlaw05_RedoRecords.f (k : Nat) (a0_0 : Int) (a0_1 : Int) (a0_2 : ByteArray) (a0_3 : ByteArray) : Option (Bool) := (copyholdlaw05_shown.f k).bind fun t255 => (if (wrap64 ((a0_2.size : Int) + (a0_3.size : Int))) > 4000 then (some t255) else ((redo_Record.f k a0_0 a0_2).bind fun t256 => ((redo_Record.f k a0_1 a0_3).bind fun t257 => (if t255 = true then (if a0_0 = a0_1 then (if ((t256.toList == t257.toList) == (a0_2.toList == a0_3.toList)) = true then (if (t256.size : Int) ≥ (wrap64 ((a0_2.size : Int) + 13)) then ((redo_Need.f k a0_2).bind fun t258 => (if t258 = (wrap64 (Int.tdiv (wrap64 ((t256.size : Int) + 63)) 64)) then ((copyholdref01_Long.f k (([t256] : List ByteArray))).bind fun t262 => (some (t262 == (wrap64 ((t256.size : Int) + 1))))) else (some false))) else (some false)) else (some false)) else (if ((t256.toList == t257.toList) == false) = true then (if (t256.size : Int) ≥ (wrap64 ((a0_2.size : Int) + 13)) then ((redo_Need.f k a0_2).bind fun t263 => (if t263 = (wrap64 (Int.tdiv (wrap64 ((t256.size : Int) + 63)) 64)) then ((copyholdref01_Long.f k (([t256] : List ByteArray))).bind fun t267 => (some (t267 == (wrap64 ((t256.size : Int) + 1))))) else (some false))) else (some false)) else (some false))) else (some false)))))
theorem copyholdlaw05_RedoRecords.mono : ∀ a0 a1 a2 a3 k, LeO (copyholdlaw05_RedoRecords.f k a0 a1 a2 a3) (copyholdlaw05_RedoRecords.f (k + 1) a0 a1 a2 a3) := by
 intro a0 a1 a2 a3 k
 unfold copyholdlaw05_RedoRecords.f
 repeat' first
   | (with_reducible exact copyholdlaw05_shown.mono _)
   | (with_reducible exact copyholdref01_Long.mono _ _)
   | (with_reducible exact redo_Need.mono _ _)
   | (with_reducible exact redo_Record.mono _ _ _)
   | (with_reducible exact LeO.refl _)
   | (with_reducible exact LeO.none _)
   | (with_reducible refine LeO.ite ?_ ?_)
   | (with_reducible refine LeO.bind ?_ (fun _ => ?_))
   | exact copyholdlaw05_shown.mono _
   | exact copyholdref01_Long.mono _ _
   | exact redo_Need.mono _ _
   | exact redo_Record.mono _ _ _
   | exact LeO.none _
   | refine LeO.ite ?_ ?_
   | refine LeO.bind ?_ (fun _ => ?_)
set_option maxHeartbeats 8000000 in
set_option maxRecDepth 100000 in
theorem copyholdlaw05_RedoRecords.calls (k : Nat) (a0_0 : Int) (a0_1 : Int) (a0_2 : ByteArray) (a0_3 : ByteArray) (r : Bool) (w : World) (h : copyholdlaw05_RedoRecords.f k a0_0 a0_1 a0_2 a0_3 = some r) :
  Calls Try.prog 4 #[.agg #[.int .u64 a0_0, .int .u64 a0_1, .string a0_2, .string a0_3]] w fun e w' => e = .returned (.bool r) ∧ Below w.heap.size w w' := by
 have hu42 := Try.underlying42
 have HB := Aside0.mk (Below.refl w.heap.size w)
 have H : ((copyholdlaw05_shown.f k).bind fun t255 => (if (wrap64 ((a0_2.size : Int) + (a0_3.size : Int))) > 4000 then (some t255) else ((redo_Record.f k a0_0 a0_2).bind fun t256 => ((redo_Record.f k a0_1 a0_3).bind fun t257 => (if t255 = true then (if a0_0 = a0_1 then (if ((t256.toList == t257.toList) == (a0_2.toList == a0_3.toList)) = true then (if (t256.size : Int) ≥ (wrap64 ((a0_2.size : Int) + 13)) then ((redo_Need.f k a0_2).bind fun t258 => (if t258 = (wrap64 (Int.tdiv (wrap64 ((t256.size : Int) + 63)) 64)) then ((copyholdref01_Long.f k (([t256] : List ByteArray))).bind fun t262 => (some (t262 == (wrap64 ((t256.size : Int) + 1))))) else (some false))) else (some false)) else (some false)) else (if ((t256.toList == t257.toList) == false) = true then (if (t256.size : Int) ≥ (wrap64 ((a0_2.size : Int) + 13)) then ((redo_Need.f k a0_2).bind fun t263 => (if t263 = (wrap64 (Int.tdiv (wrap64 ((t256.size : Int) + 63)) 64)) then ((copyholdref01_Long.f k (([t256] : List ByteArray))).bind fun t267 => (some (t267 == (wrap64 ((t256.size : Int) + 1))))) else (some false))) else (some false)) else (some false))) else (some false)))))) = some r := h
 clear h
 replace H := Option.bind_eq_some_iff.mp H
 obtain ⟨t255, A20, H⟩ := H
 replace H : (if (wrap64 ((a0_2.size : Int) + (a0_3.size : Int))) > 4000 then (some t255) else ((redo_Record.f k a0_0 a0_2).bind fun t256 => ((redo_Record.f k a0_1 a0_3).bind fun t257 => (if t255 = true then (if a0_0 = a0_1 then (if ((t256.toList == t257.toList) == (a0_2.toList == a0_3.toList)) = true then (if (t256.size : Int) ≥ (wrap64 ((a0_2.size : Int) + 13)) then ((redo_Need.f k a0_2).bind fun t258 => (if t258 = (wrap64 (Int.tdiv (wrap64 ((t256.size : Int) + 63)) 64)) then ((copyholdref01_Long.f k (([t256] : List ByteArray))).bind fun t262 => (some (t262 == (wrap64 ((t256.size : Int) + 1))))) else (some false))) else (some false)) else (some false)) else (if ((t256.toList == t257.toList) == false) = true then (if (t256.size : Int) ≥ (wrap64 ((a0_2.size : Int) + 13)) then ((redo_Need.f k a0_2).bind fun t263 => (if t263 = (wrap64 (Int.tdiv (wrap64 ((t256.size : Int) + 63)) 64)) then ((copyholdref01_Long.f k (([t256] : List ByteArray))).bind fun t267 => (some (t267 == (wrap64 ((t256.size : Int) + 1))))) else (some false))) else (some false)) else (some false))) else (some false))))) = some r := H
 have A2 := Aside0.mk A20
 clear A20
 by_cases c3 : (wrap64 ((a0_2.size : Int) + (a0_3.size : Int))) > 4000
 ·rw [if_pos c3] at H
  have c3b0 : decide (4000 < (wrap64 ((a0_2.size : Int) + (a0_3.size : Int)))) = true := decide_eq_true c3
  clear c3
  obtain rfl := Option.some.inj H
  go_enter Try.func4, Try.ntmps4
  go_wp2_with (first | ((with_reducible refine gate_dst (N := 1) rfl ?_); (try (refine gate_guard (by rfl) ?_; dsimp only)); refine box_event ?hg (N := 1) ?hd (cs := #[.int .u64 a0_0, .int .u64 a0_1, .string a0_2, .string a0_3]) (t := 42) ?hr ?_; (case hd => rfl); (case hg => rfl); (case hr => first | (go_simp; done) | (go_simp; rfl)); intro gb254 hg w4 hbox hb; have n0_ := Aside0.mk (below_step (by repeat (first | (with_reducible first | exact HB.out | apply below_alloc | apply pw_below_drewN | apply below_drew1) | exact HB.out)) hb); have n1_ := Aside0.mk (hbox); have n2_ := Aside0.mk ((by rw [hg]; exact (below_size (by repeat (first | (with_reducible first | exact HB.out | apply below_alloc | apply pw_below_drewN | apply below_drew1) | exact HB.out))) : w.heap.size ≤ gb254)); have n3_ := Aside0.mk ((by rw [hg]; exact (below_size (by repeat (first | (with_reducible first | exact HB.out | apply below_alloc | apply pw_below_drewN | apply below_drew1) | exact HB.out))) : w.heap.size ≤ gb254)); clear HB; have HB := n0_; have BK254 := n1_; have GW254 := n2_; have GE254 := n3_; clear n0_ n1_ n2_ n3_; clear hb hbox hg; have hcz5_0 : w4.cell? ⟨gb254, 0, none⟩ = some (.int .u64 a0_0) := (blk_cell BK254.out 0).trans rfl; have hcz5_1 : w4.cell? ⟨gb254, 1, none⟩ = some (.int .u64 a0_1) := (blk_cell BK254.out 1).trans rfl; have hcz5_2 : w4.cell? ⟨gb254, 2, none⟩ = some (.string a0_2) := (blk_cell BK254.out 2).trans rfl; have hcz5_3 : w4.cell? ⟨gb254, 3, none⟩ = some (.string a0_3) := (blk_cell BK254.out 3).trans rfl; have hfz5_0 := blk_frozen BK254.out 0; have hfz5_1 := blk_frozen BK254.out 1; have hfz5_2 := blk_frozen BK254.out 2; have hfz5_3 := blk_frozen BK254.out 3) | ((with_reducible refine gate_callee (f := 10) rfl ?_); refine goesL_ (some 18) rfl rfl Try.func10 (by kernel_rfl) rfl #[] rfl (by (try simp only [List.map_toArray, List.map_cons, List.map_nil]); first | done | rfl | (simp only [List.length_drop, List.length_take]; rfl)) ?_; (with_reducible refine (copyholdlaw05_shown.calls k  t255 _ A2.out).mono ?_); rintro e w6 ⟨rfl, hb⟩; refine ⟨_, rfl, ?_⟩; have n0_ := Aside0.mk (blk_below (g := gb254) (o := .cells #[.int .u64 a0_0, .int .u64 a0_1, .string a0_2, .string a0_3] 42 (0, 0)) (by (with_reducible repeat (first | refine blk_drewN ?_ _ | refine blk_drew ?_ | refine blk_alloc ?_ _)); exact BK254.out) hb); have n1_ := Aside0.mk (below_step (by repeat (first | (with_reducible first | exact HB.out | apply below_alloc | apply pw_below_drewN | apply below_drew1 | refine below_set ?_ GE254.out) | exact HB.out)) hb); clear BK254; clear HB; have BK254 := n0_; have HB := n1_; clear n0_ n1_; (try clear hb); (try clear hb2); (try clear hk); (try clear hi)))
  go_ret
  exact ⟨by first | rfl | (simp [errW_none, errW_some] <;> rfl) | (simp [*, errW_none, errW_some] <;> rfl), by repeat (first | (with_reducible first | exact HB.out | apply below_alloc | apply pw_below_drewN | apply below_drew1 | refine below_set ?_ GE254.out) | exact HB.out)⟩
 ·rw [if_neg c3] at H
  have c3b0 : decide (4000 < (wrap64 ((a0_2.size : Int) + (a0_3.size : Int)))) = false := decide_eq_false c3
  clear c3
  replace H := Option.bind_eq_some_iff.mp H
  obtain ⟨t256, A70, H⟩ := H
  replace H : ((redo_Record.f k a0_1 a0_3).bind fun t257 => (if t255 = true then (if a0_0 = a0_1 then (if ((t256.toList == t257.toList) == (a0_2.toList == a0_3.toList)) = true then (if (t256.size : Int) ≥ (wrap64 ((a0_2.size : Int) + 13)) then ((redo_Need.f k a0_2).bind fun t258 => (if t258 = (wrap64 (Int.tdiv (wrap64 ((t256.size : Int) + 63)) 64)) then ((copyholdref01_Long.f k (([t256] : List ByteArray))).bind fun t262 => (some (t262 == (wrap64 ((t256.size : Int) + 1))))) else (some false))) else (some false)) else (some false)) else (if ((t256.toList == t257.toList) == false) = true then (if (t256.size : Int) ≥ (wrap64 ((a0_2.size : Int) + 13)) then ((redo_Need.f k a0_2).bind fun t263 => (if t263 = (wrap64 (Int.tdiv (wrap64 ((t256.size : Int) + 63)) 64)) then ((copyholdref01_Long.f k (([t256] : List ByteArray))).bind fun t267 => (some (t267 == (wrap64 ((t256.size : Int) + 1))))) else (some false))) else (some false)) else (some false))) else (some false))) = some r := H
  have A7 := Aside0.mk A70
  clear A70
  replace H := Option.bind_eq_some_iff.mp H
  obtain ⟨t257, A80, H⟩ := H
  replace H : (if t255 = true then (if a0_0 = a0_1 then (if ((t256.toList == t257.toList) == (a0_2.toList == a0_3.toList)) = true then (if (t256.size : Int) ≥ (wrap64 ((a0_2.size : Int) + 13)) then ((redo_Need.f k a0_2).bind fun t258 => (if t258 = (wrap64 (Int.tdiv (wrap64 ((t256.size : Int) + 63)) 64)) then ((copyholdref01_Long.f k (([t256] : List ByteArray))).bind fun t262 => (some (t262 == (wrap64 ((t256.size : Int) + 1))))) else (some false))) else (some false)) else (some false)) else (if ((t256.toList == t257.toList) == false) = true then (if (t256.size : Int) ≥ (wrap64 ((a0_2.size : Int) + 13)) then ((redo_Need.f k a0_2).bind fun t263 => (if t263 = (wrap64 (Int.tdiv (wrap64 ((t256.size : Int) + 63)) 64)) then ((copyholdref01_Long.f k (([t256] : List ByteArray))).bind fun t267 => (some (t267 == (wrap64 ((t256.size : Int) + 1))))) else (some false))) else (some false)) else (some false))) else (some false)) = some r := H
  have A8 := Aside0.mk A80
  clear A80
  by_cases c9 : t255 = true
  ·subst c9
   have H1 : (if a0_0 = a0_1 then (if ((t256.toList == t257.toList) == (a0_2.toList == a0_3.toList)) = true then (if (t256.size : Int) ≥ (wrap64 ((a0_2.size : Int) + 13)) then ((redo_Need.f k a0_2).bind fun t258 => (if t258 = (wrap64 (Int.tdiv (wrap64 ((t256.size : Int) + 63)) 64)) then ((copyholdref01_Long.f k (([t256] : List ByteArray))).bind fun t262 => (some (t262 == (wrap64 ((t256.size : Int) + 1))))) else (some false))) else (some false)) else (some false)) else (if ((t256.toList == t257.toList) == false) = true then (if (t256.size : Int) ≥ (wrap64 ((a0_2.size : Int) + 13)) then ((redo_Need.f k a0_2).bind fun t263 => (if t263 = (wrap64 (Int.tdiv (wrap64 ((t256.size : Int) + 63)) 64)) then ((copyholdref01_Long.f k (([t256] : List ByteArray))).bind fun t267 => (some (t267 == (wrap64 ((t256.size : Int) + 1))))) else (some false))) else (some false)) else (some false))) = some r := by rw [if_pos rfl] at H; exact H
   clear H
   have H := H1
   clear H1
   by_cases c10 : a0_0 = a0_1
   ·rw [if_pos c10] at H
    have c10b0 : (a0_0 == a0_1) = true := beq_iff_eq.mpr c10
    have c10b1 : (a0_0 != a0_1) = false := bne_eq_false_iff_eq.mpr c10
    clear c10
    by_cases c11 : ((t256.toList == t257.toList) == (a0_2.toList == a0_3.toList)) = true
    ·rw [if_pos c11] at H
     have c11b0 : ((t256.toList == t257.toList) == (a0_2.toList == a0_3.toList)) = true := c11
     (try (have c11b1 : decide ((t256.toList == t257.toList) = (a0_2.toList == a0_3.toList)) = true := by simpa using c11))
     (try (have c11b2 : ((t256.toList == t257.toList) == (a0_2.toList == a0_3.toList)) = true := by simpa using c11))
     clear c11
     by_cases c12 : (t256.size : Int) ≥ (wrap64 ((a0_2.size : Int) + 13))
     ·rw [if_pos c12] at H
      have c12b0 : decide ((wrap64 ((a0_2.size : Int) + 13)) ≤ (t256.size : Int)) = true := decide_eq_true c12
      clear c12
      replace H := Option.bind_eq_some_iff.mp H
      obtain ⟨t258, A130, H⟩ := H
      replace H : (if t258 = (wrap64 (Int.tdiv (wrap64 ((t256.size : Int) + 63)) 64)) then ((copyholdref01_Long.f k (([t256] : List ByteArray))).bind fun t262 => (some (t262 == (wrap64 ((t256.size : Int) + 1))))) else (some false)) = some r := H
      have A13 := Aside0.mk A130
      clear A130
      by_cases c14 : t258 = (wrap64 (Int.tdiv (wrap64 ((t256.size : Int) + 63)) 64))
      ·rw [if_pos c14] at H
       have c14b0 : (t258 == (wrap64 (Int.tdiv (wrap64 ((t256.size : Int) + 63)) 64))) = true := beq_iff_eq.mpr c14
       have c14b1 : (t258 != (wrap64 (Int.tdiv (wrap64 ((t256.size : Int) + 63)) 64))) = false := bne_eq_false_iff_eq.mpr c14
       clear c14
       obtain ⟨y259, hy259⟩ : ∃ y_ : List ByteArray, y_ = (([t256] : List ByteArray)) := ⟨_, rfl⟩
       replace H : ((copyholdref01_Long.f k y259).bind fun t262 => (some (t262 == (wrap64 ((t256.size : Int) + 1))))) = some r := by first | (rw [hy259]; with_reducible exact H) | (have H2_ := (Option.bind_some _ _).symm.trans H; rw [hy259]; with_reducible exact H2_) | (have H2_ := (Option.bind_some _ _).symm.trans H; with_reducible exact H2_) | with_reducible exact H | (rw [hy259]; exact H) | exact H
       have Ny259 := Aside0.mk hy259
       clear hy259
       replace H := Option.bind_eq_some_iff.mp H
       obtain ⟨t262, A150, H⟩ := H
       replace H : (some (t262 == (wrap64 ((t256.size : Int) + 1)))) = some r := H
       have A15 := Aside0.mk A150
       clear A150
       obtain rfl := Option.some.inj H
       go_enter Try.func4, Try.ntmps4
       go_wp2_with (first | ((with_reducible refine gate_dst (N := 1) rfl ?_); (try (refine gate_guard (by rfl) ?_; dsimp only)); refine box_event ?hg (N := 1) ?hd (cs := #[.int .u64 a0_0, .int .u64 a0_1, .string a0_2, .string a0_3]) (t := 42) ?hr ?_; (case hd => rfl); (case hg => rfl); (case hr => first | (go_simp; done) | (go_simp; rfl)); intro gb254 hg w16 hbox hb; have n0_ := Aside0.mk (below_step (by repeat (first | (with_reducible first | exact HB.out | apply below_alloc | apply pw_below_drewN | apply below_drew1) | exact HB.out)) hb); have n1_ := Aside0.mk (hbox); have n2_ := Aside0.mk ((by rw [hg]; exact (below_size (by repeat (first | (with_reducible first | exact HB.out | apply below_alloc | apply pw_below_drewN | apply below_drew1) | exact HB.out))) : w.heap.size ≤ gb254)); have n3_ := Aside0.mk ((by rw [hg]; exact (below_size (by repeat (first | (with_reducible first | exact HB.out | apply below_alloc | apply pw_below_drewN | apply below_drew1) | exact HB.out))) : w.heap.size ≤ gb254)); clear HB; have HB := n0_; have BK254 := n1_; have GW254 := n2_; have GE254 := n3_; clear n0_ n1_ n2_ n3_; clear hb hbox hg; have hcz17_0 : w16.cell? ⟨gb254, 0, none⟩ = some (.int .u64 a0_0) := (blk_cell BK254.out 0).trans rfl; have hcz17_1 : w16.cell? ⟨gb254, 1, none⟩ = some (.int .u64 a0_1) := (blk_cell BK254.out 1).trans rfl; have hcz17_2 : w16.cell? ⟨gb254, 2, none⟩ = some (.string a0_2) := (blk_cell BK254.out 2).trans rfl; have hcz17_3 : w16.cell? ⟨gb254, 3, none⟩ = some (.string a0_3) := (blk_cell BK254.out 3).trans rfl; have hfz17_0 := blk_frozen BK254.out 0; have hfz17_1 := blk_frozen BK254.out 1; have hfz17_2 := blk_frozen BK254.out 2; have hfz17_3 := blk_frozen BK254.out 3) | ((with_reducible refine gate_callee (f := 10) rfl ?_); refine goesL_ (some 18) rfl rfl Try.func10 (by kernel_rfl) rfl #[] rfl (by (try simp only [List.map_toArray, List.map_cons, List.map_nil]); first | done | rfl | (simp only [List.length_drop, List.length_take]; rfl)) ?_; (with_reducible refine (copyholdlaw05_shown.calls k  true _ A2.out).mono ?_); rintro e w18 ⟨rfl, hb⟩; refine ⟨_, rfl, ?_⟩; have n0_ := Aside0.mk (blk_below (g := gb254) (o := .cells #[.int .u64 a0_0, .int .u64 a0_1, .string a0_2, .string a0_3] 42 (0, 0)) (by (with_reducible repeat (first | refine blk_drewN ?_ _ | refine blk_drew ?_ | refine blk_alloc ?_ _)); exact BK254.out) hb); have n1_ := Aside0.mk (below_step (by repeat (first | (with_reducible first | exact HB.out | apply below_alloc | apply pw_below_drewN | apply below_drew1 | refine below_set ?_ GE254.out) | exact HB.out)) hb); clear BK254; clear HB; have BK254 := n0_; have HB := n1_; clear n0_ n1_; (try clear hb); (try clear hb2); (try clear hk); (try clear hi)) | ((with_reducible refine gate_callee (f := 15) rfl ?_); refine goesL_ (some 28) rfl rfl Try.func15 (by kernel_rfl) rfl #[.int .u64 a0_0, .string a0_2] rfl (by (try simp only [List.map_toArray, List.map_cons, List.map_nil]); first | done | rfl | (simp only [List.length_drop, List.length_take]; rfl)) ?_; (with_reducible refine (redo_Record.calls k a0_0 a0_2 t256 _ A7.out).mono ?_); rintro e w19 ⟨rfl, hb⟩; refine ⟨_, rfl, ?_⟩; have n0_ := Aside0.mk (blk_below (g := gb254) (o := .cells #[.int .u64 a0_0, .int .u64 a0_1, .string a0_2, .string a0_3] 42 (0, 0)) (by (with_reducible repeat (first | refine blk_drewN ?_ _ | refine blk_drew ?_ | refine blk_alloc ?_ _)); exact BK254.out) hb); have n1_ := Aside0.mk (below_step (by repeat (first | (with_reducible first | exact HB.out | apply below_alloc | apply pw_below_drewN | apply below_drew1 | refine below_set ?_ GE254.out) | exact HB.out)) hb); clear BK254; clear HB; have BK254 := n0_; have HB := n1_; clear n0_ n1_; (try clear hb); (try clear hb2); (try clear hk); (try clear hi)) | ((with_reducible refine gate_callee (f := 15) rfl ?_); refine goesL_ (some 31) rfl rfl Try.func15 (by kernel_rfl) rfl #[.int .u64 a0_1, .string a0_3] rfl (by (try simp only [List.map_toArray, List.map_cons, List.map_nil]); first | done | rfl | (simp only [List.length_drop, List.length_take]; rfl)) ?_; (with_reducible refine (redo_Record.calls k a0_1 a0_3 t257 _ A8.out).mono ?_); rintro e w20 ⟨rfl, hb⟩; refine ⟨_, rfl, ?_⟩; have n0_ := Aside0.mk (blk_below (g := gb254) (o := .cells #[.int .u64 a0_0, .int .u64 a0_1, .string a0_2, .string a0_3] 42 (0, 0)) (by (with_reducible repeat (first | refine blk_drewN ?_ _ | refine blk_drew ?_ | refine blk_alloc ?_ _)); exact BK254.out) hb); have n1_ := Aside0.mk (below_step (by repeat (first | (with_reducible first | exact HB.out | apply below_alloc | apply pw_below_drewN | apply below_drew1 | refine below_set ?_ GE254.out) | exact HB.out)) hb); clear BK254; clear HB; have BK254 := n0_; have HB := n1_; clear n0_ n1_; (try clear hb); (try clear hb2); (try clear hk); (try clear hi)) | (go_at_call 14; (with_reducible refine (redo_Need.calls k a0_2 t258 _ A13.out).mono ?_); rintro e w21 ⟨rfl, hb⟩; have n0_ := Aside0.mk (blk_below (g := gb254) (o := .cells #[.int .u64 a0_0, .int .u64 a0_1, .string a0_2, .string a0_3] 42 (0, 0)) (by (with_reducible repeat (first | refine blk_drewN ?_ _ | refine blk_drew ?_ | refine blk_alloc ?_ _)); exact BK254.out) hb); have n1_ := Aside0.mk (below_step (by repeat (first | (with_reducible first | exact HB.out | apply below_alloc | apply pw_below_drewN | apply below_drew1 | refine below_set ?_ GE254.out) | exact HB.out)) hb); clear BK254; clear HB; have BK254 := n0_; have HB := n1_; clear n0_ n1_; (try clear hb); (try clear hb2); (try clear hk); (try clear hi)) | ((with_reducible refine gate_dst (N := 66) rfl ?_); (try (refine gate_guard (by rfl) ?_; dsimp only)); refine Kd.R_lit Kd.string _ 9 ?hg (N := 66) ?hd (xs := ([t256] : List ByteArray)) (inner := [.string t256]) (ok := fun _ => True) (okp := fun _ => True) ?hr ?hp (fun _ hk => hk) trivial (Below.refl _ _) (Nat.le_refl _) (by simp) ?_; (case hd => rfl); (case hg => rfl); (case hr => first | (go_simp; done) | (go_simp; rfl)); (case hp => exact (Reps.one (show Kd.M Kd.string _ _ _ t256 [.string t256] from rfl) (Reps.none _ _))); intro v260 w22 ho23 hb hg_ hnew_; clear hg_ hnew_; (first | rw [← Ny259.out] at ho23 | (simp only [Int.reduceToNat] at ho23; rw [← Ny259.out] at ho23)); have n0_ := Aside0.mk (Kd.R_lower ho23 (below_size (by repeat (first | (with_reducible first | exact HB.out | apply below_alloc | apply pw_below_drewN | apply below_drew1 | refine below_set ?_ GE254.out) | exact HB.out)))); have n1_ := Aside0.mk (blk_below (g := gb254) (o := .cells #[.int .u64 a0_0, .int .u64 a0_1, .string a0_2, .string a0_3] 42 (0, 0)) (by (with_reducible repeat (first | refine blk_drewN ?_ _ | refine blk_drew ?_ | refine blk_alloc ?_ _)); exact BK254.out) hb); have n2_ := Aside0.mk (below_step (by repeat (first | (with_reducible first | exact HB.out | apply below_alloc | apply pw_below_drewN | apply below_drew1 | refine below_set ?_ GE254.out) | exact HB.out)) hb); clear BK254; clear HB; have HO261 := n0_; have BK254 := n1_; have HB := n2_; clear n0_ n1_ n2_; clear hb ho23; obtain ⟨Ao24, co24, eo24⟩ := Kd.R_slice HO261.out; subst eo24) | (go_at_call 16; (with_reducible refine (copyholdref01_Long.calls k _ _ y259 t262 _ ?side1 ?side2 A15.out).mono ?_); (case side1 => repeat (first | exact (Kd.R_reads' HO261.out).2.2 | (with_reducible refine Kd.C_alloc ?_ _) | (with_reducible refine Kd.C_drewN ?_ _) | (with_reducible refine Kd.C_drew ?_))); (case side2 => exact (Kd.R_reads' HO261.out).2.1); rintro e w' ⟨rfl, ⟨nd, rfl⟩⟩))
       go_ret
       exact ⟨by first | rfl | (simp [errW_none, errW_some] <;> rfl) | (simp [*, errW_none, errW_some] <;> rfl), by repeat (first | (with_reducible first | exact HB.out | apply below_alloc | apply pw_below_drewN | apply below_drew1 | refine below_set ?_ GE254.out) | exact HB.out)⟩
      ·rw [if_neg c14] at H
       have c14b0 : (t258 == (wrap64 (Int.tdiv (wrap64 ((t256.size : Int) + 63)) 64))) = false := beq_eq_false_iff_ne.mpr c14
       have c14b1 : (t258 != (wrap64 (Int.tdiv (wrap64 ((t256.size : Int) + 63)) 64))) = true := bne_iff_ne.mpr c14
       obtain rfl := Option.some.inj H
       go_enter Try.func4, Try.ntmps4
       go_wp2_with (first | ((with_reducible refine gate_dst (N := 1) rfl ?_); (try (refine gate_guard (by rfl) ?_; dsimp only)); refine box_event ?hg (N := 1) ?hd (cs := #[.int .u64 a0_0, .int .u64 a0_1, .string a0_2, .string a0_3]) (t := 42) ?hr ?_; (case hd => rfl); (case hg => rfl); (case hr => first | (go_simp; done) | (go_simp; rfl)); intro gb254 hg w25 hbox hb; have n0_ := Aside0.mk (below_step (by repeat (first | (with_reducible first | exact HB.out | apply below_alloc | apply pw_below_drewN | apply below_drew1) | exact HB.out)) hb); have n1_ := Aside0.mk (hbox); have n2_ := Aside0.mk ((by rw [hg]; exact (below_size (by repeat (first | (with_reducible first | exact HB.out | apply below_alloc | apply pw_below_drewN | apply below_drew1) | exact HB.out))) : w.heap.size ≤ gb254)); have n3_ := Aside0.mk ((by rw [hg]; exact (below_size (by repeat (first | (with_reducible first | exact HB.out | apply below_alloc | apply pw_below_drewN | apply below_drew1) | exact HB.out))) : w.heap.size ≤ gb254)); clear HB; have HB := n0_; have BK254 := n1_; have GW254 := n2_; have GE254 := n3_; clear n0_ n1_ n2_ n3_; clear hb hbox hg; have hcz26_0 : w25.cell? ⟨gb254, 0, none⟩ = some (.int .u64 a0_0) := (blk_cell BK254.out 0).trans rfl; have hcz26_1 : w25.cell? ⟨gb254, 1, none⟩ = some (.int .u64 a0_1) := (blk_cell BK254.out 1).trans rfl; have hcz26_2 : w25.cell? ⟨gb254, 2, none⟩ = some (.string a0_2) := (blk_cell BK254.out 2).trans rfl; have hcz26_3 : w25.cell? ⟨gb254, 3, none⟩ = some (.string a0_3) := (blk_cell BK254.out 3).trans rfl; have hfz26_0 := blk_frozen BK254.out 0; have hfz26_1 := blk_frozen BK254.out 1; have hfz26_2 := blk_frozen BK254.out 2; have hfz26_3 := blk_frozen BK254.out 3) | ((with_reducible refine gate_callee (f := 10) rfl ?_); refine goesL_ (some 18) rfl rfl Try.func10 (by kernel_rfl) rfl #[] rfl (by (try simp only [List.map_toArray, List.map_cons, List.map_nil]); first | done | rfl | (simp only [List.length_drop, List.length_take]; rfl)) ?_; (with_reducible refine (copyholdlaw05_shown.calls k  true _ A2.out).mono ?_); rintro e w27 ⟨rfl, hb⟩; refine ⟨_, rfl, ?_⟩; have n0_ := Aside0.mk (blk_below (g := gb254) (o := .cells #[.int .u64 a0_0, .int .u64 a0_1, .string a0_2, .string a0_3] 42 (0, 0)) (by (with_reducible repeat (first | refine blk_drewN ?_ _ | refine blk_drew ?_ | refine blk_alloc ?_ _)); exact BK254.out) hb); have n1_ := Aside0.mk (below_step (by repeat (first | (with_reducible first | exact HB.out | apply below_alloc | apply pw_below_drewN | apply below_drew1 | refine below_set ?_ GE254.out) | exact HB.out)) hb); clear BK254; clear HB; have BK254 := n0_; have HB := n1_; clear n0_ n1_; (try clear hb); (try clear hb2); (try clear hk); (try clear hi)) | ((with_reducible refine gate_callee (f := 15) rfl ?_); refine goesL_ (some 28) rfl rfl Try.func15 (by kernel_rfl) rfl #[.int .u64 a0_0, .string a0_2] rfl (by (try simp only [List.map_toArray, List.map_cons, List.map_nil]); first | done | rfl | (simp only [List.length_drop, List.length_take]; rfl)) ?_; (with_reducible refine (redo_Record.calls k a0_0 a0_2 t256 _ A7.out).mono ?_); rintro e w28 ⟨rfl, hb⟩; refine ⟨_, rfl, ?_⟩; have n0_ := Aside0.mk (blk_below (g := gb254) (o := .cells #[.int .u64 a0_0, .int .u64 a0_1, .string a0_2, .string a0_3] 42 (0, 0)) (by (with_reducible repeat (first | refine blk_drewN ?_ _ | refine blk_drew ?_ | refine blk_alloc ?_ _)); exact BK254.out) hb); have n1_ := Aside0.mk (below_step (by repeat (first | (with_reducible first | exact HB.out | apply below_alloc | apply pw_below_drewN | apply below_drew1 | refine below_set ?_ GE254.out) | exact HB.out)) hb); clear BK254; clear HB; have BK254 := n0_; have HB := n1_; clear n0_ n1_; (try clear hb); (try clear hb2); (try clear hk); (try clear hi)) | ((with_reducible refine gate_callee (f := 15) rfl ?_); refine goesL_ (some 31) rfl rfl Try.func15 (by kernel_rfl) rfl #[.int .u64 a0_1, .string a0_3] rfl (by (try simp only [List.map_toArray, List.map_cons, List.map_nil]); first | done | rfl | (simp only [List.length_drop, List.length_take]; rfl)) ?_; (with_reducible refine (redo_Record.calls k a0_1 a0_3 t257 _ A8.out).mono ?_); rintro e w29 ⟨rfl, hb⟩; refine ⟨_, rfl, ?_⟩; have n0_ := Aside0.mk (blk_below (g := gb254) (o := .cells #[.int .u64 a0_0, .int .u64 a0_1, .string a0_2, .string a0_3] 42 (0, 0)) (by (with_reducible repeat (first | refine blk_drewN ?_ _ | refine blk_drew ?_ | refine blk_alloc ?_ _)); exact BK254.out) hb); have n1_ := Aside0.mk (below_step (by repeat (first | (with_reducible first | exact HB.out | apply below_alloc | apply pw_below_drewN | apply below_drew1 | refine below_set ?_ GE254.out) | exact HB.out)) hb); clear BK254; clear HB; have BK254 := n0_; have HB := n1_; clear n0_ n1_; (try clear hb); (try clear hb2); (try clear hk); (try clear hi)) | (go_at_call 14; (with_reducible refine (redo_Need.calls k a0_2 t258 _ A13.out).mono ?_); rintro e w30 ⟨rfl, hb⟩; have n0_ := Aside0.mk (blk_below (g := gb254) (o := .cells #[.int .u64 a0_0, .int .u64 a0_1, .string a0_2, .string a0_3] 42 (0, 0)) (by (with_reducible repeat (first | refine blk_drewN ?_ _ | refine blk_drew ?_ | refine blk_alloc ?_ _)); exact BK254.out) hb); have n1_ := Aside0.mk (below_step (by repeat (first | (with_reducible first | exact HB.out | apply below_alloc | apply pw_below_drewN | apply below_drew1 | refine below_set ?_ GE254.out) | exact HB.out)) hb); clear BK254; clear HB; have BK254 := n0_; have HB := n1_; clear n0_ n1_; (try clear hb); (try clear hb2); (try clear hk); (try clear hi)))
       go_ret
       exact ⟨by first | rfl | (simp [errW_none, errW_some] <;> rfl) | (simp [*, errW_none, errW_some] <;> rfl), by repeat (first | (with_reducible first | exact HB.out | apply below_alloc | apply pw_below_drewN | apply below_drew1 | refine below_set ?_ GE254.out) | exact HB.out)⟩
     ·rw [if_neg c12] at H
      have c12b0 : decide ((wrap64 ((a0_2.size : Int) + 13)) ≤ (t256.size : Int)) = false := decide_eq_false c12
      clear c12
      obtain rfl := Option.some.inj H
      go_enter Try.func4, Try.ntmps4
      go_wp2_with (first | ((with_reducible refine gate_dst (N := 1) rfl ?_); (try (refine gate_guard (by rfl) ?_; dsimp only)); refine box_event ?hg (N := 1) ?hd (cs := #[.int .u64 a0_0, .int .u64 a0_1, .string a0_2, .string a0_3]) (t := 42) ?hr ?_; (case hd => rfl); (case hg => rfl); (case hr => first | (go_simp; done) | (go_simp; rfl)); intro gb254 hg w31 hbox hb; have n0_ := Aside0.mk (below_step (by repeat (first | (with_reducible first | exact HB.out | apply below_alloc | apply pw_below_drewN | apply below_drew1) | exact HB.out)) hb); have n1_ := Aside0.mk (hbox); have n2_ := Aside0.mk ((by rw [hg]; exact (below_size (by repeat (first | (with_reducible first | exact HB.out | apply below_alloc | apply pw_below_drewN | apply below_drew1) | exact HB.out))) : w.heap.size ≤ gb254)); have n3_ := Aside0.mk ((by rw [hg]; exact (below_size (by repeat (first | (with_reducible first | exact HB.out | apply below_alloc | apply pw_below_drewN | apply below_drew1) | exact HB.out))) : w.heap.size ≤ gb254)); clear HB; have HB := n0_; have BK254 := n1_; have GW254 := n2_; have GE254 := n3_; clear n0_ n1_ n2_ n3_; clear hb hbox hg; have hcz32_0 : w31.cell? ⟨gb254, 0, none⟩ = some (.int .u64 a0_0) := (blk_cell BK254.out 0).trans rfl; have hcz32_1 : w31.cell? ⟨gb254, 1, none⟩ = some (.int .u64 a0_1) := (blk_cell BK254.out 1).trans rfl; have hcz32_2 : w31.cell? ⟨gb254, 2, none⟩ = some (.string a0_2) := (blk_cell BK254.out 2).trans rfl; have hcz32_3 : w31.cell? ⟨gb254, 3, none⟩ = some (.string a0_3) := (blk_cell BK254.out 3).trans rfl; have hfz32_0 := blk_frozen BK254.out 0; have hfz32_1 := blk_frozen BK254.out 1; have hfz32_2 := blk_frozen BK254.out 2; have hfz32_3 := blk_frozen BK254.out 3) | ((with_reducible refine gate_callee (f := 10) rfl ?_); refine goesL_ (some 18) rfl rfl Try.func10 (by kernel_rfl) rfl #[] rfl (by (try simp only [List.map_toArray, List.map_cons, List.map_nil]); first | done | rfl | (simp only [List.length_drop, List.length_take]; rfl)) ?_; (with_reducible refine (copyholdlaw05_shown.calls k  true _ A2.out).mono ?_); rintro e w33 ⟨rfl, hb⟩; refine ⟨_, rfl, ?_⟩; have n0_ := Aside0.mk (blk_below (g := gb254) (o := .cells #[.int .u64 a0_0, .int .u64 a0_1, .string a0_2, .string a0_3] 42 (0, 0)) (by (with_reducible repeat (first | refine blk_drewN ?_ _ | refine blk_drew ?_ | refine blk_alloc ?_ _)); exact BK254.out) hb); have n1_ := Aside0.mk (below_step (by repeat (first | (with_reducible first | exact HB.out | apply below_alloc | apply pw_below_drewN | apply below_drew1 | refine below_set ?_ GE254.out) | exact HB.out)) hb); clear BK254; clear HB; have BK254 := n0_; have HB := n1_; clear n0_ n1_; (try clear hb); (try clear hb2); (try clear hk); (try clear hi)) | ((with_reducible refine gate_callee (f := 15) rfl ?_); refine goesL_ (some 28) rfl rfl Try.func15 (by kernel_rfl) rfl #[.int .u64 a0_0, .string a0_2] rfl (by (try simp only [List.map_toArray, List.map_cons, List.map_nil]); first | done | rfl | (simp only [List.length_drop, List.length_take]; rfl)) ?_; (with_reducible refine (redo_Record.calls k a0_0 a0_2 t256 _ A7.out).mono ?_); rintro e w34 ⟨rfl, hb⟩; refine ⟨_, rfl, ?_⟩; have n0_ := Aside0.mk (blk_below (g := gb254) (o := .cells #[.int .u64 a0_0, .int .u64 a0_1, .string a0_2, .string a0_3] 42 (0, 0)) (by (with_reducible repeat (first | refine blk_drewN ?_ _ | refine blk_drew ?_ | refine blk_alloc ?_ _)); exact BK254.out) hb); have n1_ := Aside0.mk (below_step (by repeat (first | (with_reducible first | exact HB.out | apply below_alloc | apply pw_below_drewN | apply below_drew1 | refine below_set ?_ GE254.out) | exact HB.out)) hb); clear BK254; clear HB; have BK254 := n0_; have HB := n1_; clear n0_ n1_; (try clear hb); (try clear hb2); (try clear hk); (try clear hi)) | ((with_reducible refine gate_callee (f := 15) rfl ?_); refine goesL_ (some 31) rfl rfl Try.func15 (by kernel_rfl) rfl #[.int .u64 a0_1, .string a0_3] rfl (by (try simp only [List.map_toArray, List.map_cons, List.map_nil]); first | done | rfl | (simp only [List.length_drop, List.length_take]; rfl)) ?_; (with_reducible refine (redo_Record.calls k a0_1 a0_3 t257 _ A8.out).mono ?_); rintro e w35 ⟨rfl, hb⟩; refine ⟨_, rfl, ?_⟩; have n0_ := Aside0.mk (blk_below (g := gb254) (o := .cells #[.int .u64 a0_0, .int .u64 a0_1, .string a0_2, .string a0_3] 42 (0, 0)) (by (with_reducible repeat (first | refine blk_drewN ?_ _ | refine blk_drew ?_ | refine blk_alloc ?_ _)); exact BK254.out) hb); have n1_ := Aside0.mk (below_step (by repeat (first | (with_reducible first | exact HB.out | apply below_alloc | apply pw_below_drewN | apply below_drew1 | refine below_set ?_ GE254.out) | exact HB.out)) hb); clear BK254; clear HB; have BK254 := n0_; have HB := n1_; clear n0_ n1_; (try clear hb); (try clear hb2); (try clear hk); (try clear hi)))
      go_ret
      exact ⟨by first | rfl | (simp [errW_none, errW_some] <;> rfl) | (simp [*, errW_none, errW_some] <;> rfl), by repeat (first | (with_reducible first | exact HB.out | apply below_alloc | apply pw_below_drewN | apply below_drew1 | refine below_set ?_ GE254.out) | exact HB.out)⟩
    ·rw [if_neg c11] at H
     have c11b0 : ((t256.toList == t257.toList) == (a0_2.toList == a0_3.toList)) = false := by simpa using c11
     (try (have c11b1 : decide ((t256.toList == t257.toList) = (a0_2.toList == a0_3.toList)) = false := by simpa using c11))
     (try (have c11b2 : ((t256.toList == t257.toList) == (a0_2.toList == a0_3.toList)) = false := by simpa using c11))
     (try (have c11b3 : ¬ ((t256.toList == t257.toList) = (a0_2.toList == a0_3.toList)) := by simpa using c11))
     clear c11
     obtain rfl := Option.some.inj H
     go_enter Try.func4, Try.ntmps4
     go_wp2_with (first | ((with_reducible refine gate_dst (N := 1) rfl ?_); (try (refine gate_guard (by rfl) ?_; dsimp only)); refine box_event ?hg (N := 1) ?hd (cs := #[.int .u64 a0_0, .int .u64 a0_1, .string a0_2, .string a0_3]) (t := 42) ?hr ?_; (case hd => rfl); (case hg => rfl); (case hr => first | (go_simp; done) | (go_simp; rfl)); intro gb254 hg w36 hbox hb; have n0_ := Aside0.mk (below_step (by repeat (first | (with_reducible first | exact HB.out | apply below_alloc | apply pw_below_drewN | apply below_drew1) | exact HB.out)) hb); have n1_ := Aside0.mk (hbox); have n2_ := Aside0.mk ((by rw [hg]; exact (below_size (by repeat (first | (with_reducible first | exact HB.out | apply below_alloc | apply pw_below_drewN | apply below_drew1) | exact HB.out))) : w.heap.size ≤ gb254)); have n3_ := Aside0.mk ((by rw [hg]; exact (below_size (by repeat (first | (with_reducible first | exact HB.out | apply below_alloc | apply pw_below_drewN | apply below_drew1) | exact HB.out))) : w.heap.size ≤ gb254)); clear HB; have HB := n0_; have BK254 := n1_; have GW254 := n2_; have GE254 := n3_; clear n0_ n1_ n2_ n3_; clear hb hbox hg; have hcz37_0 : w36.cell? ⟨gb254, 0, none⟩ = some (.int .u64 a0_0) := (blk_cell BK254.out 0).trans rfl; have hcz37_1 : w36.cell? ⟨gb254, 1, none⟩ = some (.int .u64 a0_1) := (blk_cell BK254.out 1).trans rfl; have hcz37_2 : w36.cell? ⟨gb254, 2, none⟩ = some (.string a0_2) := (blk_cell BK254.out 2).trans rfl; have hcz37_3 : w36.cell? ⟨gb254, 3, none⟩ = some (.string a0_3) := (blk_cell BK254.out 3).trans rfl; have hfz37_0 := blk_frozen BK254.out 0; have hfz37_1 := blk_frozen BK254.out 1; have hfz37_2 := blk_frozen BK254.out 2; have hfz37_3 := blk_frozen BK254.out 3) | ((with_reducible refine gate_callee (f := 10) rfl ?_); refine goesL_ (some 18) rfl rfl Try.func10 (by kernel_rfl) rfl #[] rfl (by (try simp only [List.map_toArray, List.map_cons, List.map_nil]); first | done | rfl | (simp only [List.length_drop, List.length_take]; rfl)) ?_; (with_reducible refine (copyholdlaw05_shown.calls k  true _ A2.out).mono ?_); rintro e w38 ⟨rfl, hb⟩; refine ⟨_, rfl, ?_⟩; have n0_ := Aside0.mk (blk_below (g := gb254) (o := .cells #[.int .u64 a0_0, .int .u64 a0_1, .string a0_2, .string a0_3] 42 (0, 0)) (by (with_reducible repeat (first | refine blk_drewN ?_ _ | refine blk_drew ?_ | refine blk_alloc ?_ _)); exact BK254.out) hb); have n1_ := Aside0.mk (below_step (by repeat (first | (with_reducible first | exact HB.out | apply below_alloc | apply pw_below_drewN | apply below_drew1 | refine below_set ?_ GE254.out) | exact HB.out)) hb); clear BK254; clear HB; have BK254 := n0_; have HB := n1_; clear n0_ n1_; (try clear hb); (try clear hb2); (try clear hk); (try clear hi)) | ((with_reducible refine gate_callee (f := 15) rfl ?_); refine goesL_ (some 28) rfl rfl Try.func15 (by kernel_rfl) rfl #[.int .u64 a0_0, .string a0_2] rfl (by (try simp only [List.map_toArray, List.map_cons, List.map_nil]); first | done | rfl | (simp only [List.length_drop, List.length_take]; rfl)) ?_; (with_reducible refine (redo_Record.calls k a0_0 a0_2 t256 _ A7.out).mono ?_); rintro e w39 ⟨rfl, hb⟩; refine ⟨_, rfl, ?_⟩; have n0_ := Aside0.mk (blk_below (g := gb254) (o := .cells #[.int .u64 a0_0, .int .u64 a0_1, .string a0_2, .string a0_3] 42 (0, 0)) (by (with_reducible repeat (first | refine blk_drewN ?_ _ | refine blk_drew ?_ | refine blk_alloc ?_ _)); exact BK254.out) hb); have n1_ := Aside0.mk (below_step (by repeat (first | (with_reducible first | exact HB.out | apply below_alloc | apply pw_below_drewN | apply below_drew1 | refine below_set ?_ GE254.out) | exact HB.out)) hb); clear BK254; clear HB; have BK254 := n0_; have HB := n1_; clear n0_ n1_; (try clear hb); (try clear hb2); (try clear hk); (try clear hi)) | ((with_reducible refine gate_callee (f := 15) rfl ?_); refine goesL_ (some 31) rfl rfl Try.func15 (by kernel_rfl) rfl #[.int .u64 a0_1, .string a0_3] rfl (by (try simp only [List.map_toArray, List.map_cons, List.map_nil]); first | done | rfl | (simp only [List.length_drop, List.length_take]; rfl)) ?_; (with_reducible refine (redo_Record.calls k a0_1 a0_3 t257 _ A8.out).mono ?_); rintro e w40 ⟨rfl, hb⟩; refine ⟨_, rfl, ?_⟩; have n0_ := Aside0.mk (blk_below (g := gb254) (o := .cells #[.int .u64 a0_0, .int .u64 a0_1, .string a0_2, .string a0_3] 42 (0, 0)) (by (with_reducible repeat (first | refine blk_drewN ?_ _ | refine blk_drew ?_ | refine blk_alloc ?_ _)); exact BK254.out) hb); have n1_ := Aside0.mk (below_step (by repeat (first | (with_reducible first | exact HB.out | apply below_alloc | apply pw_below_drewN | apply below_drew1 | refine below_set ?_ GE254.out) | exact HB.out)) hb); clear BK254; clear HB; have BK254 := n0_; have HB := n1_; clear n0_ n1_; (try clear hb); (try clear hb2); (try clear hk); (try clear hi)))
     go_ret
     exact ⟨by first | rfl | (simp [errW_none, errW_some] <;> rfl) | (simp [*, errW_none, errW_some] <;> rfl), by repeat (first | (with_reducible first | exact HB.out | apply below_alloc | apply pw_below_drewN | apply below_drew1 | refine below_set ?_ GE254.out) | exact HB.out)⟩
   ·rw [if_neg c10] at H
    have c10b0 : (a0_0 == a0_1) = false := beq_eq_false_iff_ne.mpr c10
    have c10b1 : (a0_0 != a0_1) = true := bne_iff_ne.mpr c10
    by_cases c41 : ((t256.toList == t257.toList) == false) = true
    ·rw [if_pos c41] at H
     have c41b0 : ((t256.toList == t257.toList) == false) = true := c41
     (try (have c41b1 : decide ((t256.toList == t257.toList) = false) = true := by simpa using c41))
     (try (have c41b2 : ((t256.toList == t257.toList) == false) = true := by simpa using c41))
     clear c41
     by_cases c42 : (t256.size : Int) ≥ (wrap64 ((a0_2.size : Int) + 13))
     ·rw [if_pos c42] at H
      have c42b0 : decide ((wrap64 ((a0_2.size : Int) + 13)) ≤ (t256.size : Int)) = true := decide_eq_true c42
      clear c42
      replace H := Option.bind_eq_some_iff.mp H
      obtain ⟨t263, A430, H⟩ := H
      replace H : (if t263 = (wrap64 (Int.tdiv (wrap64 ((t256.size : Int) + 63)) 64)) then ((copyholdref01_Long.f k (([t256] : List ByteArray))).bind fun t267 => (some (t267 == (wrap64 ((t256.size : Int) + 1))))) else (some false)) = some r := H
      have A43 := Aside0.mk A430
      clear A430
      by_cases c44 : t263 = (wrap64 (Int.tdiv (wrap64 ((t256.size : Int) + 63)) 64))
      ·rw [if_pos c44] at H
       have c44b0 : (t263 == (wrap64 (Int.tdiv (wrap64 ((t256.size : Int) + 63)) 64))) = true := beq_iff_eq.mpr c44
       have c44b1 : (t263 != (wrap64 (Int.tdiv (wrap64 ((t256.size : Int) + 63)) 64))) = false := bne_eq_false_iff_eq.mpr c44
       clear c44
       obtain ⟨y264, hy264⟩ : ∃ y_ : List ByteArray, y_ = (([t256] : List ByteArray)) := ⟨_, rfl⟩
       replace H : ((copyholdref01_Long.f k y264).bind fun t267 => (some (t267 == (wrap64 ((t256.size : Int) + 1))))) = some r := by first | (rw [hy264]; with_reducible exact H) | (have H2_ := (Option.bind_some _ _).symm.trans H; rw [hy264]; with_reducible exact H2_) | (have H2_ := (Option.bind_some _ _).symm.trans H; with_reducible exact H2_) | with_reducible exact H | (rw [hy264]; exact H) | exact H
       have Ny264 := Aside0.mk hy264
       clear hy264
       replace H := Option.bind_eq_some_iff.mp H
       obtain ⟨t267, A450, H⟩ := H
       replace H : (some (t267 == (wrap64 ((t256.size : Int) + 1)))) = some r := H
       have A45 := Aside0.mk A450
       clear A450
       obtain rfl := Option.some.inj H
       go_enter Try.func4, Try.ntmps4
       go_wp2_with (first | ((with_reducible refine gate_dst (N := 1) rfl ?_); (try (refine gate_guard (by rfl) ?_; dsimp only)); refine box_event ?hg (N := 1) ?hd (cs := #[.int .u64 a0_0, .int .u64 a0_1, .string a0_2, .string a0_3]) (t := 42) ?hr ?_; (case hd => rfl); (case hg => rfl); (case hr => first | (go_simp; done) | (go_simp; rfl)); intro gb254 hg w46 hbox hb; have n0_ := Aside0.mk (below_step (by repeat (first | (with_reducible first | exact HB.out | apply below_alloc | apply pw_below_drewN | apply below_drew1) | exact HB.out)) hb); have n1_ := Aside0.mk (hbox); have n2_ := Aside0.mk ((by rw [hg]; exact (below_size (by repeat (first | (with_reducible first | exact HB.out | apply below_alloc | apply pw_below_drewN | apply below_drew1) | exact HB.out))) : w.heap.size ≤ gb254)); have n3_ := Aside0.mk ((by rw [hg]; exact (below_size (by repeat (first | (with_reducible first | exact HB.out | apply below_alloc | apply pw_below_drewN | apply below_drew1) | exact HB.out))) : w.heap.size ≤ gb254)); clear HB; have HB := n0_; have BK254 := n1_; have GW254 := n2_; have GE254 := n3_; clear n0_ n1_ n2_ n3_; clear hb hbox hg; have hcz47_0 : w46.cell? ⟨gb254, 0, none⟩ = some (.int .u64 a0_0) := (blk_cell BK254.out 0).trans rfl; have hcz47_1 : w46.cell? ⟨gb254, 1, none⟩ = some (.int .u64 a0_1) := (blk_cell BK254.out 1).trans rfl; have hcz47_2 : w46.cell? ⟨gb254, 2, none⟩ = some (.string a0_2) := (blk_cell BK254.out 2).trans rfl; have hcz47_3 : w46.cell? ⟨gb254, 3, none⟩ = some (.string a0_3) := (blk_cell BK254.out 3).trans rfl; have hfz47_0 := blk_frozen BK254.out 0; have hfz47_1 := blk_frozen BK254.out 1; have hfz47_2 := blk_frozen BK254.out 2; have hfz47_3 := blk_frozen BK254.out 3) | ((with_reducible refine gate_callee (f := 10) rfl ?_); refine goesL_ (some 18) rfl rfl Try.func10 (by kernel_rfl) rfl #[] rfl (by (try simp only [List.map_toArray, List.map_cons, List.map_nil]); first | done | rfl | (simp only [List.length_drop, List.length_take]; rfl)) ?_; (with_reducible refine (copyholdlaw05_shown.calls k  true _ A2.out).mono ?_); rintro e w48 ⟨rfl, hb⟩; refine ⟨_, rfl, ?_⟩; have n0_ := Aside0.mk (blk_below (g := gb254) (o := .cells #[.int .u64 a0_0, .int .u64 a0_1, .string a0_2, .string a0_3] 42 (0, 0)) (by (with_reducible repeat (first | refine blk_drewN ?_ _ | refine blk_drew ?_ | refine blk_alloc ?_ _)); exact BK254.out) hb); have n1_ := Aside0.mk (below_step (by repeat (first | (with_reducible first | exact HB.out | apply below_alloc | apply pw_below_drewN | apply below_drew1 | refine below_set ?_ GE254.out) | exact HB.out)) hb); clear BK254; clear HB; have BK254 := n0_; have HB := n1_; clear n0_ n1_; (try clear hb); (try clear hb2); (try clear hk); (try clear hi)) | ((with_reducible refine gate_callee (f := 15) rfl ?_); refine goesL_ (some 28) rfl rfl Try.func15 (by kernel_rfl) rfl #[.int .u64 a0_0, .string a0_2] rfl (by (try simp only [List.map_toArray, List.map_cons, List.map_nil]); first | done | rfl | (simp only [List.length_drop, List.length_take]; rfl)) ?_; (with_reducible refine (redo_Record.calls k a0_0 a0_2 t256 _ A7.out).mono ?_); rintro e w49 ⟨rfl, hb⟩; refine ⟨_, rfl, ?_⟩; have n0_ := Aside0.mk (blk_below (g := gb254) (o := .cells #[.int .u64 a0_0, .int .u64 a0_1, .string a0_2, .string a0_3] 42 (0, 0)) (by (with_reducible repeat (first | refine blk_drewN ?_ _ | refine blk_drew ?_ | refine blk_alloc ?_ _)); exact BK254.out) hb); have n1_ := Aside0.mk (below_step (by repeat (first | (with_reducible first | exact HB.out | apply below_alloc | apply pw_below_drewN | apply below_drew1 | refine below_set ?_ GE254.out) | exact HB.out)) hb); clear BK254; clear HB; have BK254 := n0_; have HB := n1_; clear n0_ n1_; (try clear hb); (try clear hb2); (try clear hk); (try clear hi)) | ((with_reducible refine gate_callee (f := 15) rfl ?_); refine goesL_ (some 31) rfl rfl Try.func15 (by kernel_rfl) rfl #[.int .u64 a0_1, .string a0_3] rfl (by (try simp only [List.map_toArray, List.map_cons, List.map_nil]); first | done | rfl | (simp only [List.length_drop, List.length_take]; rfl)) ?_; (with_reducible refine (redo_Record.calls k a0_1 a0_3 t257 _ A8.out).mono ?_); rintro e w50 ⟨rfl, hb⟩; refine ⟨_, rfl, ?_⟩; have n0_ := Aside0.mk (blk_below (g := gb254) (o := .cells #[.int .u64 a0_0, .int .u64 a0_1, .string a0_2, .string a0_3] 42 (0, 0)) (by (with_reducible repeat (first | refine blk_drewN ?_ _ | refine blk_drew ?_ | refine blk_alloc ?_ _)); exact BK254.out) hb); have n1_ := Aside0.mk (below_step (by repeat (first | (with_reducible first | exact HB.out | apply below_alloc | apply pw_below_drewN | apply below_drew1 | refine below_set ?_ GE254.out) | exact HB.out)) hb); clear BK254; clear HB; have BK254 := n0_; have HB := n1_; clear n0_ n1_; (try clear hb); (try clear hb2); (try clear hk); (try clear hi)) | (go_at_call 14; (with_reducible refine (redo_Need.calls k a0_2 t263 _ A43.out).mono ?_); rintro e w51 ⟨rfl, hb⟩; have n0_ := Aside0.mk (blk_below (g := gb254) (o := .cells #[.int .u64 a0_0, .int .u64 a0_1, .string a0_2, .string a0_3] 42 (0, 0)) (by (with_reducible repeat (first | refine blk_drewN ?_ _ | refine blk_drew ?_ | refine blk_alloc ?_ _)); exact BK254.out) hb); have n1_ := Aside0.mk (below_step (by repeat (first | (with_reducible first | exact HB.out | apply below_alloc | apply pw_below_drewN | apply below_drew1 | refine below_set ?_ GE254.out) | exact HB.out)) hb); clear BK254; clear HB; have BK254 := n0_; have HB := n1_; clear n0_ n1_; (try clear hb); (try clear hb2); (try clear hk); (try clear hi)) | ((with_reducible refine gate_dst (N := 66) rfl ?_); (try (refine gate_guard (by rfl) ?_; dsimp only)); refine Kd.R_lit Kd.string _ 9 ?hg (N := 66) ?hd (xs := ([t256] : List ByteArray)) (inner := [.string t256]) (ok := fun _ => True) (okp := fun _ => True) ?hr ?hp (fun _ hk => hk) trivial (Below.refl _ _) (Nat.le_refl _) (by simp) ?_; (case hd => rfl); (case hg => rfl); (case hr => first | (go_simp; done) | (go_simp; rfl)); (case hp => exact (Reps.one (show Kd.M Kd.string _ _ _ t256 [.string t256] from rfl) (Reps.none _ _))); intro v265 w52 ho53 hb hg_ hnew_; clear hg_ hnew_; (first | rw [← Ny264.out] at ho53 | (simp only [Int.reduceToNat] at ho53; rw [← Ny264.out] at ho53)); have n0_ := Aside0.mk (Kd.R_lower ho53 (below_size (by repeat (first | (with_reducible first | exact HB.out | apply below_alloc | apply pw_below_drewN | apply below_drew1 | refine below_set ?_ GE254.out) | exact HB.out)))); have n1_ := Aside0.mk (blk_below (g := gb254) (o := .cells #[.int .u64 a0_0, .int .u64 a0_1, .string a0_2, .string a0_3] 42 (0, 0)) (by (with_reducible repeat (first | refine blk_drewN ?_ _ | refine blk_drew ?_ | refine blk_alloc ?_ _)); exact BK254.out) hb); have n2_ := Aside0.mk (below_step (by repeat (first | (with_reducible first | exact HB.out | apply below_alloc | apply pw_below_drewN | apply below_drew1 | refine below_set ?_ GE254.out) | exact HB.out)) hb); clear BK254; clear HB; have HO266 := n0_; have BK254 := n1_; have HB := n2_; clear n0_ n1_ n2_; clear hb ho53; obtain ⟨Ao54, co54, eo54⟩ := Kd.R_slice HO266.out; subst eo54) | (go_at_call 16; (with_reducible refine (copyholdref01_Long.calls k _ _ y264 t267 _ ?side1 ?side2 A45.out).mono ?_); (case side1 => repeat (first | exact (Kd.R_reads' HO266.out).2.2 | (with_reducible refine Kd.C_alloc ?_ _) | (with_reducible refine Kd.C_drewN ?_ _) | (with_reducible refine Kd.C_drew ?_))); (case side2 => exact (Kd.R_reads' HO266.out).2.1); rintro e w' ⟨rfl, ⟨nd, rfl⟩⟩))
       go_ret
       exact ⟨by first | rfl | (simp [errW_none, errW_some] <;> rfl) | (simp [*, errW_none, errW_some] <;> rfl), by repeat (first | (with_reducible first | exact HB.out | apply below_alloc | apply pw_below_drewN | apply below_drew1 | refine below_set ?_ GE254.out) | exact HB.out)⟩
      ·rw [if_neg c44] at H
       have c44b0 : (t263 == (wrap64 (Int.tdiv (wrap64 ((t256.size : Int) + 63)) 64))) = false := beq_eq_false_iff_ne.mpr c44
       have c44b1 : (t263 != (wrap64 (Int.tdiv (wrap64 ((t256.size : Int) + 63)) 64))) = true := bne_iff_ne.mpr c44
       obtain rfl := Option.some.inj H
       go_enter Try.func4, Try.ntmps4
       go_wp2_with (first | ((with_reducible refine gate_dst (N := 1) rfl ?_); (try (refine gate_guard (by rfl) ?_; dsimp only)); refine box_event ?hg (N := 1) ?hd (cs := #[.int .u64 a0_0, .int .u64 a0_1, .string a0_2, .string a0_3]) (t := 42) ?hr ?_; (case hd => rfl); (case hg => rfl); (case hr => first | (go_simp; done) | (go_simp; rfl)); intro gb254 hg w55 hbox hb; have n0_ := Aside0.mk (below_step (by repeat (first | (with_reducible first | exact HB.out | apply below_alloc | apply pw_below_drewN | apply below_drew1) | exact HB.out)) hb); have n1_ := Aside0.mk (hbox); have n2_ := Aside0.mk ((by rw [hg]; exact (below_size (by repeat (first | (with_reducible first | exact HB.out | apply below_alloc | apply pw_below_drewN | apply below_drew1) | exact HB.out))) : w.heap.size ≤ gb254)); have n3_ := Aside0.mk ((by rw [hg]; exact (below_size (by repeat (first | (with_reducible first | exact HB.out | apply below_alloc | apply pw_below_drewN | apply below_drew1) | exact HB.out))) : w.heap.size ≤ gb254)); clear HB; have HB := n0_; have BK254 := n1_; have GW254 := n2_; have GE254 := n3_; clear n0_ n1_ n2_ n3_; clear hb hbox hg; have hcz56_0 : w55.cell? ⟨gb254, 0, none⟩ = some (.int .u64 a0_0) := (blk_cell BK254.out 0).trans rfl; have hcz56_1 : w55.cell? ⟨gb254, 1, none⟩ = some (.int .u64 a0_1) := (blk_cell BK254.out 1).trans rfl; have hcz56_2 : w55.cell? ⟨gb254, 2, none⟩ = some (.string a0_2) := (blk_cell BK254.out 2).trans rfl; have hcz56_3 : w55.cell? ⟨gb254, 3, none⟩ = some (.string a0_3) := (blk_cell BK254.out 3).trans rfl; have hfz56_0 := blk_frozen BK254.out 0; have hfz56_1 := blk_frozen BK254.out 1; have hfz56_2 := blk_frozen BK254.out 2; have hfz56_3 := blk_frozen BK254.out 3) | ((with_reducible refine gate_callee (f := 10) rfl ?_); refine goesL_ (some 18) rfl rfl Try.func10 (by kernel_rfl) rfl #[] rfl (by (try simp only [List.map_toArray, List.map_cons, List.map_nil]); first | done | rfl | (simp only [List.length_drop, List.length_take]; rfl)) ?_; (with_reducible refine (copyholdlaw05_shown.calls k  true _ A2.out).mono ?_); rintro e w57 ⟨rfl, hb⟩; refine ⟨_, rfl, ?_⟩; have n0_ := Aside0.mk (blk_below (g := gb254) (o := .cells #[.int .u64 a0_0, .int .u64 a0_1, .string a0_2, .string a0_3] 42 (0, 0)) (by (with_reducible repeat (first | refine blk_drewN ?_ _ | refine blk_drew ?_ | refine blk_alloc ?_ _)); exact BK254.out) hb); have n1_ := Aside0.mk (below_step (by repeat (first | (with_reducible first | exact HB.out | apply below_alloc | apply pw_below_drewN | apply below_drew1 | refine below_set ?_ GE254.out) | exact HB.out)) hb); clear BK254; clear HB; have BK254 := n0_; have HB := n1_; clear n0_ n1_; (try clear hb); (try clear hb2); (try clear hk); (try clear hi)) | ((with_reducible refine gate_callee (f := 15) rfl ?_); refine goesL_ (some 28) rfl rfl Try.func15 (by kernel_rfl) rfl #[.int .u64 a0_0, .string a0_2] rfl (by (try simp only [List.map_toArray, List.map_cons, List.map_nil]); first | done | rfl | (simp only [List.length_drop, List.length_take]; rfl)) ?_; (with_reducible refine (redo_Record.calls k a0_0 a0_2 t256 _ A7.out).mono ?_); rintro e w58 ⟨rfl, hb⟩; refine ⟨_, rfl, ?_⟩; have n0_ := Aside0.mk (blk_below (g := gb254) (o := .cells #[.int .u64 a0_0, .int .u64 a0_1, .string a0_2, .string a0_3] 42 (0, 0)) (by (with_reducible repeat (first | refine blk_drewN ?_ _ | refine blk_drew ?_ | refine blk_alloc ?_ _)); exact BK254.out) hb); have n1_ := Aside0.mk (below_step (by repeat (first | (with_reducible first | exact HB.out | apply below_alloc | apply pw_below_drewN | apply below_drew1 | refine below_set ?_ GE254.out) | exact HB.out)) hb); clear BK254; clear HB; have BK254 := n0_; have HB := n1_; clear n0_ n1_; (try clear hb); (try clear hb2); (try clear hk); (try clear hi)) | ((with_reducible refine gate_callee (f := 15) rfl ?_); refine goesL_ (some 31) rfl rfl Try.func15 (by kernel_rfl) rfl #[.int .u64 a0_1, .string a0_3] rfl (by (try simp only [List.map_toArray, List.map_cons, List.map_nil]); first | done | rfl | (simp only [List.length_drop, List.length_take]; rfl)) ?_; (with_reducible refine (redo_Record.calls k a0_1 a0_3 t257 _ A8.out).mono ?_); rintro e w59 ⟨rfl, hb⟩; refine ⟨_, rfl, ?_⟩; have n0_ := Aside0.mk (blk_below (g := gb254) (o := .cells #[.int .u64 a0_0, .int .u64 a0_1, .string a0_2, .string a0_3] 42 (0, 0)) (by (with_reducible repeat (first | refine blk_drewN ?_ _ | refine blk_drew ?_ | refine blk_alloc ?_ _)); exact BK254.out) hb); have n1_ := Aside0.mk (below_step (by repeat (first | (with_reducible first | exact HB.out | apply below_alloc | apply pw_below_drewN | apply below_drew1 | refine below_set ?_ GE254.out) | exact HB.out)) hb); clear BK254; clear HB; have BK254 := n0_; have HB := n1_; clear n0_ n1_; (try clear hb); (try clear hb2); (try clear hk); (try clear hi)) | (go_at_call 14; (with_reducible refine (redo_Need.calls k a0_2 t263 _ A43.out).mono ?_); rintro e w60 ⟨rfl, hb⟩; have n0_ := Aside0.mk (blk_below (g := gb254) (o := .cells #[.int .u64 a0_0, .int .u64 a0_1, .string a0_2, .string a0_3] 42 (0, 0)) (by (with_reducible repeat (first | refine blk_drewN ?_ _ | refine blk_drew ?_ | refine blk_alloc ?_ _)); exact BK254.out) hb); have n1_ := Aside0.mk (below_step (by repeat (first | (with_reducible first | exact HB.out | apply below_alloc | apply pw_below_drewN | apply below_drew1 | refine below_set ?_ GE254.out) | exact HB.out)) hb); clear BK254; clear HB; have BK254 := n0_; have HB := n1_; clear n0_ n1_; (try clear hb); (try clear hb2); (try clear hk); (try clear hi)))
       go_ret
       exact ⟨by first | rfl | (simp [errW_none, errW_some] <;> rfl) | (simp [*, errW_none, errW_some] <;> rfl), by repeat (first | (with_reducible first | exact HB.out | apply below_alloc | apply pw_below_drewN | apply below_drew1 | refine below_set ?_ GE254.out) | exact HB.out)⟩
     ·rw [if_neg c42] at H
      have c42b0 : decide ((wrap64 ((a0_2.size : Int) + 13)) ≤ (t256.size : Int)) = false := decide_eq_false c42
      clear c42
      obtain rfl := Option.some.inj H
      go_enter Try.func4, Try.ntmps4
      go_wp2_with (first | ((with_reducible refine gate_dst (N := 1) rfl ?_); (try (refine gate_guard (by rfl) ?_; dsimp only)); refine box_event ?hg (N := 1) ?hd (cs := #[.int .u64 a0_0, .int .u64 a0_1, .string a0_2, .string a0_3]) (t := 42) ?hr ?_; (case hd => rfl); (case hg => rfl); (case hr => first | (go_simp; done) | (go_simp; rfl)); intro gb254 hg w61 hbox hb; have n0_ := Aside0.mk (below_step (by repeat (first | (with_reducible first | exact HB.out | apply below_alloc | apply pw_below_drewN | apply below_drew1) | exact HB.out)) hb); have n1_ := Aside0.mk (hbox); have n2_ := Aside0.mk ((by rw [hg]; exact (below_size (by repeat (first | (with_reducible first | exact HB.out | apply below_alloc | apply pw_below_drewN | apply below_drew1) | exact HB.out))) : w.heap.size ≤ gb254)); have n3_ := Aside0.mk ((by rw [hg]; exact (below_size (by repeat (first | (with_reducible first | exact HB.out | apply below_alloc | apply pw_below_drewN | apply below_drew1) | exact HB.out))) : w.heap.size ≤ gb254)); clear HB; have HB := n0_; have BK254 := n1_; have GW254 := n2_; have GE254 := n3_; clear n0_ n1_ n2_ n3_; clear hb hbox hg; have hcz62_0 : w61.cell? ⟨gb254, 0, none⟩ = some (.int .u64 a0_0) := (blk_cell BK254.out 0).trans rfl; have hcz62_1 : w61.cell? ⟨gb254, 1, none⟩ = some (.int .u64 a0_1) := (blk_cell BK254.out 1).trans rfl; have hcz62_2 : w61.cell? ⟨gb254, 2, none⟩ = some (.string a0_2) := (blk_cell BK254.out 2).trans rfl; have hcz62_3 : w61.cell? ⟨gb254, 3, none⟩ = some (.string a0_3) := (blk_cell BK254.out 3).trans rfl; have hfz62_0 := blk_frozen BK254.out 0; have hfz62_1 := blk_frozen BK254.out 1; have hfz62_2 := blk_frozen BK254.out 2; have hfz62_3 := blk_frozen BK254.out 3) | ((with_reducible refine gate_callee (f := 10) rfl ?_); refine goesL_ (some 18) rfl rfl Try.func10 (by kernel_rfl) rfl #[] rfl (by (try simp only [List.map_toArray, List.map_cons, List.map_nil]); first | done | rfl | (simp only [List.length_drop, List.length_take]; rfl)) ?_; (with_reducible refine (copyholdlaw05_shown.calls k  true _ A2.out).mono ?_); rintro e w63 ⟨rfl, hb⟩; refine ⟨_, rfl, ?_⟩; have n0_ := Aside0.mk (blk_below (g := gb254) (o := .cells #[.int .u64 a0_0, .int .u64 a0_1, .string a0_2, .string a0_3] 42 (0, 0)) (by (with_reducible repeat (first | refine blk_drewN ?_ _ | refine blk_drew ?_ | refine blk_alloc ?_ _)); exact BK254.out) hb); have n1_ := Aside0.mk (below_step (by repeat (first | (with_reducible first | exact HB.out | apply below_alloc | apply pw_below_drewN | apply below_drew1 | refine below_set ?_ GE254.out) | exact HB.out)) hb); clear BK254; clear HB; have BK254 := n0_; have HB := n1_; clear n0_ n1_; (try clear hb); (try clear hb2); (try clear hk); (try clear hi)) | ((with_reducible refine gate_callee (f := 15) rfl ?_); refine goesL_ (some 28) rfl rfl Try.func15 (by kernel_rfl) rfl #[.int .u64 a0_0, .string a0_2] rfl (by (try simp only [List.map_toArray, List.map_cons, List.map_nil]); first | done | rfl | (simp only [List.length_drop, List.length_take]; rfl)) ?_; (with_reducible refine (redo_Record.calls k a0_0 a0_2 t256 _ A7.out).mono ?_); rintro e w64 ⟨rfl, hb⟩; refine ⟨_, rfl, ?_⟩; have n0_ := Aside0.mk (blk_below (g := gb254) (o := .cells #[.int .u64 a0_0, .int .u64 a0_1, .string a0_2, .string a0_3] 42 (0, 0)) (by (with_reducible repeat (first | refine blk_drewN ?_ _ | refine blk_drew ?_ | refine blk_alloc ?_ _)); exact BK254.out) hb); have n1_ := Aside0.mk (below_step (by repeat (first | (with_reducible first | exact HB.out | apply below_alloc | apply pw_below_drewN | apply below_drew1 | refine below_set ?_ GE254.out) | exact HB.out)) hb); clear BK254; clear HB; have BK254 := n0_; have HB := n1_; clear n0_ n1_; (try clear hb); (try clear hb2); (try clear hk); (try clear hi)) | ((with_reducible refine gate_callee (f := 15) rfl ?_); refine goesL_ (some 31) rfl rfl Try.func15 (by kernel_rfl) rfl #[.int .u64 a0_1, .string a0_3] rfl (by (try simp only [List.map_toArray, List.map_cons, List.map_nil]); first | done | rfl | (simp only [List.length_drop, List.length_take]; rfl)) ?_; (with_reducible refine (redo_Record.calls k a0_1 a0_3 t257 _ A8.out).mono ?_); rintro e w65 ⟨rfl, hb⟩; refine ⟨_, rfl, ?_⟩; have n0_ := Aside0.mk (blk_below (g := gb254) (o := .cells #[.int .u64 a0_0, .int .u64 a0_1, .string a0_2, .string a0_3] 42 (0, 0)) (by (with_reducible repeat (first | refine blk_drewN ?_ _ | refine blk_drew ?_ | refine blk_alloc ?_ _)); exact BK254.out) hb); have n1_ := Aside0.mk (below_step (by repeat (first | (with_reducible first | exact HB.out | apply below_alloc | apply pw_below_drewN | apply below_drew1 | refine below_set ?_ GE254.out) | exact HB.out)) hb); clear BK254; clear HB; have BK254 := n0_; have HB := n1_; clear n0_ n1_; (try clear hb); (try clear hb2); (try clear hk); (try clear hi)))
      go_ret
      exact ⟨by first | rfl | (simp [errW_none, errW_some] <;> rfl) | (simp [*, errW_none, errW_some] <;> rfl), by repeat (first | (with_reducible first | exact HB.out | apply below_alloc | apply pw_below_drewN | apply below_drew1 | refine below_set ?_ GE254.out) | exact HB.out)⟩
    ·rw [if_neg c41] at H
     have c41b0 : ((t256.toList == t257.toList) == false) = false := by simpa using c41
     (try (have c41b1 : decide ((t256.toList == t257.toList) = false) = false := by simpa using c41))
     (try (have c41b2 : ((t256.toList == t257.toList) == false) = false := by simpa using c41))
     (try (have c41b3 : ¬ ((t256.toList == t257.toList) = false) := by simpa using c41))
     clear c41
     obtain rfl := Option.some.inj H
     go_enter Try.func4, Try.ntmps4
     go_wp2_with (first | ((with_reducible refine gate_dst (N := 1) rfl ?_); (try (refine gate_guard (by rfl) ?_; dsimp only)); refine box_event ?hg (N := 1) ?hd (cs := #[.int .u64 a0_0, .int .u64 a0_1, .string a0_2, .string a0_3]) (t := 42) ?hr ?_; (case hd => rfl); (case hg => rfl); (case hr => first | (go_simp; done) | (go_simp; rfl)); intro gb254 hg w66 hbox hb; have n0_ := Aside0.mk (below_step (by repeat (first | (with_reducible first | exact HB.out | apply below_alloc | apply pw_below_drewN | apply below_drew1) | exact HB.out)) hb); have n1_ := Aside0.mk (hbox); have n2_ := Aside0.mk ((by rw [hg]; exact (below_size (by repeat (first | (with_reducible first | exact HB.out | apply below_alloc | apply pw_below_drewN | apply below_drew1) | exact HB.out))) : w.heap.size ≤ gb254)); have n3_ := Aside0.mk ((by rw [hg]; exact (below_size (by repeat (first | (with_reducible first | exact HB.out | apply below_alloc | apply pw_below_drewN | apply below_drew1) | exact HB.out))) : w.heap.size ≤ gb254)); clear HB; have HB := n0_; have BK254 := n1_; have GW254 := n2_; have GE254 := n3_; clear n0_ n1_ n2_ n3_; clear hb hbox hg; have hcz67_0 : w66.cell? ⟨gb254, 0, none⟩ = some (.int .u64 a0_0) := (blk_cell BK254.out 0).trans rfl; have hcz67_1 : w66.cell? ⟨gb254, 1, none⟩ = some (.int .u64 a0_1) := (blk_cell BK254.out 1).trans rfl; have hcz67_2 : w66.cell? ⟨gb254, 2, none⟩ = some (.string a0_2) := (blk_cell BK254.out 2).trans rfl; have hcz67_3 : w66.cell? ⟨gb254, 3, none⟩ = some (.string a0_3) := (blk_cell BK254.out 3).trans rfl; have hfz67_0 := blk_frozen BK254.out 0; have hfz67_1 := blk_frozen BK254.out 1; have hfz67_2 := blk_frozen BK254.out 2; have hfz67_3 := blk_frozen BK254.out 3) | ((with_reducible refine gate_callee (f := 10) rfl ?_); refine goesL_ (some 18) rfl rfl Try.func10 (by kernel_rfl) rfl #[] rfl (by (try simp only [List.map_toArray, List.map_cons, List.map_nil]); first | done | rfl | (simp only [List.length_drop, List.length_take]; rfl)) ?_; (with_reducible refine (copyholdlaw05_shown.calls k  true _ A2.out).mono ?_); rintro e w68 ⟨rfl, hb⟩; refine ⟨_, rfl, ?_⟩; have n0_ := Aside0.mk (blk_below (g := gb254) (o := .cells #[.int .u64 a0_0, .int .u64 a0_1, .string a0_2, .string a0_3] 42 (0, 0)) (by (with_reducible repeat (first | refine blk_drewN ?_ _ | refine blk_drew ?_ | refine blk_alloc ?_ _)); exact BK254.out) hb); have n1_ := Aside0.mk (below_step (by repeat (first | (with_reducible first | exact HB.out | apply below_alloc | apply pw_below_drewN | apply below_drew1 | refine below_set ?_ GE254.out) | exact HB.out)) hb); clear BK254; clear HB; have BK254 := n0_; have HB := n1_; clear n0_ n1_; (try clear hb); (try clear hb2); (try clear hk); (try clear hi)) | ((with_reducible refine gate_callee (f := 15) rfl ?_); refine goesL_ (some 28) rfl rfl Try.func15 (by kernel_rfl) rfl #[.int .u64 a0_0, .string a0_2] rfl (by (try simp only [List.map_toArray, List.map_cons, List.map_nil]); first | done | rfl | (simp only [List.length_drop, List.length_take]; rfl)) ?_; (with_reducible refine (redo_Record.calls k a0_0 a0_2 t256 _ A7.out).mono ?_); rintro e w69 ⟨rfl, hb⟩; refine ⟨_, rfl, ?_⟩; have n0_ := Aside0.mk (blk_below (g := gb254) (o := .cells #[.int .u64 a0_0, .int .u64 a0_1, .string a0_2, .string a0_3] 42 (0, 0)) (by (with_reducible repeat (first | refine blk_drewN ?_ _ | refine blk_drew ?_ | refine blk_alloc ?_ _)); exact BK254.out) hb); have n1_ := Aside0.mk (below_step (by repeat (first | (with_reducible first | exact HB.out | apply below_alloc | apply pw_below_drewN | apply below_drew1 | refine below_set ?_ GE254.out) | exact HB.out)) hb); clear BK254; clear HB; have BK254 := n0_; have HB := n1_; clear n0_ n1_; (try clear hb); (try clear hb2); (try clear hk); (try clear hi)) | ((with_reducible refine gate_callee (f := 15) rfl ?_); refine goesL_ (some 31) rfl rfl Try.func15 (by kernel_rfl) rfl #[.int .u64 a0_1, .string a0_3] rfl (by (try simp only [List.map_toArray, List.map_cons, List.map_nil]); first | done | rfl | (simp only [List.length_drop, List.length_take]; rfl)) ?_; (with_reducible refine (redo_Record.calls k a0_1 a0_3 t257 _ A8.out).mono ?_); rintro e w70 ⟨rfl, hb⟩; refine ⟨_, rfl, ?_⟩; have n0_ := Aside0.mk (blk_below (g := gb254) (o := .cells #[.int .u64 a0_0, .int .u64 a0_1, .string a0_2, .string a0_3] 42 (0, 0)) (by (with_reducible repeat (first | refine blk_drewN ?_ _ | refine blk_drew ?_ | refine blk_alloc ?_ _)); exact BK254.out) hb); have n1_ := Aside0.mk (below_step (by repeat (first | (with_reducible first | exact HB.out | apply below_alloc | apply pw_below_drewN | apply below_drew1 | refine below_set ?_ GE254.out) | exact HB.out)) hb); clear BK254; clear HB; have BK254 := n0_; have HB := n1_; clear n0_ n1_; (try clear hb); (try clear hb2); (try clear hk); (try clear hi)))
     go_ret
     exact ⟨by first | rfl | (simp [errW_none, errW_some] <;> rfl) | (simp [*, errW_none, errW_some] <;> rfl), by repeat (first | (with_reducible first | exact HB.out | apply below_alloc | apply pw_below_drewN | apply below_drew1 | refine below_set ?_ GE254.out) | exact HB.out)⟩
  ·replace c9 := Bool.eq_false_iff.mpr c9
   subst c9
   have H1 : (some false) = some r := by rw [if_neg (show ¬ (false = true) by decide)] at H; exact H
   clear H
   have H := H1
   clear H1
   obtain rfl := Option.some.inj H
   go_enter Try.func4, Try.ntmps4
   go_wp2_with (first | ((with_reducible refine gate_dst (N := 1) rfl ?_); (try (refine gate_guard (by rfl) ?_; dsimp only)); refine box_event ?hg (N := 1) ?hd (cs := #[.int .u64 a0_0, .int .u64 a0_1, .string a0_2, .string a0_3]) (t := 42) ?hr ?_; (case hd => rfl); (case hg => rfl); (case hr => first | (go_simp; done) | (go_simp; rfl)); intro gb254 hg w71 hbox hb; have n0_ := Aside0.mk (below_step (by repeat (first | (with_reducible first | exact HB.out | apply below_alloc | apply pw_below_drewN | apply below_drew1) | exact HB.out)) hb); have n1_ := Aside0.mk (hbox); have n2_ := Aside0.mk ((by rw [hg]; exact (below_size (by repeat (first | (with_reducible first | exact HB.out | apply below_alloc | apply pw_below_drewN | apply below_drew1) | exact HB.out))) : w.heap.size ≤ gb254)); have n3_ := Aside0.mk ((by rw [hg]; exact (below_size (by repeat (first | (with_reducible first | exact HB.out | apply below_alloc | apply pw_below_drewN | apply below_drew1) | exact HB.out))) : w.heap.size ≤ gb254)); clear HB; have HB := n0_; have BK254 := n1_; have GW254 := n2_; have GE254 := n3_; clear n0_ n1_ n2_ n3_; clear hb hbox hg; have hcz72_0 : w71.cell? ⟨gb254, 0, none⟩ = some (.int .u64 a0_0) := (blk_cell BK254.out 0).trans rfl; have hcz72_1 : w71.cell? ⟨gb254, 1, none⟩ = some (.int .u64 a0_1) := (blk_cell BK254.out 1).trans rfl; have hcz72_2 : w71.cell? ⟨gb254, 2, none⟩ = some (.string a0_2) := (blk_cell BK254.out 2).trans rfl; have hcz72_3 : w71.cell? ⟨gb254, 3, none⟩ = some (.string a0_3) := (blk_cell BK254.out 3).trans rfl; have hfz72_0 := blk_frozen BK254.out 0; have hfz72_1 := blk_frozen BK254.out 1; have hfz72_2 := blk_frozen BK254.out 2; have hfz72_3 := blk_frozen BK254.out 3) | ((with_reducible refine gate_callee (f := 10) rfl ?_); refine goesL_ (some 18) rfl rfl Try.func10 (by kernel_rfl) rfl #[] rfl (by (try simp only [List.map_toArray, List.map_cons, List.map_nil]); first | done | rfl | (simp only [List.length_drop, List.length_take]; rfl)) ?_; (with_reducible refine (copyholdlaw05_shown.calls k  false _ A2.out).mono ?_); rintro e w73 ⟨rfl, hb⟩; refine ⟨_, rfl, ?_⟩; have n0_ := Aside0.mk (blk_below (g := gb254) (o := .cells #[.int .u64 a0_0, .int .u64 a0_1, .string a0_2, .string a0_3] 42 (0, 0)) (by (with_reducible repeat (first | refine blk_drewN ?_ _ | refine blk_drew ?_ | refine blk_alloc ?_ _)); exact BK254.out) hb); have n1_ := Aside0.mk (below_step (by repeat (first | (with_reducible first | exact HB.out | apply below_alloc | apply pw_below_drewN | apply below_drew1 | refine below_set ?_ GE254.out) | exact HB.out)) hb); clear BK254; clear HB; have BK254 := n0_; have HB := n1_; clear n0_ n1_; (try clear hb); (try clear hb2); (try clear hk); (try clear hi)) | ((with_reducible refine gate_callee (f := 15) rfl ?_); refine goesL_ (some 28) rfl rfl Try.func15 (by kernel_rfl) rfl #[.int .u64 a0_0, .string a0_2] rfl (by (try simp only [List.map_toArray, List.map_cons, List.map_nil]); first | done | rfl | (simp only [List.length_drop, List.length_take]; rfl)) ?_; (with_reducible refine (redo_Record.calls k a0_0 a0_2 t256 _ A7.out).mono ?_); rintro e w74 ⟨rfl, hb⟩; refine ⟨_, rfl, ?_⟩; have n0_ := Aside0.mk (blk_below (g := gb254) (o := .cells #[.int .u64 a0_0, .int .u64 a0_1, .string a0_2, .string a0_3] 42 (0, 0)) (by (with_reducible repeat (first | refine blk_drewN ?_ _ | refine blk_drew ?_ | refine blk_alloc ?_ _)); exact BK254.out) hb); have n1_ := Aside0.mk (below_step (by repeat (first | (with_reducible first | exact HB.out | apply below_alloc | apply pw_below_drewN | apply below_drew1 | refine below_set ?_ GE254.out) | exact HB.out)) hb); clear BK254; clear HB; have BK254 := n0_; have HB := n1_; clear n0_ n1_; (try clear hb); (try clear hb2); (try clear hk); (try clear hi)) | ((with_reducible refine gate_callee (f := 15) rfl ?_); refine goesL_ (some 31) rfl rfl Try.func15 (by kernel_rfl) rfl #[.int .u64 a0_1, .string a0_3] rfl (by (try simp only [List.map_toArray, List.map_cons, List.map_nil]); first | done | rfl | (simp only [List.length_drop, List.length_take]; rfl)) ?_; (with_reducible refine (redo_Record.calls k a0_1 a0_3 t257 _ A8.out).mono ?_); rintro e w75 ⟨rfl, hb⟩; refine ⟨_, rfl, ?_⟩; have n0_ := Aside0.mk (blk_below (g := gb254) (o := .cells #[.int .u64 a0_0, .int .u64 a0_1, .string a0_2, .string a0_3] 42 (0, 0)) (by (with_reducible repeat (first | refine blk_drewN ?_ _ | refine blk_drew ?_ | refine blk_alloc ?_ _)); exact BK254.out) hb); have n1_ := Aside0.mk (below_step (by repeat (first | (with_reducible first | exact HB.out | apply below_alloc | apply pw_below_drewN | apply below_drew1 | refine below_set ?_ GE254.out) | exact HB.out)) hb); clear BK254; clear HB; have BK254 := n0_; have HB := n1_; clear n0_ n1_; (try clear hb); (try clear hb2); (try clear hk); (try clear hi)))
   go_ret
   exact ⟨by first | rfl | (simp [errW_none, errW_some] <;> rfl) | (simp [*, errW_none, errW_some] <;> rfl), by repeat (first | (with_reducible first | exact HB.out | apply below_alloc | apply pw_below_drewN | apply below_drew1 | refine below_set ?_ GE254.out) | exact HB.out)⟩

/-! ### copyholdref05_Scan: function 18 -/
end Go.Proofs.Ytcbfnfggnocndaa.Q
end

section
/- How an argument of any plain type (numbers, bools, texts, slices, structs, nested) is opened: what it reads as, by its kind; its sizes; its bulk. -/
set_option linter.unusedVariables false
set_option linter.unusedSimpArgs false
namespace Go.Proofs.Ytcbfnfggnocndaa.Opn
open Go.Proofs.YtcbfnfggnocndaaW.PrintWords

structure Opens {H : Type} (enc : TypeId × Value → H) (P : Program) (w : World) (t : TypeId) {α : Type} (K : Kd α) (G : α → Prop) (b : α → Nat) : Prop where
  sz : P.cellsOf t = K.sz
  open_ : ∀ fuel cs (d : DataW H) ps, DataW.trod enc P w 0 (fun _ => true) true fuel t cs = some (d, ps) → ∃ x, K.K w x cs ∧ ((∀ n ∈ d.weights P t, n ≤ reachBytes) → G x) ∧ b x ≤ Rows.uptoBulk d

section
variable {H : Type} {enc : TypeId × Value → H} {P : Program} {w : World}

theorem opens_int {t : TypeId} {k : IntKind} (hu : P.underlying t = some (.int k)) (hs : P.cellsOf t = 1) : Opens enc P w t (Kd.int k) (fun x => (Lit.int k x).wf = true) (fun _ => 1) := by
  refine ⟨hs, fun fuel cs d ps h => ?_⟩
  obtain ⟨n, rfl, hx, hw⟩ := DataW.trod_int hu h
  obtain ⟨rfl, rfl⟩ := Prod.mk.inj hx
  exact ⟨n, rfl, fun _ => hw, by simp [Rows.uptoBulk]⟩
theorem opens_string {t : TypeId} (hu : P.underlying t = some .string) (hs : P.cellsOf t = 1) : Opens enc P w t Kd.string (fun x => x.size ≤ reachBytes) (fun x => x.size + 1) := by
  refine ⟨hs, fun fuel cs d ps h => ?_⟩
  obtain ⟨s, rfl, hx, _⟩ := DataW.trod_string hu h
  obtain ⟨rfl, rfl⟩ := Prod.mk.inj hx
  refine ⟨s, rfl, fun hw => ?_, ?_⟩
  · have := hw s.data.toList.length (by simp [DataW.weights])
    rw [Array.length_toList] at this; exact this
  · simp only [Rows.uptoBulk, Array.length_toList]; exact Nat.le_refl _
structure OpensF {H : Type} (enc : TypeId × Value → H) (P : Program) (w : World) (fs : List Field) (off : Nat) {α : Type} (K : Kd α) (G : α → Prop) (b : α → Nat) : Prop where
  open_ : ∀ fuel (cs : List Value) (xs : List (DataW H × List MemPlace)), fs.mapM (fun f => DataW.trod enc P w 0 (fun _ => true) true fuel f.type ((cs.drop f.offset).take (P.cellsOf f.type))) = some xs →
    ∃ x, K.K w x ((cs.drop off).take K.sz) ∧ ((∀ n ∈ DataW.weightsEach P (fs.map (·.type)) (xs.map (·.1)), n ≤ reachBytes) → G x) ∧ b x ≤ Rows.uptoBulkAll (xs.map (·.1))
theorem opensF_one {f : Field} {α : Type} {K : Kd α} {G : α → Prop} {b : α → Nat} (ho : Opens enc P w f.type K G b) : OpensF enc P w [f] f.offset K G b := by
  refine ⟨fun fuel cs xs h => ?_⟩
  rw [List.mapM_cons, List.mapM_nil] at h
  simp only [Option.bind_eq_bind, Option.bind_eq_some_iff] at h
  obtain ⟨y, h1, ys', h2, h3⟩ := h
  simp at h2 h3; subst h2; subst h3
  obtain ⟨x, hx1, hx2, hx3⟩ := ho.open_ fuel _ y.1 y.2 h1
  rw [ho.sz] at hx1
  refine ⟨x, hx1, fun hw => hx2 (fun n hn => hw n ?_), by simpa [Rows.uptoBulkAll] using hx3⟩
  simp [DataW.weightsEach, hn]
theorem opensF_cons {f : Field} {fs : List Field} {α β : Type} {K0 : Kd α} {G0 : α → Prop} {b0 : α → Nat} {K1 : Kd β} {G1 : β → Prop} {b1 : β → Nat} (ho : Opens enc P w f.type K0 G0 b0) {off : Nat} (hoff : off = f.offset + K0.sz) (hr : OpensF enc P w fs off K1 G1 b1) :
    OpensF enc P w (f :: fs) f.offset (Kd.pair K0 K1) (fun p => G0 p.1 ∧ G1 p.2) (fun p => b0 p.1 + b1 p.2) := by
  subst hoff
  refine ⟨fun fuel cs xs h => ?_⟩
  rw [List.mapM_cons] at h
  simp only [Option.bind_eq_bind, Option.bind_eq_some_iff] at h
  obtain ⟨y, h1, ys', h2, h3⟩ := h
  simp at h3; subst h3
  obtain ⟨x, hx1, hx2, hx3⟩ := ho.open_ fuel _ y.1 y.2 h1
  rw [ho.sz] at hx1
  obtain ⟨z, hz1, hz2, hz3⟩ := hr.open_ fuel cs ys' h2
  refine ⟨(x, z), ⟨_, _, ?_, hx1, hz1⟩, fun hw => ⟨hx2 (fun n hn => hw n ?_), hz2 (fun n hn => hw n ?_)⟩, ?_⟩
  · show List.take (K0.sz + K1.sz) _ = _
    rw [List.take_add, List.drop_drop]
  · simp only [List.map_cons, DataW.weightsEach]; exact List.mem_append_left _ hn
  · simp only [List.map_cons, DataW.weightsEach]; exact List.mem_append_right _ hn
  · simp only [List.map_cons, Rows.uptoBulkAll]; omega
theorem opens_struct {t : TypeId} {fs : Array Field} {α β : Type} {K : Kd α} {G : α → Prop} {b : α → Nat} (f : β → α) (g : α → β) (hfg : ∀ x, f (g x) = x) (hu : P.underlying t = some (.struct fs)) (hs : P.cellsOf t = K.sz) (hf : OpensF enc P w fs.toList 0 K G b) :
    Opens enc P w t (Kd.iso K f) (fun x => G (f x)) (fun x => b (f x) + 1) := by
  refine ⟨hs, fun fuel cs d ps h => ?_⟩
  cases fuel with
  | zero => simp [DataW.trod] at h
  | succ fuel =>
    unfold DataW.trod at h
    rw [hu] at h
    split at h <;> try (simp_all; done)
    rename_i fs' h1
    obtain rfl : fs = fs' := by simpa using h1
    split at h
    · rename_i hl
      simp only [Option.map_eq_some_iff] at h
      obtain ⟨xs, hx, h⟩ := h
      simp only [Prod.mk.injEq] at h
      obtain ⟨rfl, rfl⟩ := h
      obtain ⟨x, hx1, hx2, hx3⟩ := hf.open_ fuel _ xs hx
      rw [List.drop_zero, List.take_of_length_le (by omega)] at hx1
      refine ⟨g x, ?_, ?_, ?_⟩
      · show K.K w (f (g x)) _
        rw [hfg]; exact hx1
      · intro hw
        show G (f (g x))
        rw [hfg]
        refine hx2 (fun n hn => hw n ?_)
        simpa [DataW.weights, hu] using hn
      · show b (f (g x)) + 1 ≤ _
        rw [hfg]
        simp only [Rows.uptoBulk]
        omega
    · cases h
end
end Go.Proofs.Ytcbfnfggnocndaa.Opn
end

section
/- The pure statement of RedoRecords: what is left of the law when the machine's side is told. -/
namespace Go.Proofs.Ytcbfnfggnocndaa.Pure
open Go.RowKit Go.Proofs.Ytcbfnfggnocndaa.Q
def RedoRecordsSt : Prop := ∀ (a0_0 : Int) (a0_1 : Int) (a0_2 : ByteArray) (a0_3 : ByteArray), (Lit.int .u64 a0_0).wf = true → (Lit.int .u64 a0_1).wf = true → a0_2.size ≤ 140737488351232 → a0_3.size ≤ 140737488351232 → ∃ k, Go.Proofs.Ytcbfnfggnocndaa.Q.copyholdlaw05_RedoRecords.f k a0_0 a0_1 a0_2 a0_3 = some true
end Go.Proofs.Ytcbfnfggnocndaa.Pure
end

section
/- Layer 5, plain: records that stand in a ring, one behind the other. -/
set_option linter.unusedVariables false
set_option linter.unusedSimpArgs false
namespace Go.Proofs.Ytcbfnfggnocndaa
open Go.RowKit Go.Lib Go.Proofs.YtcbfnfggnocndaaW.PrintWords Go.Proofs.YtcbfnfggnocndaaW.PrintMore Math

/-- A sector's bytes, out of a row. -/
def sec (l : List UInt8) (i : Nat) : List UInt8 := (l.drop (64 * i)).take 64
theorem sec_get (l : List UInt8) (j : Nat) : (sec l (j / 64))[j % 64]? = l[j]? := by
  unfold sec
  rw [List.getElem?_take, if_pos (Nat.mod_lt _ (by decide)), List.getElem?_drop]
  congr 1
  omega
theorem sec_ext {a b : List UInt8} {k : Nat} (ha : a.length = 64 * k) (hb : b.length = 64 * k) (h : ∀ i, i < k → sec a i = sec b i) : a = b := by
  apply List.ext_getElem?
  intro j
  by_cases hj : j < 64 * k
  · rw [← sec_get a j, ← sec_get b j, h (j / 64) (by omega)]
  · rw [List.getElem?_eq_none (by omega), List.getElem?_eq_none (by omega)]
theorem sec_left {a b : List UInt8} {i : Nat} (h : 64 * i + 64 ≤ a.length) : sec (a ++ b) i = sec a i := by
  unfold sec
  rw [List.drop_append_of_le_length (by omega), List.take_append_of_le_length (by rw [List.length_drop]; omega)]
theorem sec_take {a : List UInt8} {i k : Nat} (h : i < k) : sec (a.take (64 * k)) i = sec a i := by
  unfold sec
  rw [List.drop_take, List.take_take, Nat.min_eq_left (by omega)]
/-- A ring's sector. -/
def rg (R : List ByteArray) (i : Nat) : List UInt8 := (R.getD (i % R.length) ⟨#[]⟩).data.toList
theorem rg_len {R : List ByteArray} (hs : ∀ s ∈ R, s.size = 64) (h1 : 1 ≤ R.length) (i : Nat) : (rg R i).length = 64 := by
  have hlt : i % R.length < R.length := Nat.mod_lt _ h1
  unfold rg
  rw [List.getD_eq_getElem?_getD, List.getElem?_eq_getElem hlt, ← sz]
  exact hs _ (List.getElem_mem hlt)
theorem sec_round {R : List ByteArray} (hs : ∀ s ∈ R, s.size = 64) (h1 : 1 ≤ R.length) (a : Nat) : ∀ m i, i < m → sec (roundB R a m) i = rg R (a + i)
  | 0, _, h => by omega
  | m + 1, i, h => by
    rw [roundB_succ]
    have hl := roundB_full R a h1 hs m
    by_cases hi : i < m
    · rw [sec_left (by omega), sec_round hs h1 a m i hi]
    · obtain rfl : i = m := by omega
      unfold sec
      rw [List.drop_left' hl]
      exact List.take_of_length_le (by have := rg_len hs h1 (a + i); unfold rg at this; omega)
/-- A record's sector. -/
def secR (n : Nat) (s : ByteArray) (i : Nat) : List UInt8 := sec (padB n s) i
theorem take_eq {R : List ByteArray} (hs : ∀ s ∈ R, s.size = 64) (h1 : 1 ≤ R.length) (a m n : Nat) (s : ByteArray) (hk : needN s ≤ m) :
    (roundB R a m).take (64 * needN s) = padB n s ↔ ∀ i, i < needN s → rg R (a + i) = secR n s i := by
  have hl := roundB_full R a h1 hs m
  constructor
  · intro h i hi
    rw [← sec_round hs h1 a m i (by omega), ← sec_take hi, h]; rfl
  · intro h
    refine sec_ext (k := needN s) (by rw [List.length_take]; omega) (padB_len n s) (fun i hi => ?_)
    rw [sec_take hi, sec_round hs h1 a m i (by omega), h i hi]; rfl
theorem padB_split (n : Nat) (s : ByteArray) : ∃ r, padB n s = (num8S n).data.toList ++ (textB s.data.toList ++ r) := by
  refine ⟨(fourS (sumN (num8S n ++ textS s))).data.toList ++ List.replicate (64 * needN s - (recS n s).size) 0, ?_⟩
  have e : (recS n s).data.toList = (num8S n).data.toList ++ ((textS s).data.toList ++ (fourS (sumN (num8S n ++ textS s))).data.toList) := by
    unfold recS putS
    rw [app, app, List.append_assoc]
  unfold padB
  rw [e, textS_dl, List.append_assoc, List.append_assoc]
theorem ba_eta (s : ByteArray) : (⟨s.data.toList.toArray⟩ : ByteArray) = s := by apply inj; rfl
theorem textL_pad {B : List UInt8} {n : Nat} {s : ByteArray} (hs : s.size ≤ 4096) (h : B.take (64 * needN s) = padB n s) : ∃ r, textL (B.drop 8) 4096 = (s.data.toList, r, 0) := by
  obtain ⟨r, hr⟩ := padB_split n s
  have hB : B = padB n s ++ B.drop (64 * needN s) := by rw [← h, List.take_append_drop]
  have e : B.drop 8 = textB s.data.toList ++ (r ++ B.drop (64 * needN s)) := by
    have h8 : (num8S n).data.toList.length = 8 := by rw [← sz]; exact num8S_size n
    have : B.drop 8 = (padB n s ++ B.drop (64 * needN s)).drop 8 := congrArg (List.drop 8) hB
    rw [this, hr, List.append_assoc, List.drop_left' h8, List.append_assoc]
  exact ⟨r ++ B.drop (64 * needN s), by rw [e]; exact text_take s.data.toList _ 4096 (by rw [← sz]; omega) (by rw [← sz]; omega)⟩
theorem standsB_some {B : List UInt8} {m n : Nat} {s : ByteArray} (hs : s.size ≤ 4096) (hm : needN s ≤ m) (h : B.take (64 * needN s) = padB n s) : standsB B m n = (s, needN s) := by
  obtain ⟨r, hr⟩ := textL_pad hs h
  unfold standsB
  rw [hr]
  dsimp only
  rw [ba_eta, if_pos ⟨rfl, hm, h⟩]
theorem standsB_inv {B : List UInt8} {m n : Nat} (h : (standsB B m n).2 ≠ 0) : (standsB B m n).2 = needN (standsB B m n).1 ∧ (standsB B m n).1.size ≤ 4096 ∧ needN (standsB B m n).1 ≤ m ∧ B.take (64 * needN (standsB B m n).1) = padB n (standsB B m n).1 := by
  unfold standsB at h ⊢
  split at h
  · rename_i hh
    rw [if_pos hh]
    refine ⟨rfl, ?_, hh.2.1, hh.2.2⟩
    have := textL_le (B.drop 8) 4096 hh.1
    rw [pbsz]; omega
  · exact absurd rfl h
theorem stR_some {R : List ByteArray} (hR : ∀ s ∈ R, s.size = 64) (h1 : 1 ≤ R.length) {a m n : Nat} {s : ByteArray} (hs : s.size ≤ 4096) (hm : needN s ≤ m) (h : ∀ i, i < needN s → rg R (a + i) = secR n s i) : stR R a m n = (s, needN s) :=
  standsB_some hs hm ((take_eq hR h1 a m n s hm).2 h)
theorem stR_inv {R : List ByteArray} (hR : ∀ s ∈ R, s.size = 64) (h1 : 1 ≤ R.length) {a m n : Nat} (h : (stR R a m n).2 ≠ 0) :
    (stR R a m n).2 = needN (stR R a m n).1 ∧ (stR R a m n).1.size ≤ 4096 ∧ needN (stR R a m n).1 ≤ m ∧ ∀ i, i < needN (stR R a m n).1 → rg R (a + i) = secR n (stR R a m n).1 i := by
  obtain ⟨k1, k2, k3, k4⟩ := standsB_inv h
  exact ⟨k1, k2, k3, (take_eq hR h1 a m n _ k3).1 k4⟩
theorem rg_mod (R : List ByteArray) (a i : Nat) : rg R (a % R.length + i) = rg R (a + i) := by
  unfold rg
  rw [Nat.mod_add_mod]
/-- How many sectors some texts need. -/
def needs (ts : List ByteArray) : Nat := (ts.map needN).sum
theorem needs_app (a b : List ByteArray) : needs (a ++ b) = needs a + needs b := by unfold needs; rw [List.map_append, List.sum_append]
theorem needs_cons (s : ByteArray) (b : List ByteArray) : needs (s :: b) = needN s + needs b := rfl
theorem needs_len : ∀ ts : List ByteArray, ts.length ≤ needs ts
  | [] => Nat.zero_le _
  | s :: ts => by rw [needs_cons, List.length_cons]; have := needs_len ts; have := need_pos s; omega
/-- Texts whose records stand in a ring, one behind the other: the j-th on, behind so many sectors. -/
def LayF (R : List ByteArray) (at_ first : Nat) : Nat → Nat → List ByteArray → Prop
  | _, _, [] => True
  | j, used, s :: ts => s.size ≤ 4096 ∧ used + needN s ≤ R.length ∧ (∀ i, i < needN s → rg R (at_ + (used + i)) = secR ((first + j) % 18446744073709551616) s i) ∧ LayF R at_ first (j + 1) (used + needN s) ts
theorem lay_nil (R : List ByteArray) (at_ first j used : Nat) : LayF R at_ first j used [] = True := by unfold LayF; rfl
theorem lay_cons (R : List ByteArray) (at_ first j used : Nat) (s : ByteArray) (ts : List ByteArray) : LayF R at_ first j used (s :: ts) =
    (s.size ≤ 4096 ∧ used + needN s ≤ R.length ∧ (∀ i, i < needN s → rg R (at_ + (used + i)) = secR ((first + j) % 18446744073709551616) s i) ∧ LayF R at_ first (j + 1) (used + needN s) ts) := by rw [LayF]
theorem lay_app (R : List ByteArray) (at_ first : Nat) : ∀ (a b : List ByteArray) (j used : Nat), LayF R at_ first j used (a ++ b) ↔ LayF R at_ first j used a ∧ LayF R at_ first (j + a.length) (used + needs a) b
  | [], b, j, used => by rw [List.nil_append, lay_nil, true_and]; rfl
  | s :: a, b, j, used => by
    rw [List.cons_append, lay_cons, lay_cons, lay_app R at_ first a b, List.length_cons, needs_cons, show j + 1 + a.length = j + (a.length + 1) by omega, Nat.add_assoc, and_assoc, and_assoc, and_assoc]
theorem lay_used (R : List ByteArray) (at_ first : Nat) : ∀ (a : List ByteArray) (j used : Nat), used ≤ R.length → LayF R at_ first j used a → used + needs a ≤ R.length
  | [], j, used, h, _ => h
  | s :: a, j, used, h, hl => by
    rw [lay_cons] at hl
    rw [needs_cons, ← Nat.add_assoc]
    exact lay_used R at_ first a _ _ hl.2.1 hl.2.2.2
/-- Moved on: the texts behind the first ones, told from their place. -/
theorem lay_shift (R : List ByteArray) (at_ first p k : Nat) : ∀ (a : List ByteArray) (j used : Nat), LayF R at_ first (k + j) (p + used) a → LayF R ((at_ + p) % R.length) ((first + k) % 18446744073709551616) j used a
  | [], _, _, _ => trivial
  | s :: a, j, used, h => by
    rw [lay_cons] at h ⊢
    refine ⟨h.1, by omega, fun i hi => ?_, lay_shift R at_ first p k a _ _ ?_⟩
    · rw [rg_mod, show at_ + p + (used + i) = at_ + (p + used + i) by omega, h.2.2.1 i hi, Nat.mod_add_mod, Nat.add_assoc]
    · rw [← Nat.add_assoc, ← Nat.add_assoc]; exact h.2.2.2
/-- What is found stands there. -/
theorem goP_lay {R : List ByteArray} (hR : ∀ s ∈ R, s.size = 64) (h1 : 1 ≤ R.length) (at_ first most : Nat) : ∀ f acc used, used ≤ R.length → acc.length ≤ most →
    ∃ ts, (goP (stR R) R.length at_ first most f acc used).1 = acc ++ ts ∧ (goP (stR R) R.length at_ first most f acc used).2 = used + needs ts ∧ LayF R at_ first acc.length used ts ∧ acc.length + ts.length ≤ most
  | 0, acc, used, _, hm => ⟨[], by unfold goP; simp, by unfold goP; rfl, trivial, hm⟩
  | f + 1, acc, used, hu, hm => by
    unfold goP
    split
    · exact ⟨[], by simp, rfl, trivial, hm⟩
    · rename_i h2
      split
      · exact ⟨[], by simp, rfl, trivial, hm⟩
      · rename_i h3
        obtain ⟨k1, k2, k3, k4⟩ := stR_inv hR h1 h3
        generalize stR R ((at_ + used) % R.length) (R.length - used) ((first + acc.length) % 18446744073709551616) = st at *
        have hne : ¬ acc.length = most := fun h => h2 (.inl h)
        rw [k1]
        obtain ⟨ts, e1, e2, e3, e4⟩ := goP_lay hR h1 at_ first most f (acc ++ [st.1]) (used + needN st.1) (by omega) (by rw [List.length_append]; show acc.length + 1 ≤ most; omega)
        refine ⟨st.1 :: ts, by rw [e1, List.append_assoc]; rfl, by rw [e2, needs_cons, Nat.add_assoc], ?_, by rw [List.length_append] at e4; rw [List.length_cons]; simp only [List.length_cons, List.length_nil] at e4; omega⟩
        rw [lay_cons]
        refine ⟨k2, by omega, fun i hi => ?_, ?_⟩
        · rw [← Nat.add_assoc, ← rg_mod]; exact k4 i hi
        · rw [List.length_append] at e3; exact e3
/-- What stands there is found, in so far as it is asked for. -/
theorem goP_pre {R : List ByteArray} (hR : ∀ s ∈ R, s.size = 64) (h1 : 1 ≤ R.length) (at_ first most : Nat) : ∀ (ts : List ByteArray) f acc used, used ≤ R.length → R.length - used < f → LayF R at_ first acc.length used ts → acc.length + ts.length ≤ most →
    ∃ more, (goP (stR R) R.length at_ first most f acc used).1 = acc ++ ts ++ more ∧ (goP (stR R) R.length at_ first most f acc used).2 = used + needs (ts ++ more)
  | [], f, acc, used, hu, hf, _, hm => by
    obtain ⟨more, e1, e2, _, _⟩ := goP_lay hR h1 at_ first most f acc used hu hm
    exact ⟨more, by rw [e1, List.append_nil], by rw [e2]; rfl⟩
  | s :: ts, 0, acc, used, hu, hf, _, _ => by omega
  | s :: ts, f + 1, acc, used, hu, hf, hl, hm => by
    rw [lay_cons] at hl
    obtain ⟨l1, l2, l3, l4⟩ := hl
    have hp := need_pos s
    rw [List.length_cons] at hm
    unfold goP
    have hst : stR R ((at_ + used) % R.length) (R.length - used) ((first + acc.length) % 18446744073709551616) = (s, needN s) :=
      stR_some hR h1 l1 (by omega) (fun i hi => by rw [rg_mod, Nat.add_assoc]; exact l3 i hi)
    rw [if_neg (by omega), hst, if_neg (by show ¬ needN s = 0; omega)]
    obtain ⟨more, e1, e2⟩ := goP_pre hR h1 at_ first most ts f (acc ++ [s]) (used + needN s) l2 (by omega) (by rw [List.length_append]; exact l4) (by rw [List.length_append]; show acc.length + 1 + ts.length ≤ most; omega)
    exact ⟨more, by rw [e1]; simp, by rw [e2, List.cons_append, needs_cons]; omega⟩
theorem found_lay {R : List ByteArray} (hR : ∀ s ∈ R, s.size = 64) (h1 : 1 ≤ R.length) (at_ first most : Nat) :
    LayF R at_ first 0 0 (found R at_ first most).1 ∧ (found R at_ first most).2 = needs (found R at_ first most).1 ∧ (found R at_ first most).1.length ≤ most ∧ needs (found R at_ first most).1 ≤ R.length := by
  obtain ⟨ts, e1, e2, e3, e4⟩ := goP_lay hR h1 at_ first most (R.length + 1) [] 0 (Nat.zero_le _) (Nat.zero_le _)
  unfold found foundP
  rw [e1, e2, List.nil_append, Nat.zero_add]
  refine ⟨e3, rfl, by simpa using e4, ?_⟩
  have := lay_used R at_ first ts 0 0 (Nat.zero_le _) e3
  omega
theorem found_pre {R : List ByteArray} (hR : ∀ s ∈ R, s.size = 64) (h1 : 1 ≤ R.length) {at_ first most : Nat} {ts : List ByteArray} (hl : LayF R at_ first 0 0 ts) (hm : ts.length ≤ most) :
    ∃ more, (found R at_ first most).1 = ts ++ more ∧ (found R at_ first most).2 = needs (ts ++ more) := by
  obtain ⟨more, e1, e2⟩ := goP_pre hR h1 at_ first most ts (R.length + 1) [] 0 (Nat.zero_le _) (by omega) hl (by simpa using hm)
  unfold found foundP
  exact ⟨more, by rw [e1]; rfl, by rw [e2, Nat.zero_add]⟩
theorem found_all {R : List ByteArray} (hR : ∀ s ∈ R, s.size = 64) (h1 : 1 ≤ R.length) {at_ first : Nat} {ts : List ByteArray} (hl : LayF R at_ first 0 0 ts) :
    found R at_ first ts.length = (ts, needs ts) := by
  obtain ⟨more, e1, e2⟩ := found_pre hR h1 hl (Nat.le_refl _)
  have h := (found_lay hR h1 at_ first ts.length).2.2.1
  rw [e1, List.length_append] at h
  obtain rfl : more = [] := List.eq_nil_of_length_eq_zero (by omega)
  rw [List.append_nil] at e1 e2
  exact Prod.ext e1 e2
/-- A ring whose sectors are the same there bears the same texts. -/
theorem lay_same {R S : List ByteArray} (at_ first : Nat) (hn : S.length = R.length) : ∀ (a : List ByteArray) (j used : Nat), (∀ p, used ≤ p → p < used + needs a → rg S (at_ + p) = rg R (at_ + p)) → LayF R at_ first j used a → LayF S at_ first j used a
  | [], _, _, _, _ => trivial
  | s :: a, j, used, hp, h => by
    rw [lay_cons] at h ⊢
    rw [needs_cons] at hp
    refine ⟨h.1, by omega, fun i hi => by rw [hp (used + i) (by omega) (by omega)]; exact h.2.2.1 i hi, lay_same at_ first hn a _ _ (fun p h2 h3 => hp p (by omega) (by omega)) h.2.2.2⟩
end Go.Proofs.Ytcbfnfggnocndaa
end

section
/- The machine's side of laws of this seat: Go functions as Lean functions, and the proof that a call of each comes to what its function says (written by a program of this session, px.py, that runs the kit's print). -/
namespace Go.Proofs.Ytcbfnfggnocndaa.Q
open Go.RowKit Go.Proofs.YtcbfnfggnocndaaW.PrintWords Go.Proofs.YtcbfnfggnocndaaW.PrintLast Go.Proofs.YtcbfnfggnocndaaW.PrintMore
attribute [local go_sem] max2_int min2_int max_two min_two max_three min_three max_four min_four   -- for this text's walks alone
attribute [local go_sem high] Go.Proofs.Ytcbfnfggnocndaa.px_xor_u8 Go.Proofs.Ytcbfnfggnocndaa.px_xor_u16 Go.Proofs.Ytcbfnfggnocndaa.px_xor_u32 Go.Proofs.Ytcbfnfggnocndaa.px_xor_u64
set_option linter.unusedVariables false
set_option linter.unusedSimpArgs false

/-! ### copyholdref04_Flush: function 23 -/
-- GIVEN: function 24 (redo_Texts): its Lean function and its contract stand in a text of this session's

/-! ### copyholdref04_Crash: function 25 -/
end Go.Proofs.Ytcbfnfggnocndaa.Q
end

section
/- The machine's side of laws of this seat: Go functions as Lean functions, and the proof that a call of each comes to what its function says (written by a program of this session, px.py, that runs the kit's print). -/
namespace Go.Proofs.Ytcbfnfggnocndaa.Q
open Go.RowKit Go.Proofs.YtcbfnfggnocndaaW.PrintWords Go.Proofs.YtcbfnfggnocndaaW.PrintLast Go.Proofs.YtcbfnfggnocndaaW.PrintMore
attribute [local go_sem] max2_int min2_int max_two min_two max_three min_three max_four min_four   -- for this text's walks alone
attribute [local go_sem high] Go.Proofs.Ytcbfnfggnocndaa.px_xor_u8 Go.Proofs.Ytcbfnfggnocndaa.px_xor_u16 Go.Proofs.Ytcbfnfggnocndaa.px_xor_u32 Go.Proofs.Ytcbfnfggnocndaa.px_xor_u64
set_option linter.unusedVariables false
set_option linter.unusedSimpArgs false

/-! ### copyholdref01_Strings: function 19 -/
-- GIVEN: function 22 (redo_Right): its Lean function and its contract stand in a text of this session's

end Go.Proofs.Ytcbfnfggnocndaa.Q
end

section
/- Layer 5, pure: disks, in the document's words (out of layer 4's texts). -/
set_option linter.unusedVariables false
set_option linter.unusedSimpArgs false
namespace Go.Proofs.Ytcbfnfggnocndaa.Pure
open Go.RowKit Go.Proofs.Ytcbfnfggnocndaa.Q Go.Proofs.YtcbfnfggnocndaaW.PrintWords Math

def zeroS : ByteArray := strOfNums (List.replicate 64 0)
theorem toL (a b : ByteArray) : (a.toList == b.toList) = decide (a = b) := by
  rw [tl, tl]
  by_cases h : a = b
  · subst h; simp
  · rw [decide_eq_false h]
    simp only [beq_eq_false_iff_ne, ne_eq]
    exact fun e => h (inj e)
structure Rt (l0 : List ByteArray) (l1 : List S88) : Prop where
  pos : 0 < l0.length
  len : l0.length ≤ 4096
  rows : ∀ s ∈ l0, s.size = 64
  at_ : ∀ p ∈ l1, 0 ≤ p.f0 ∧ p.f0 < (l0.length : Int)
  puts : ∀ p ∈ l1, p.f1.size = 64
theorem Rt.ok {l0 : List ByteArray} {l1 : List S88} (h : Rt l0 l1) (h1 : l1.length ≤ 1000000000) : DiskOk l0 l1 := ⟨h.pos, by have := h.len; omega, h1, h.at_⟩
theorem chosenL_mem {α : Type} (is : Nat → Bool) (qs : List α) : ∀ k, ∀ x ∈ chosenL is qs k, x ∈ qs
  | 0, x, h => by simp [chosenL] at h
  | k + 1, x, h => by
    rw [chosenL] at h
    split at h
    · rcases List.mem_append.1 h with h | h
      · exact chosenL_mem is qs k x h
      · have := Option.mem_toList.1 h
        exact List.mem_of_getElem? this
    · exact chosenL_mem is qs k x h
theorem chosenL_all {α : Type} (is : Nat → Bool) (qs : List α) : ∀ k, (∀ i, i < k → is i = true) → k ≤ qs.length → chosenL is qs k = qs.take k
  | 0, _, _ => by simp [chosenL]
  | k + 1, hi, h => by
    rw [chosenL, if_pos (hi k (by omega)), chosenL_all is qs k (fun i h => hi i (by omega)) (by omega), List.getElem?_eq_getElem (by omega), List.take_add_one, List.getElem?_eq_getElem (by omega)]
theorem doneL_all (l0 : List ByteArray) (l1 : List S88) (is : Nat → Bool) (h : ∀ i, i < l1.length → is i = true) : doneL l0 l1 is = imgL l0 l1 := by
  unfold doneL; rw [chosenL_all is l1 l1.length h (Nat.le_refl _), List.take_length]
theorem doneL_len (l0 : List ByteArray) (l1 : List S88) (is : Nat → Bool) : (doneL l0 l1 is).length = l0.length := imgL_len _ _
theorem imgL_cons (l : List ByteArray) (p : S88) (ps : List S88) : imgL l (p :: ps) = imgL (l.set p.f0.toNat p.f1) ps := rfl
theorem imgL_at (a : Nat) : ∀ (ps : List S88) (l : List ByteArray), (imgL l ps)[a]? = l[a]? ∨ ∃ p ∈ ps, p.f0.toNat = a ∧ (imgL l ps)[a]? = some p.f1
  | [], l => Or.inl rfl
  | p :: ps, l => by
    rw [imgL_cons]
    rcases imgL_at a ps (l.set p.f0.toNat p.f1) with h | ⟨q, hq, h1, h2⟩
    · rw [h]
      by_cases e : p.f0.toNat = a
      · by_cases hl : a < l.length
        · exact Or.inr ⟨p, List.mem_cons_self, e, by rw [e, List.getElem?_set_self hl]⟩
        · left
          rw [List.getElem?_eq_none (by simp; omega), List.getElem?_eq_none (by omega)]
      · left; rw [List.getElem?_set_ne e]
    · exact Or.inr ⟨q, List.mem_cons_of_mem _ hq, h1, h2⟩
theorem imgL_mem {s : ByteArray} (ps : List S88) (l : List ByteArray) (h : s ∈ imgL l ps) : s ∈ l ∨ ∃ p ∈ ps, s = p.f1 := by
  obtain ⟨a, ha⟩ := List.mem_iff_getElem?.1 h
  rcases imgL_at a ps l with h | ⟨q, hq, _, h⟩
  · exact Or.inl (List.mem_iff_getElem?.2 ⟨a, h ▸ ha⟩)
  · exact Or.inr ⟨q, hq, by rw [h] at ha; exact (Option.some.inj ha).symm⟩
theorem Rt.img {l0 : List ByteArray} {l1 : List S88} (h : Rt l0 l1) (is : Nat → Bool) : ∀ s ∈ doneL l0 l1 is, s.size = 64 := fun s hs => by
  rcases imgL_mem _ _ hs with a | ⟨p, hp, rfl⟩
  · exact h.rows s a
  · exact h.puts p (chosenL_mem _ _ _ p hp)
theorem Rt.done {l0 : List ByteArray} {l1 : List S88} (h : Rt l0 l1) (is : Nat → Bool) : Rt (doneL l0 l1 is) [] :=
  ⟨by rw [doneL_len]; exact h.pos, by rw [doneL_len]; exact h.len, h.img is, fun _ hp => by simp at hp, fun _ hp => by simp at hp⟩
theorem app_nil (x : ByteArray) : x ++ (⟨#[]⟩ : ByteArray) = x := by apply inj; rw [app]; simp
theorem nil_app (x : ByteArray) : (⟨#[]⟩ : ByteArray) ++ x = x := by apply inj; rw [app]; simp
theorem app_as (x y z : ByteArray) : x ++ y ++ z = x ++ (y ++ z) := by apply inj; rw [app, app, app, app, List.append_assoc]
theorem z1 : (⟨#[0]⟩ : ByteArray) = strOfNums [0] := by decide +kernel
theorem filled_eq (s : ByteArray) (hs : s.size ≤ 1000000) (k : Nat) (hk : 64 < k) : copyholdref04_filled.f k s = some (fillS s) := by
  have go : ∀ (n k : Nat) (x : ByteArray), 64 - x.size = n → x.size ≤ 1000000 → n < k → copyholdref04_filled.l0 k x = some (fillS x) := by
    intro n
    induction n with
    | zero =>
      intro k x h hx hk; obtain ⟨k, rfl⟩ : ∃ j, k = j + 1 := ⟨k - 1, by omega⟩
      rw [copyholdref04_filled.l0, if_neg (by omega)]
      unfold fillS; rw [h]
      exact congrArg some (app_nil x).symm
    | succ n ih =>
      intro k x h hx hk; obtain ⟨k, rfl⟩ : ∃ j, k = j + 1 := ⟨k - 1, by omega⟩
      have hz : (x ++ (⟨#[0]⟩ : ByteArray)).size = x.size + 1 := by rw [app_size]; rfl
      rw [copyholdref04_filled.l0, if_pos (by omega), if_pos (by omega), ih k _ (by omega) (by omega) (by omega)]
      congr 1
      unfold fillS
      rw [hz, h, show 64 - (x.size + 1) = n by omega, app_as]
      congr 1
  exact go _ k s rfl hs (by omega)
theorem new_ref (m : Nat) (h0 : 1 ≤ m) (h1 : m ≤ 4096) (k : Nat) (hk : m + 70 < k) : copyholdref04_New.f k (m : Int) = some (List.replicate m zeroS, [], false, 0) := by
  have go : ∀ (n i k : Nat), i + n = m → n < k → copyholdref04_New.l0 k (m : Int) zeroS (i : Int) (List.replicate i zeroS) false = some (List.replicate m zeroS, [], false, 0) := by
    intro n
    induction n with
    | zero => intro i k h hk; obtain ⟨k, rfl⟩ : ∃ j, k = j + 1 := ⟨k - 1, by omega⟩; rw [copyholdref04_New.l0, if_neg (by omega), show i = m by omega]
    | succ n ih => intro i k h hk; obtain ⟨k, rfl⟩ : ∃ j, k = j + 1 := ⟨k - 1, by omega⟩; rw [copyholdref04_New.l0, if_pos (by omega), if_pos (by rw [List.length_replicate]; omega), w64 (by omega) (by omega), show (i : Int) + 1 = ((i + 1 : Nat) : Int) by omega, ← List.replicate_succ', ih (i + 1) k (by omega) (by omega)]
  unfold copyholdref04_New.f
  obtain ⟨k, rfl⟩ : ∃ j, k = j + 1 := ⟨k - 1, by omega⟩
  have hz : fillS ⟨#[]⟩ = zeroS := nil_app _
  rw [if_neg (by omega), copyholdref04_New.j0, if_neg (by simp; omega), bs (filled_eq ⟨#[]⟩ (by decide) k (by omega)), hz]
  exact go m 0 k (by omega) (by omega)
theorem fillS_size (s : ByteArray) (h : s.size ≤ 64) : (fillS s).size = 64 := by
  unfold fillS; rw [app_size, nums_size, List.length_replicate]; omega
end Go.Proofs.Ytcbfnfggnocndaa.Pure
end

section
/- Folded numbers in closed form: what octet.Fold and octet.Unfold come to. -/
set_option linter.unusedVariables false
set_option linter.unusedSimpArgs false
namespace Go.Proofs.Ytcbfnfggnocndaa
open Go.RowKit Go.Proofs.YtcbfnfggnocndaaW.PrintWords Go.Proofs.YtcbfnfggnocndaaW.PrintLast Go.Proofs.YtcbfnfggnocndaaW.PrintMore Math

end Go.Proofs.Ytcbfnfggnocndaa
end

section
/- The reference's functions of layer 1, in closed form (at the seats of the layers above). -/
set_option linter.unusedVariables false
set_option linter.unusedSimpArgs false
namespace Go.Proofs.Ytcbfnfggnocndaa
open Go.RowKit Go.Proofs.Ytcbfnfggnocndaa.Q Go.Proofs.YtcbfnfggnocndaaW.PrintWords Go.Proofs.YtcbfnfggnocndaaW.PrintLast Go.Proofs.YtcbfnfggnocndaaW.PrintMore Math

end Go.Proofs.Ytcbfnfggnocndaa
end

section
/- The reference's ways to take numbers, texts and lists come to the same closed forms. -/
set_option linter.unusedVariables false
set_option linter.unusedSimpArgs false
namespace Go.Proofs.Ytcbfnfggnocndaa
open Go.RowKit Go.Proofs.Ytcbfnfggnocndaa.Q Go.Proofs.YtcbfnfggnocndaaW.PrintWords Go.Proofs.YtcbfnfggnocndaaW.PrintLast Go.Proofs.YtcbfnfggnocndaaW.PrintMore Math

end Go.Proofs.Ytcbfnfggnocndaa
end

section
/- What the reference of layer 2 comes to, in closed form (at the seats of the layers above). -/
set_option linter.unusedVariables false
set_option linter.unusedSimpArgs false
namespace Go.Proofs.Ytcbfnfggnocndaa
open Go.RowKit Go.Proofs.Ytcbfnfggnocndaa.Q Go.Proofs.YtcbfnfggnocndaaW.PrintWords Go.Proofs.YtcbfnfggnocndaaW.PrintLast Math

end Go.Proofs.Ytcbfnfggnocndaa
end

section
/- Layer 5, pure: the document's answers come to the plain ones. -/
set_option linter.unusedVariables false
set_option linter.unusedSimpArgs false
namespace Go.Proofs.Ytcbfnfggnocndaa.Pure
open Go.RowKit Go.Lib Go.Proofs.Ytcbfnfggnocndaa Go.Proofs.Ytcbfnfggnocndaa.Q Go.Proofs.YtcbfnfggnocndaaW.PrintWords Go.Proofs.YtcbfnfggnocndaaW.PrintMore Math

theorem need66 {s : ByteArray} (h : s.size ≤ 4096) : needN s ≤ 65 := by
  have := recS_size 0 s
  have h2 : (numS s.size).size ≤ 2 := by
    have := numS_size10 (show s.size < 18446744073709551616 by omega)
    rw [sz, numS_dl]
    by_cases h1 : s.size < 128
    · rw [numB_lo (by omega)]; show 1 ≤ 2; omega
    · rw [numB_hi (by omega), numB_lo (by omega)]; show 2 ≤ 2; omega
  unfold needN; omega
/-- A ring of a disk. -/
theorem ring_get {l0 : List ByteArray} {l1 : List S88} {fr mn : Nat} (h : fr + mn ≤ l0.length) (i : Nat) (hi : i < mn) : (ringL l0 l1 fr mn).getD i ⟨#[]⟩ = (imgL l0 l1).getD (fr + i) ⟨#[]⟩ := by
  unfold ringL
  rw [doneL_all _ _ _ (fun _ _ => rfl), List.getD_eq_getElem?_getD, List.getElem?_take, if_pos hi, List.getElem?_drop, ← List.getD_eq_getElem?_getD]
theorem ring_sec {l0 : List ByteArray} {l1 : List S88} (h : Rt l0 l1) (fr mn : Nat) : ∀ s ∈ ringL l0 l1 fr mn, s.size = 64 := fun s hs => by
  unfold ringL at hs
  exact h.img _ s (List.mem_of_mem_drop (List.mem_of_mem_take hs))
end Go.Proofs.Ytcbfnfggnocndaa.Pure
end
