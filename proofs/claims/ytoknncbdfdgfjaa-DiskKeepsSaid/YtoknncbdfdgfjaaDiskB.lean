/- Layer 4, walked: the sectors with some writes done. -/
import Derived.Test.YtoknncbdfdgfjaaDiskA
import Derived.Deep.QuietTactic
import Derived.BigQuiet
set_option linter.unusedVariables false
set_option linter.unusedSimpArgs false
namespace Go.Proofs.Ytoknncbdfdgfjaa.Q
open Go.RowKit Go.Shelf Go.Proofs.YtoknncbdfdgfjaaW.PrintWords
attribute [local go_sem] Oper.semAt_some

def imgL (l : List ByteArray) (ps : List S31) : List ByteArray := ps.foldl (fun l p => l.set p.f0.toNat p.f1) l
theorem imgL_len (ps : List S31) : ∀ l : List ByteArray, (imgL l ps).length = l.length := by
  induction ps with
  | nil => intro l; rfl
  | cons p ps ih => intro l; show (imgL (l.set _ _) ps).length = _; rw [ih]; simp
theorem imgL_snoc (l : List ByteArray) (ps : List S31) (x : S31) : imgL l (ps ++ [x]) = (imgL l ps).set x.f0.toNat x.f1 := by simp [imgL]
def doneL (l0 : List ByteArray) (ps : List S31) (is : Nat → Bool) : List ByteArray := imgL l0 (chosenL is ps ps.length)
theorem kPut_heap : Kd.Heap k31 := Kd.heap_iso _ (Kd.heap_pair (Kd.heap_int .i64) Kd.heap_string)
/-- What is handed on, told to lie among the sectors. -/
abbrev PutIn (N : Nat) : Type := { x : S31 // 0 ≤ x.f0 ∧ x.f0 < (N : Int) }
theorem ownFrom_heap {β : Type} (B b : Nat) (t : TypeId) (f : β → Array Value) : OwnFrom B (fun s W => W.heap[b]? = some (.cells (f s) t (0, 0))) := fun s X Y row hs hg hrow =>
  blk_grown hs hg (fun e' => by obtain ⟨_, o, ho, hc⟩ := hrow b e'.symm; rw [hs] at ho; cases ho; cases hc)
set_option maxHeartbeats 1000000 in
theorem chosen_calls (d fv : Value) (a b c : Value) (hd : d = .agg #[a, b, c]) (ha : a.oneCell' = true) (hb : b.oneCell' = true) (hc : c.oneCell' = true) (hf : fv.oneCell' = true) (w : World) :
    Calls Try.prog 40 #[d, fv] w fun e w' => e = .returned (.func (.func 47) #[] #[.pointer (some ⟨w.heap.size, 0, none⟩), .pointer (some ⟨w.heap.size + 1, 0, none⟩)]) ∧
      w' = (w.alloc (.cells #[a, b, c] 25)).alloc (.cells #[fv] 63) := by
  subst hd
  go_enter Try.func40, Try.ntmps40
  go_wp2
  go_ret
  exact ⟨rfl, rfl⟩
theorem info_str : (Try.prog.info? 9).map (fun i => (i.zero, i.size, i.bytes)) = some (some (.string ⟨#[]⟩), 1, 16) := by kernel_rfl
theorem info_str1 : (Try.prog.info? 9).map (·.size) = some 1 := by kernel_rfl
set_option maxRecDepth 100000 in
set_option maxHeartbeats 4000000 in
theorem done_calls (l0 : List ByteArray) (ps : List S31) (A0 A1 : Option Addr) (c0 c1 : Nat) (off : Bool) (g : FuncId) (lb : Array Value) (is : Nat → Bool) (w : World) (hn : 0 < l0.length) (hn2 : l0.length ≤ 1000000000) (hlen : ps.length ≤ 1000000000)
    (hr0 : Kd.C Kd.string w A0 l0.length l0) (hr1 : Kd.C k31 w A1 ps.length ps) (hAt : ∀ p ∈ ps, 0 ≤ p.f0 ∧ p.f0 < l0.length)
    (eg : ∀ args W, (callFunc g args).run Try.prog W = .ok (.enter g args) W)
    (hIs : ∀ W, KeepX w.heap.size w.heap.size w W → ∀ k : Nat, k < ps.length → Calls Try.prog g (#[.int .i64 k] ++ lb) W fun e w' => e = .returned (.bool (is k)) ∧ Drawn0 W w') :
    Calls Try.prog 29 #[.agg #[.slice A0 l0.length c0, .slice A1 ps.length c1, .bool off], .func (.func g) #[] lb] w fun e w' =>
      ∃ v, e = .returned v ∧ Kd.R Kd.string 9 w' w.heap.size (fun _ => True) v (doneL l0 ps is) ∧ Below w.heap.size w w' := by
  obtain ⟨W1, hW1⟩ : ∃ W1, W1 = w.alloc (.cells #[.slice A0 l0.length c0, .slice A1 ps.length c1, .bool off] 25) := ⟨_, rfl⟩
  have hmk := print_make_of (P := Try.prog) 22 9 (.string ⟨#[]⟩) 16 Try.underlying22 info_str rfl (by decide) l0.length (by omega)
  obtain ⟨W3, hW3⟩ : ∃ W3, W3 = (W1.alloc (.cells (madeCells #[.string ⟨#[]⟩] l0.length) 9)).alloc (.cells #[.slice (some ⟨w.heap.size + 1, 0, none⟩) l0.length l0.length] 22) := ⟨_, rfl⟩
  obtain ⟨ad, rfl⟩ : ∃ ad, A0 = some ad := by obtain ⟨ad, h, _⟩ := Kd.at_string hr0 0 (by omega) (by omega); exact ⟨ad, h⟩
  have z1 : W1.heap.size = w.heap.size + 1 := by rw [hW1]; simp
  have z3 : W3.heap.size = w.heap.size + 3 := by rw [hW3]; simp [z1]
  have hB3 : Below w.heap.size w W3 := by
    rw [hW3, hW1]
    exact (((Below.refl _ w).alloc (Nat.le_refl _) _).alloc (by simp) _).alloc (by simp; omega) _
  have hrow3 : W3.heap[w.heap.size + 1]? = some (.cells (madeCells #[.string ⟨#[]⟩] l0.length) 9 (0, 0)) := by
    rw [hW3, ← z1]; exact (heap_alloc_old _ _ (by simp)).trans (heap_alloc_new _ _)
  obtain ⟨W4, hW4⟩ : ∃ W4, W4 = W3.setCells (w.heap.size + 1) 0 (l0.map Value.string) := ⟨_, rfl⟩
  have hcp : (Builtin.copy_ #[22, 22] 3 #[.slice (some ⟨w.heap.size + 1, 0, none⟩) l0.length l0.length, .slice (some ad) l0.length c0]).run Try.prog W3 = .ok (.int .i64 l0.length) W4 := by
    have h3 := Kd.C_below hr0 hB3
    have h := run_copy_cells (P := Try.prog) W3 22 22 3 9 (w.heap.size + 1) 0 l0.length l0.length ad l0.length c0 (l0.map Value.string) Try.underlying22 info_str1 (by simp [Nat.min_def])
      (fun j v hj => by
        rw [List.getElem?_map] at hj
        cases hjj : l0[j]? with
        | none => rw [hjj] at hj; cases hj
        | some x =>
          rw [hjj] at hj
          obtain rfl : Value.string x = v := by simpa using hj
          obtain ⟨hl, hx⟩ := List.getElem?_eq_some_iff.1 hjj
          obtain ⟨ad', he, hc⟩ := Kd.at_string h3 (j : Int) (by omega) (by omega)
          obtain rfl : ad = ad' := Option.some.inj he
          rw [Int.toNat_natCast] at hc
          rw [hc, rdOf, Int.toNat_natCast, List.getD_eq_getElem?_getD, hjj]; rfl)
      (fun j hj => by rw [blk_cell hrow3, Array.getElem?_eq_getElem (by rw [size_madeCells]; simpa using hj)]; rfl)
      (fun j hj => blk_frozen hrow3 _) (fun v hv => by obtain ⟨x, _, rfl⟩ := List.mem_map.1 hv; rfl)
    rw [List.length_map] at h
    rw [hW4]
    exact h
  have HR0 := Lib.hid hr0; have HR1 := Lib.hid hr1; have HAT := Lib.hid hAt; have HIS := Lib.hid hIs
  clear hr0 hr1 hAt hIs
  -- what W4 holds
  have z4 : W4.heap.size = w.heap.size + 3 := by rw [hW4]; exact (setCells_same _ _ _ _).2.2.2.trans z3
  have hB4 : Below w.heap.size w W4 := by
    have hs := setCells_same (w.heap.size + 1) (l0.map Value.string) 0 W3
    refine ⟨?_, ?_, ?_, by omega, fun k hk => ?_⟩
    · rw [hW4, hs.1]; exact hB3.os
    · rw [hW4, hs.2.1]; exact hB3.tape
    · rw [hW4, hs.2.2.1]; exact hB3.output
    · rw [hW4, setCells_far _ _ _ (by omega)]; exact hB3.block k hk
  have hd4 : W4.heap[w.heap.size]? = some (.cells #[.slice (some ad) l0.length c0, .slice A1 ps.length c1, .bool off] 25 (0, 0)) := by
    rw [hW4, setCells_far _ _ _ (by omega), hW3]
    refine (heap_alloc_old _ _ (by simp; omega)).trans ((heap_alloc_old _ _ (by omega)).trans ?_)
    rw [hW1]; exact heap_alloc_new _ _
  have ho4 : Boxed W4 (w.heap.size + 1 + 1) 22 (.slice (some ⟨w.heap.size + 1, 0, none⟩) l0.length l0.length) := by
    show W4.heap[w.heap.size + 1 + 1]? = _
    rw [hW4, setCells_far _ _ _ (by omega), hW3]
    have h := heap_alloc_new (W1.alloc (.cells (madeCells #[.string ⟨#[]⟩] l0.length) 9)) (.cells #[.slice (some ⟨w.heap.size + 1, 0, none⟩) l0.length l0.length] 22)
    rw [show (W1.alloc (.cells (madeCells #[.string ⟨#[]⟩] l0.length) 9)).heap.size = w.heap.size + 1 + 1 by simp [z1]] at h
    exact h
  have hrow4 : W4.heap[w.heap.size + 1]? = some (.cells (l0.map Value.string).toArray 9 (0, 0)) := by
    rw [hW4]
    obtain ⟨cur, h1, h2, h3⟩ := setCells_row (l0.map Value.string) 0 W3 _ hrow3 (by rw [size_madeCells]; simp)
    rw [h1]
    congr 2
    apply Array.toList_inj.1
    rw [h3, List.take_zero, List.nil_append, List.drop_of_length_le (by simp [size_madeCells]), List.append_nil]
  rw [hW3, hW1] at hcp
  have HW1 := Lib.hid hW1; have HW3 := Lib.hid hW3; have HW4 := Lib.hid hW4; have HROW3 := Lib.hid hrow3; have HB3 := Lib.hid hB3
  clear hW1 hW3 hW4 hrow3 hB3 z3 z1
  have e0 := blk_cell hd4 0; have e1 := blk_cell hd4 1; have e2 := blk_cell hd4 2
  simp only [List.getElem?_toArray, List.getElem?_cons_zero, List.getElem?_cons_succ] at e0 e1 e2
  have HD4 := Lib.hid hd4; have HO4 := Lib.hid ho4; have HROW4 := Lib.hid hrow4; have HB4 := Lib.hid hB4; have HZ4 := Lib.hid z4
  clear hd4 ho4 hrow4 hB4
  refine (callsIn_wide (n := 6)).1 ?_
  refine callsIn_of_wp_marks Try.func29 rfl trivial ?_ rfl
  simp only [Try.ntmps29, List.size_toArray, List.length_cons, List.length_nil, Nat.reduceAdd, Nat.reduceSub, Array.replicate_succ, Array.replicate_zero, List.push_toArray, List.append_toArray, List.nil_append, List.cons_append]
  gi_wp2_with fail
  refine ⟨trivial, (callsIn_wide.2 (chosen_calls _ _ _ _ _ rfl rfl rfl rfl rfl W4)).mono ?_⟩
  rintro e w5 ⟨rfl, hw5⟩
  have z5 : w5.heap.size = w.heap.size + 5 := by rw [hw5]; simp [z4]
  have k5 : KeepX W4.heap.size (w.heap.size + 1) W4 w5 := by rw [hw5]; exact (KeepX.alloc _ _ (Nat.le_refl _)).trans (KeepX.alloc _ _ (by simp))
  have hB5 : Below w.heap.size w w5 := by rw [hw5]; exact (HB4.out.alloc HB4.out.size _).alloc (by have := HB4.out.size; simp; omega) _
  have hr5 : w5.heap[w.heap.size + 1]? = some (.cells (l0.map Value.string).toArray 9 (0, 0)) := by
    rw [hw5]; exact (heap_alloc_old _ _ (by simp only [World.size_alloc]; omega)).trans ((heap_alloc_old _ _ (by omega)).trans HROW4.out)
  have ho5 : Boxed w5 (w.heap.size + 1 + 1) 22 (.slice (some ⟨w.heap.size + 1, 0, none⟩) l0.length l0.length) := by
    rw [hw5]; exact (HO4.out.alloc _).alloc _
  have hd5 : w5.heap[W4.heap.size]? = some (.cells #[.slice (some ad) l0.length c0, .slice A1 ps.length c1, .bool off] 25 (0, 0)) := by
    rw [hw5]; exact (heap_alloc_old _ _ (by simp)).trans (heap_alloc_new _ _)
  have hf5 : w5.heap[W4.heap.size + 1]? = some (.cells #[.func (.func g) #[] lb] 63 (0, 0)) := by
    rw [hw5]
    have h := heap_alloc_new (W4.alloc (.cells #[.slice (some ad) l0.length c0, .slice A1 ps.length c1, .bool off] 25)) (.cells #[.func (.func g) #[] lb] 63)
    rw [show (W4.alloc (.cells #[.slice (some ad) l0.length c0, .slice A1 ps.length c1, .bool off] 25)).heap.size = W4.heap.size + 1 by simp] at h
    exact h
  obtain ⟨qs, hqs⟩ : ∃ qs : List (PutIn l0.length), ps = qs.map (·.1) := ⟨ps.attach.map fun x => ⟨x.1, HAT.out x.1 x.2⟩, by
    rw [List.map_map]
    exact (List.attach_map_subtype_val ps).symm⟩
  have hkk : ∀ W, KeepX w5.heap.size (w.heap.size + 1) w5 W → KeepX w.heap.size w.heap.size w W := fun W hW =>
    ⟨Nat.le_trans hB5.size hW.1, fun b hb _ => (hW.2 b (by omega) (by omega)).trans (hB5.block b hb)⟩
  have hCC : ∀ W, KeepX w5.heap.size (w.heap.size + 1) w5 W → Kd.C k31 W A1 ps.length ps := fun W hW =>
    Kd.F_now (Kd.F_step (Kd.C_F kPut_heap HR1.out) (fun k hk _ => (hkk W hW).2 k hk (by omega)))
  have HR5 := Lib.hid hr5; have HO5 := Lib.hid ho5; have HB5 := Lib.hid hB5
  clear hr5 ho5 hB5
  have HK5 := Lib.hid k5; have HD5 := Lib.hid hd5; have HF5 := Lib.hid hf5; have HKK := Lib.hid hkk; have HCC := Lib.hid hCC; have HQS := Lib.hid hqs; have HW5 := Lib.hid hw5
  rw [z4] at hd5 hf5
  clear HD5 HF5
  have HD5 := Lib.hid hd5; have HF5 := Lib.hid hf5
  clear k5 hd5 hf5 hkk hCC hqs hw5 e0 e1 e2 hcp
  gi_wp2_with fail
  refine wpIn_rangeFunc_ownH rfl (by omega) (gf := 47) (lb := #[.pointer (some ⟨w.heap.size + 3, 0, none⟩), .pointer (some ⟨w.heap.size + 3 + 1, 0, none⟩)]) rfl trivial (enters_of Try.func47 (by kernel_rfl) rfl)
    (encs := fun x : PutIn l0.length => #[.agg #[.int .i64 x.1.f0, .string x.1.f1]]) (Kp := KeepX w5.heap.size (w.heap.size + 1)) (S := fun ys => ys = chosenL is qs ps.length) (Sp := fun pre => ∃ k, k ≤ ps.length ∧ pre = chosenL is qs k) (N := ps.length) (w0 := w5)
    (fun l J Jx W hW hJ hJx hY h0 => chosen1_in (fun x : PutIn l0.length => x.1) qs 5 (by omega) l (w.heap.size + 3) (w.heap.size + 3 + 1) w5.heap.size (w.heap.size + 1) g lb ps HQS.out A1 c1 is w5 (Nat.le_refl _) eg (by omega)
      (fun W hW => by rw [hW.cell (by omega) (by omega), blk_cell HD5.out]; rfl) (fun W hW => by rw [hW.cell (by omega) (by omega), blk_cell HF5.out]; rfl) HCC.out
      (fun W hW k hk => HIS.out W (HKK.out W hW) k hk) J Jx W (KeepX.below hW (Nat.le_refl _)) hJ hJx hY h0)
    (fun h k => KeepX.trans h k) (fun W l o o' hl ho _ _ => KeepX.put W l o o' hl ho) (Below.refl _ _) (fun _ => rfl)
    (fun pre W => W.heap[w.heap.size + 1]? = some (.cells ((imgL l0 (pre.map (·.1))).map Value.string).toArray 9 (0, 0)) ∧ (Boxed W (w.heap.size + 1 + 1) 22 (.slice (some ⟨w.heap.size + 1, 0, none⟩) l0.length l0.length) ∧ (Below w.heap.size w W ∧ w5.heap.size ≤ W.heap.size)))
    (fun _ _ _ => False)
    (OwnFrom.and (ownFrom_heap _ _ _ (fun (pre : List (PutIn l0.length)) => ((imgL l0 (pre.map (·.1))).map Value.string).toArray)) (OwnFrom.and (Own.from (boxed_own _ _ (fun _ => _)) _) (OwnFrom.and (ownFrom_below (Nat.le_refl _) (by omega)) (fun _ _ _ _ hs hg _ => Nat.le_trans hs hg.size))))
    (fun _ _ _ _ _ hs _ _ => hs)
    ⟨HR5.out, HO5.out, HB5.out, Nat.le_refl _⟩
    (fun x a' W => ∃ Bx, w5.heap.size ≤ Bx ∧ W.heap[Bx]? = some (.cells #[.int .i64 x.1.f0, .string x.1.f1] 31 (0, 0)) ∧ a' = { tmps := #[.agg #[.slice (some ad) l0.length c0, .slice A1 ps.length c1, .bool off], .func (.func g) #[] lb, .pointer (some ⟨w.heap.size, 0, none⟩), undef, .slice none 0 0, .pointer (some ⟨w.heap.size + 1 + 1, 0, none⟩), .pointer (some ⟨Bx, 0, none⟩), .pointer (some ⟨w.heap.size, 0, none⟩), .slice (some ad) l0.length c0, .int .i64 l0.length, .slice (some ⟨w.heap.size + 1, 0, none⟩) l0.length l0.length, .slice (some ⟨w.heap.size + 1, 0, none⟩) l0.length l0.length, .pointer (some ⟨w.heap.size, 0, none⟩), .slice (some ad) l0.length c0, .int .i64 l0.length, .agg #[.slice (some ad) l0.length c0, .slice A1 ps.length c1, .bool off], .func (.func g) #[] lb, .func (.func 47) #[] #[.pointer (some ⟨w.heap.size + 3, 0, none⟩), .pointer (some ⟨w.heap.size + 3 + 1, 0, none⟩)], .agg #[.int .i64 x.1.f0, .string x.1.f1], undef, undef, undef, undef, undef, undef, undef], defers := [] })
    (fun x a' _ X Y row hs hg hrow => by obtain ⟨Bx, h1, h2, h3⟩ := hs; exact ⟨Bx, h1, ownFrom_heap w5.heap.size Bx _ (fun _ : Unit => _) () X Y row h2 hg hrow, h3⟩) ?assign ?body ?done ?stop
  case assign =>
    rintro l pre x W K hi hK
    gi_wp2_with fail
    exact hK _ _ ((KeepsOthers.alloc _ _).from _) (KeepX.alloc _ _ hi.2.2.2) ⟨(heap_alloc_old _ _ (blk_lt hi.1)).trans hi.1, hi.2.1.alloc _, hi.2.2.1.alloc hi.2.2.1.size _, by have := hi.2.2.2; simp; omega⟩ ⟨W.heap.size, hi.2.2.2, heap_alloc_new _ _, rfl⟩
  case body =>
    rintro l pre x a' W hl hr ⟨hrow, hbox, hB, hsz⟩ ⟨Bx, hBx, hx, rfl⟩ hlt
    have hc := hbox.cell
    have x0 := blk_cell hx 0; have x1 := blk_cell hx 1
    simp only [List.getElem?_toArray, List.getElem?_cons_zero, List.getElem?_cons_succ] at x0 x1
    have hi0 : (0 : Int) ≤ x.1.f0 := x.2.1
    have hi1 : x.1.f0 < (l0.length : Int) := x.2.2
    have hlen2 : (imgL l0 (pre.map (·.1))).length = l0.length := imgL_len _ _
    obtain ⟨v, hv⟩ : ∃ v, W.cell? ⟨w.heap.size + 1, x.1.f0.toNat, none⟩ = some v := by
      rw [blk_cell hrow]
      exact ⟨_, Array.getElem?_eq_getElem (by rw [List.size_toArray, List.length_map, hlen2]; omega)⟩
    have hfz := blk_frozen hrow x.1.f0.toNat
    have HROW := Lib.hid hrow; have HBOX := Lib.hid hbox; have HB := Lib.hid hB; have HL2 := Lib.hid hlen2; have HX := Lib.hid hx
    clear hrow hbox hB hlen2 hx
    gi_wp2_with fail
    refine ⟨(KeepsOthers.setCell _ _ _).from _, KeepX.set _ _ _, ?_, blk_far HBOX.out (by simp) _, HB.out.setCell (p := ⟨w.heap.size + 1, x.1.f0.toNat, none⟩) (by simp) _, by simpa using hsz⟩
    rw [blk_set HROW.out, List.map_append, List.map_cons, List.map_nil, imgL_snoc, List.map_set, List.setIfInBounds_toArray]
  case done =>
    rintro D ys W hD rfl ⟨hrow, hbox, hB, hsz⟩ hK
    have hc := hbox.cell
    gi_wp2
    refine ⟨by simp, .inl ⟨_, _, rfl, run_takeDeferred hK, ?_⟩⟩
    have he : (imgL l0 ((chosenL is qs ps.length).map (·.1))) = doneL l0 ps is := by
      unfold doneL
      rw [← chosenL_map, ← HQS.out]
    have hlen3 : (doneL l0 ps is).length = l0.length := imgL_len _ _
    refine ⟨_, results_tmp rfl _ _ _, _, rfl, Kd.R_of_own ?_ (fun _ _ => trivial), hB.trans (belowK_b (w := w) (Nat.le_refl _) W D _ _ (by omega) hK rfl rfl)⟩
    refine ownsRow_putObj ?_ _ hK rfl
    rw [he] at hrow
    rw [hlen3]
    exact ⟨by simp [encs, hlen3], .inr ⟨_, _, _, rfl, by omega, hrow, Nat.le_refl _, by unfold maxLen; omega, by simp [hlen3], by rw [Nat.mul_one, List.toList_toArray, List.take_of_length_le (by simp [hlen3])]; rfl⟩⟩
  case stop =>
    rintro D c pre W _ _ h _
    exact h.elim
/-- All writes may be done, and no memory runs out. -/
def DiskOk (l0 : List ByteArray) (ps : List S31) : Prop := 0 < l0.length ∧ l0.length ≤ 1000000000 ∧ ps.length ≤ 1000000000 ∧ ∀ p ∈ ps, 0 ≤ p.f0 ∧ p.f0 < (l0.length : Int)
instance (l0 : List ByteArray) (ps : List S31) : Decidable (DiskOk l0 ps) := by unfold DiskOk; exact inferInstance
def disk_Image.f (l0_0 : List ByteArray) (l0_1 : List S31) (a0_2 : Bool) : Option (List ByteArray) := if DiskOk l0_0 l0_1 then some (doneL l0_0 l0_1 fun _ => true) else none
set_option maxHeartbeats 1000000 in
theorem image1_calls (k : Nat) (w : World) : Calls Try.prog 33 (#[.int .i64 k] ++ #[]) w fun e w' => e = .returned (.bool true) ∧ Drawn0 w w' := by
  go_enter Try.func33, Try.ntmps33
  go_wp2
  go_ret
  exact ⟨rfl, Drawn0.refl _⟩
set_option maxHeartbeats 1000000 in
theorem disk_Image.calls (A0_0 : Option Addr) (c0_0 : Nat) (l0_0 : List ByteArray) (A0_1 : Option Addr) (c0_1 : Nat) (l0_1 : List S31) (a0_2 : Bool) (r : List ByteArray) (w : World) (hr0_0 : Kd.C Kd.string w A0_0 l0_0.length l0_0) (hc0_0 : l0_0.length ≤ c0_0) (hr0_1 : Kd.C k31 w A0_1 l0_1.length l0_1) (hc0_1 : l0_1.length ≤ c0_1) (h : disk_Image.f l0_0 l0_1 a0_2 = some r) :
    Calls Try.prog 19 #[.agg #[.slice A0_0 l0_0.length c0_0, .slice A0_1 l0_1.length c0_1, .bool a0_2]] w fun e w' => ∃ v0_ : Value, e = .returned (v0_) ∧ Kd.R Kd.string 9 w' w.heap.size (fun _ => True) v0_ r ∧ Below w.heap.size w w' := by
  unfold disk_Image.f at h
  split at h
  · rename_i hh
    obtain rfl := Option.some.inj h
    clear h
    have HC := Lib.hid (fun W' (hb : Below w.heap.size w W') => done_calls l0_0 l0_1 A0_0 A0_1 c0_0 c0_1 a0_2 33 #[] (fun _ => true) W' hh.1 hh.2.1 hh.2.2.1 (Kd.C_below hr0_0 hb) (Kd.C_below hr0_1 hb) hh.2.2.2 (enters_of Try.func33 (by kernel_rfl) rfl) (fun W _ k _ => image1_calls k W))
    clear hr0_0 hr0_1 hh
    go_enter Try.func19, Try.ntmps19
    go_wp2_with fail
    refine (HC.out _ ((Below.refl _ _).alloc (Nat.le_refl _) _)).mono ?_
    rintro e w' ⟨v, rfl, hR, hB⟩
    obtain ⟨A, c, rfl⟩ := Kd.R_slice hR
    have HR := Lib.hid hR; have HB := Lib.hid hB
    clear hR hB
    go_wp2_with fail
    go_ret
    exact ⟨_, rfl, Kd.R_lower HR.out (by simp), (Below.refl _ _).trans (((Below.refl _ _).alloc (Nat.le_refl _) _).trans (HB.out.mono (by simp)))⟩
  · cases h
/-- Is a write kept behind a crash? -/
def keptAt (keep : List Bool) (i : Nat) : Bool := keep.getD i false
def disk_Crash.f (l0_0 : List ByteArray) (l0_1 : List S31) (a0_2 : Bool) (l1 : List Bool) : Option (List ByteArray × List S31 × Bool) := if DiskOk l0_0 l0_1 then some (doneL l0_0 l0_1 (keptAt l1), [], false) else none
set_option maxHeartbeats 1000000 in
theorem crash1_calls (keep : List Bool) (A : Option Addr) (c B : Nat) (k : Nat) (hk : k ≤ 1000000000) (w : World) (hb : w.cell? ⟨B, 0, none⟩ = some (.slice A keep.length c)) (hc : Kd.C Kd.bool w A keep.length keep) :
    Calls Try.prog 30 (#[.int .i64 k] ++ #[.pointer (some ⟨B, 0, none⟩)]) w fun e w' => e = .returned (.bool (keptAt keep k)) ∧ Drawn0 w w' := by
  have hm := Kd.C_max hc
  by_cases hlt : k < keep.length
  · have hz : (k : Int) < (keep.length : Int) := by omega
    obtain ⟨ad, rfl, h⟩ := Kd.at_bool hc k (by omega) (by omega)
    rw [Int.toNat_natCast] at h
    have hv : rdOf false keep k = keptAt keep k := rfl
    rw [hv] at h
    go_enter Try.func30, Try.ntmps30
    go_wp2_with fail
    go_ret
    exact ⟨rfl, Drawn0.refl _⟩
  · have hz : ¬ ((k : Int) < (keep.length : Int)) := by omega
    have hd : decide ((k : Int) < (keep.length : Int)) = false := decide_eq_false hz
    have hd2 : decide (k < keep.length) = false := decide_eq_false hlt
    have hv : keptAt keep k = false := by unfold keptAt; rw [List.getD_eq_getElem?_getD, List.getElem?_eq_none (by omega)]; rfl
    rw [hv]
    clear hv
    go_enter Try.func30, Try.ntmps30
    go_wp2_with fail
    go_ret
    exact ⟨rfl, Drawn0.refl _⟩
set_option maxHeartbeats 1000000 in
theorem disk_Crash.calls (A0_0 : Option Addr) (c0_0 : Nat) (l0_0 : List ByteArray) (A0_1 : Option Addr) (c0_1 : Nat) (l0_1 : List S31) (a0_2 : Bool) (A1 : Option Addr) (c1 : Nat) (l1 : List Bool) (r1 : List ByteArray) (r2 : List S31) (r3 : Bool) (w : World) (hr0_0 : Kd.C Kd.string w A0_0 l0_0.length l0_0) (hc0_0 : l0_0.length ≤ c0_0) (hr0_1 : Kd.C k31 w A0_1 l0_1.length l0_1) (hc0_1 : l0_1.length ≤ c0_1) (hr1 : Kd.C Kd.bool w A1 l1.length l1) (hc1 : l1.length ≤ c1) (h : disk_Crash.f l0_0 l0_1 a0_2 l1 = some (r1, r2, r3)) :
    Calls Try.prog 11 #[.agg #[.slice A0_0 l0_0.length c0_0, .slice A0_1 l0_1.length c0_1, .bool a0_2], .slice A1 l1.length c1] w fun e w' => ∃ v0_ v1_ : Value, e = .returned (.agg #[v0_, v1_, .bool r3]) ∧ Kd.R Kd.string 9 w' w.heap.size (fun _ => True) v0_ r1 ∧ Kd.R k31 31 w' w.heap.size (fun _ => True) v1_ r2 ∧ Below w.heap.size w w' := by
  unfold disk_Crash.f at h
  split at h
  · rename_i hh
    have h2 := Option.some.inj h
    simp only [Prod.mk.injEq] at h2
    obtain ⟨rfl, rfl, rfl⟩ := h2
    clear h
    obtain ⟨W3, hW3⟩ : ∃ W3, W3 = ((w.alloc (.cells #[.slice A0_0 l0_0.length c0_0, .slice A0_1 l0_1.length c0_1, .bool a0_2] 25)).alloc (.cells #[.slice A1 l1.length c1] 26)).alloc (.cells #[.slice none 0 0, .slice none 0 0, .bool false] 25) := ⟨_, rfl⟩
    have hB3 : Below w.heap.size w W3 := by rw [hW3]; exact (((Below.refl _ w).alloc (Nat.le_refl _) _).alloc (by rw [World.size_alloc]; omega) _).alloc (by rw [World.size_alloc, World.size_alloc]; omega) _
    have hk3 : W3.cell? ⟨w.heap.size + 1, 0, none⟩ = some (.slice A1 l1.length c1) := by
      have h := heap_alloc_new (w.alloc (.cells #[.slice A0_0 l0_0.length c0_0, .slice A0_1 l0_1.length c0_1, .bool a0_2] 25)) (.cells #[.slice A1 l1.length c1] 26)
      rw [World.size_alloc] at h
      rw [hW3, blk_cell ((heap_alloc_old _ _ (by rw [World.size_alloc, World.size_alloc]; omega)).trans h)]; rfl
    have z3 : W3.heap.size = w.heap.size + 3 := by rw [hW3]; simp
    have HC := Lib.hid (done_calls l0_0 l0_1 A0_0 A0_1 c0_0 c0_1 a0_2 30 #[.pointer (some ⟨w.heap.size + 1, 0, none⟩)] (keptAt l1) W3 hh.1 hh.2.1 hh.2.2.1 (Kd.C_below hr0_0 hB3) (Kd.C_below hr0_1 hB3) hh.2.2.2 (enters_of Try.func30 (by kernel_rfl) rfl)
      (fun W hW k hk => crash1_calls l1 A1 c1 (w.heap.size + 1) k (by have := hh.2.2.1; omega) W (by rw [hW.cell (by omega) (by omega)]; exact hk3)
        (Kd.F_now (Kd.F_step (Kd.C_F Kd.heap_bool (Kd.C_below hr1 hB3)) (fun k hk _ => hW.2 k hk (by omega))))))
    have HB3 := Lib.hid hB3; have HZ3 := Lib.hid z3; have HW3 := Lib.hid hW3
    rw [hW3] at HC
    have hc2 : W3.heap[w.heap.size + 1 + 1]? = some (.cells #[.slice none 0 0, .slice none 0 0, .bool false] 25 (0, 0)) := by
      rw [hW3]
      have h := heap_alloc_new ((w.alloc (.cells #[.slice A0_0 l0_0.length c0_0, .slice A0_1 l0_1.length c0_1, .bool a0_2] 25)).alloc (.cells #[.slice A1 l1.length c1] 26)) (.cells #[.slice none 0 0, .slice none 0 0, .bool false] 25)
      rw [show ((w.alloc (.cells #[.slice A0_0 l0_0.length c0_0, .slice A0_1 l0_1.length c0_1, .bool a0_2] 25)).alloc (.cells #[.slice A1 l1.length c1] 26)).heap.size = w.heap.size + 1 + 1 by simp] at h
      exact h
    have HC2 := Lib.hid hc2
    clear hr0_0 hr0_1 hr1 hh hB3 hk3 z3 hW3 hc2
    go_enter Try.func11, Try.ntmps11
    go_wp2_with fail
    refine HC.out.mono ?_
    rintro e w' ⟨v, rfl, hR, hB⟩
    rw [← HW3.out] at hR hB
    obtain ⟨A, c, rfl⟩ := Kd.R_slice hR
    have hblk := (hB.block (w.heap.size + 1 + 1) (by have := HZ3.out; omega)).trans HC2.out
    have q0 := blk_cell hblk 0; have q1 := blk_cell hblk 1; have q2 := blk_cell hblk 2
    simp only [List.getElem?_toArray, List.getElem?_cons_zero, List.getElem?_cons_succ] at q0 q1 q2
    have f0 := blk_frozen hblk 0; have f1 := blk_frozen hblk 1; have f2 := blk_frozen hblk 2
    have hz' : w.heap.size + 1 + 1 < w'.heap.size := blk_lt hblk
    have HR := Lib.hid hR; have HB := Lib.hid hB; have HBLK := Lib.hid hblk
    clear hR hB hblk
    go_wp2_with fail
    refine bodyPost_ret (v := .agg #[.slice A (doneL l0_0 l0_1 (keptAt l1)).length c, .slice none 0 0, .bool false]) (by simp [results, Try.results11, go_sem, q0, q1, q2]) rfl ⟨_, _, rfl, ?_, Kd.R_nil _ _ _ _ _, ?_⟩
    · have hz3 := HZ3.out
      exact Kd.R_mono (Kd.R_lower (Kd.R_far (Kd.R_far (Kd.R_far (Kd.R_bound HR.out) (fun k hk => by have := hk.2.1; show k ≠ w.heap.size + 1 + 1; omega) _) (fun k hk => by have := hk.2.1; show k ≠ w.heap.size + 1 + 1; omega) _) (fun k hk => by have := hk.2.1; show k ≠ w.heap.size + 1 + 1; omega) _) (by omega)) (fun _ _ => trivial)
    · have hz3 := HZ3.out
      exact (((HB3.out.trans (HB.out.mono (by omega))).setCell (p := ⟨w.heap.size + 1 + 1, 0, none⟩) (show w.heap.size ≤ w.heap.size + 1 + 1 by omega) _).setCell (p := ⟨w.heap.size + 1 + 1, 1, none⟩) (show w.heap.size ≤ w.heap.size + 1 + 1 by omega) _).setCell (p := ⟨w.heap.size + 1 + 1, 2, none⟩) (show w.heap.size ≤ w.heap.size + 1 + 1 by omega) _
  · cases h
end Go.Proofs.Ytoknncbdfdgfjaa.Q
