/- Layer 4, walked: Write. -/
import Derived.Test.YtoknncbdfdgfjaaDiskB
import Derived.Test.YtoknncbdfdgfjaaMath
import Derived.Deep.RegionHeld3
import Derived.Deep.RegionWith
import Derived.Deep.RegionLawGrows
import Derived.Deep.AppendLies
import Derived.IntWalk
set_option linter.unusedVariables false
set_option linter.unusedSimpArgs false
namespace Go.Proofs.Ytoknncbdfdgfjaa.Q
open Go.RowKit Go.Shelf Go.Proofs.YtoknncbdfdgfjaaW.PrintWords Go.Proofs.YtoknncbdfdgfjaaW.PrintLast Go.Proofs.YtoknncbdfdgfjaaW.PrintMore

/-- A text filled up with bytes of 0. -/
def fillS (s : ByteArray) : ByteArray := s ++ strOfNums (List.replicate (64 - s.size) 0)
theorem zeros_calls (n : Nat) (hn : n ≤ 64) (w : World) : Calls Try.prog 31 #[.int .i64 n] w fun e w' => e = .returned (.string (strOfNums (List.replicate n 0))) ∧ Below w.heap.size w w' :=
  T.disk_zeros.calls n _ w (by unfold T.disk_zeros.f; rw [if_pos (by omega), if_pos (by simp; omega)]; simp)
/-- What lies there while the row is made. -/
structure WBox (w : World) (a b c : Value) (W : World) : Prop where
  below : Below w.heap.size w W
  box : W.heap[w.heap.size]? = some (.cells #[a, b, c] 25 (0, 0))
  out : W.heap[w.heap.size + 1]? = some (.cells #[.slice none 0 0, .slice none 0 0, .bool false] 25 (0, 0))
theorem WBox.step {w : World} {a b c : Value} {W V : World} (h : WBox w a b c W) (hb : Below W.heap.size W V) : WBox w a b c V :=
  ⟨h.below.trans (hb.mono h.below.size), (hb.block _ (blk_lt h.box)).trans h.box, (hb.block _ (blk_lt h.out)).trans h.out⟩
theorem WBox.cell {w : World} {a b c : Value} {W : World} (h : WBox w a b c W) : W.cell? ⟨w.heap.size, 1, none⟩ = some b := by rw [blk_cell h.box]; rfl
theorem info_put : (Try.prog.info? 31).map (fun i => (i.zero, i.size, i.bytes)) = some (some (.agg #[.int .i64 0, .string ⟨#[]⟩]), 2, 24) := by kernel_rfl
def flatP (l : List S31) : List Value := (l.map fun x => [Value.int .i64 x.f0, Value.string x.f1]).flatten
theorem flatP_len (l : List S31) : (flatP l).length = l.length * 2 := by
  induction l with
  | nil => rfl
  | cons x l ih => simp only [flatP, List.map_cons, List.flatten_cons, List.length_append, List.length_cons, List.length_nil] at ih ⊢; omega
theorem flatP_at (l : List S31) : ∀ (j : Nat) (hj : j < l.length), (flatP l)[j * 2]? = some (.int .i64 l[j].f0) ∧ (flatP l)[j * 2 + 1]? = some (.string l[j].f1) := by
  induction l with
  | nil => intro j hj; cases hj
  | cons x l ih =>
    intro j hj
    cases j with
    | zero => exact ⟨rfl, rfl⟩
    | succ j =>
      have h := ih j (by simpa using hj)
      have e1 : (j + 1) * 2 = j * 2 + 1 + 1 := by omega
      rw [e1]
      simp only [flatP, List.map_cons, List.flatten_cons, List.cons_append, List.nil_append, List.getElem?_cons_succ, List.getElem_cons_succ] at h ⊢
      exact h
theorem flatP_reads {w : World} {A : Option Addr} {l : List S31} (h : Kd.C k31 w A l.length l) : ∀ b, A = some b → ∀ j u, (flatP l)[j]? = some u → w.cell? (b.add j) = some u := by
  intro b hb j u hj
  have hl : j < l.length * 2 := by rw [← flatP_len]; exact (List.getElem?_eq_some_iff.1 hj).1
  obtain ⟨ad, he, h0, h1⟩ := at_T31 h ((j / 2 : Nat) : Int) (by omega) (by omega)
  rw [hb] at he
  obtain rfl := Option.some.inj he
  rw [Int.toNat_natCast] at h0 h1
  have hd := flatP_at l (j / 2) (by omega)
  have hrd : rd_T31 l ((j / 2 : Nat) : Int) = l[j / 2]'(by omega) := by
    show l.getD (j / 2) _ = _
    rw [List.getD_eq_getElem?_getD, List.getElem?_eq_getElem (by omega)]; rfl
  rw [hrd] at h0 h1
  rcases Nat.mod_two_eq_zero_or_one j with hm | hm
  · have e : j = j / 2 * 2 := by omega
    rw [e] at hj ⊢
    rw [hd.1] at hj
    rw [← hj]
    have : j / 2 * 2 / 2 = j / 2 := by omega
    simpa [this] using h0
  · have e : j = j / 2 * 2 + 1 := by omega
    rw [e] at hj ⊢
    rw [hd.2] at hj
    rw [← hj]
    have : (j / 2 * 2 + 1) / 2 = j / 2 := by omega
    rw [← add_field _ _ 1 (by omega)] at h1
    simpa [this] using h1
/-- A row of writes that the call owns. -/
theorem R_of_rows {w : World} {base : Nat} {v : Value} {xs : List S31} (h : w.ownsRow base 31 2 v xs.length (flatP xs)) : Kd.R k31 31 w base (fun k => base ≤ k) v xs := by
  refine ⟨fun k hk => own_base h k hk, flatP xs, h, flatP_len xs, fun j p hj => ?_⟩
  obtain ⟨hl, hp⟩ := List.getElem?_eq_some_iff.1 hj
  have h2 := flatP_at xs j hl
  rw [hp] at h2
  have e : ((flatP xs).drop (j * 2)).take 2 = [.int .i64 p.f0, .string p.f1] := by
    apply List.ext_getElem?
    intro i
    rw [List.getElem?_take, List.getElem?_drop]
    match i with
    | 0 => exact h2.1
    | 1 => exact h2.2
    | i + 2 => rw [if_neg (by omega)]; rfl
  show k31.M w base _ p (((flatP xs).drop (j * 2)).take 2)
  rw [e]
  exact k31_mkM _ _ _ p
set_option maxRecDepth 100000 in
set_option maxHeartbeats 4000000 in
theorem write_good (A0_0 : Option Addr) (c0_0 n0 : Nat) (A0_1 : Option Addr) (c0_1 : Nat) (l0_1 : List S31) (at_ : Int) (s : ByteArray) (w : World) (h0 : 0 ≤ at_) (h1 : at_ < n0) (hs : s.size ≤ 64) (hn0 : n0 ≤ 9223372036854775807) (hl : l0_1.length ≤ 1000000000) (hc : l0_1.length ≤ c0_1)
    (hr : Kd.C k31 w A0_1 l0_1.length l0_1) :
    Calls Try.prog 12 #[.agg #[.slice A0_0 n0 c0_0, .slice A0_1 l0_1.length c0_1, .bool false], .int .i64 at_, .string s] w fun e w' => ∃ v1_ : Value, e = .returned (.tuple #[.agg #[.slice A0_0 n0 c0_0, v1_, .bool false], .int .i64 0]) ∧
      Kd.R k31 31 w' w.heap.size (fun _ => True) v1_ (l0_1 ++ [⟨at_, fillS s⟩]) ∧ Below w.heap.size w w' := by
  have HR := Lib.hid hr
  clear hr
  have hd1 : decide (at_ < 0) = false := decide_eq_false (by omega)
  have hd2 : decide ((n0 : Int) ≤ at_) = false := decide_eq_false (by omega)
  have hd3 : decide (64 < s.size) = false := decide_eq_false (by omega)
  have hsz : (64 : Int) - (s.size : Int) = ((64 - s.size : Nat) : Int) := by omega
  have hwr : IntKind.i64.wrap (((64 - s.size : Nat)) : Int) = ((64 - s.size : Nat) : Int) := IntWalk.i64_in _ (by omega)
  obtain ⟨i0, hi0, hz0, hz1, hz2⟩ := info_parts info_put
  have hzc := fun W => zeros_calls (64 - s.size) (by omega) W
  have hss : s.size + (strOfNums (List.replicate (64 - s.size) 0)).size ≤ 9223372036854775807 := by rw [Math.nums_size, List.length_replicate]; omega
  have hfill : fillS s = s ++ strOfNums (List.replicate (64 - s.size) 0) := rfl
  generalize strOfNums (List.replicate (64 - s.size) 0) = Z at *
  have hss2 : ¬ (9223372036854775807 < s.size + Z.size) := by omega
  have HZC := Lib.hid hzc
  have HN := Lib.hid (show A0_1 = none → l0_1.length = 0 ∧ l0_1.length = 0 from fun e => by
    subst e
    by_cases h : 0 < l0_1.length
    · obtain ⟨_, h, _⟩ := HR.out.2.2 h; cases h
    · omega)
  clear hzc
  rw [hfill]
  clear hfill
  go_enter Try.func12, Try.ntmps12
  go_wp2_with fail
  have HB0 : Hid (WBox w (.slice A0_0 n0 c0_0) (.slice A0_1 l0_1.length c0_1) (.bool false) ((w.alloc (.cells #[.slice A0_0 n0 c0_0, .slice A0_1 l0_1.length c0_1, .bool false] 25)).alloc (.cells #[.slice none 0 0, .slice none 0 0, .bool false] 25)).drew) := by
    refine Lib.hid ⟨below_drew (((Below.refl _ w).alloc (Nat.le_refl _) _).alloc (by rw [World.size_alloc]; omega) _), ?_, ?_⟩
    · exact (heap_alloc_old _ _ (by rw [World.size_alloc]; omega)).trans (heap_alloc_new _ _)
    · have h := heap_alloc_new (w.alloc (.cells #[.slice A0_0 n0 c0_0, .slice A0_1 l0_1.length c0_1, .bool false] 25)) (.cells #[.slice none 0 0, .slice none 0 0, .bool false] 25)
      rw [World.size_alloc] at h
      exact h
  refine start_ (n := 21) (S := fun w' => w'.cell? ⟨w.heap.size, 1, none⟩ = some (.slice A0_1 l0_1.length c0_1)) (ds := [20]) #[false, false, false, false, false, false, false, false, false, false, false, false, false, false, false, false, false, false, false, false, false] (by kernel_rfl) rfl rfl (HB0.out.cell) (fun hHeld => ?_)
  refine pure_ (i := 0) (N := some 29) (v := ?_) (a' := ?_) #[true, false, false, false, false, false, false, false, false, false, false, false, false, false, false, false, false, false, false, false, false] rfl rfl (by kernel_rfl) (fun _ _ _ h => h) (Or.inl ⟨by rfl, ?_⟩) ?_ ?_
  rotate_left
  · intro w'
    go_simp
    with_reducible rfl
  rotate_left
  · simp only [Act.put, List.setIfInBounds_toArray, List.set_cons_zero, List.set_cons_succ, i64_w, i32_w]
    rfl
  refine pure_ (i := 2) (N := some 31) (v := ?_) (a' := ?_) #[true, false, true, false, false, false, false, false, false, false, false, false, false, false, false, false, false, false, false, false, false] rfl rfl (by kernel_rfl) (fun _ _ _ h => h) (Or.inl ⟨by rfl, ?_⟩) ?_ ?_
  rotate_left
  · intro w'
    go_simp
    with_reducible rfl
  rotate_left
  · simp only [Act.put, List.setIfInBounds_toArray, List.set_cons_zero, List.set_cons_succ, i64_w, i32_w]
    rfl
  refine pure_ (i := 5) (N := some 34) (v := ?_) (a' := ?_) #[true, false, true, false, false, true, false, false, false, false, false, false, false, false, false, false, false, false, false, false, false] rfl rfl (by kernel_rfl) (fun _ _ _ h => h) (Or.inl ⟨by rfl, ?_⟩) ?_ ?_
  rotate_left
  · intro w'
    go_simp
    with_reducible rfl
  rotate_left
  · simp only [Act.put, List.setIfInBounds_toArray, List.set_cons_zero, List.set_cons_succ, i64_w, i32_w]
    rfl
  refine pure_ (i := 9) (N := some 38) (v := ?_) (a' := ?_) #[true, false, true, false, false, true, false, false, false, true, false, false, false, false, false, false, false, false, false, false, false] rfl rfl (by kernel_rfl) (fun _ _ _ h => h) (Or.inl ⟨by rfl, ?_⟩) ?_ ?_
  rotate_left
  · intro w'
    go_simp
    with_reducible rfl
  rotate_left
  · simp only [Act.put, List.setIfInBounds_toArray, List.set_cons_zero, List.set_cons_succ, i64_w, i32_w]
    rfl
  refine pure_ (i := 10) (N := some 39) (v := ?_) (a' := ?_) #[true, false, true, false, false, true, false, false, false, true, true, false, false, false, false, false, false, false, false, false, false] rfl rfl (by kernel_rfl) (fun _ _ _ h => h) (Or.inl ⟨by rfl, ?_⟩) ?_ ?_
  rotate_left
  · intro w'
    go_simp
    with_reducible rfl
  rotate_left
  · simp only [Act.put, List.setIfInBounds_toArray, List.set_cons_zero, List.set_cons_succ, i64_w, i32_w]
    rfl
  refine pure_ (i := 11) (N := some 40) (v := ?_) (a' := ?_) #[true, false, true, false, false, true, false, false, false, true, true, true, false, false, false, false, false, false, false, false, false] rfl rfl (by kernel_rfl) (fun _ _ _ h => h) (Or.inl ⟨by rfl, ?_⟩) ?_ ?_
  rotate_left
  · intro w'
    go_simp
    with_reducible rfl
  rotate_left
  · simp only [Act.put, List.setIfInBounds_toArray, List.set_cons_zero, List.set_cons_succ, i64_w, i32_w]
    rfl
  refine pure_ (i := 12) (N := some 41) (v := ?_) (a' := ?_) #[true, false, true, false, false, true, false, false, false, true, true, true, true, false, false, false, false, false, false, false, false] rfl rfl (by kernel_rfl) (fun _ _ _ h => h) (Or.inl ⟨by rfl, ?_⟩) ?_ ?_
  rotate_left
  · intro w'
    go_simp
    with_reducible rfl
  rotate_left
  · simp only [Act.put, List.setIfInBounds_toArray, List.set_cons_zero, List.set_cons_succ, i64_w, i32_w]
    rfl
  refine pure_ (i := 13) (N := some 42) (v := ?_) (a' := ?_) #[true, false, true, false, false, true, false, false, false, true, true, true, true, true, false, false, false, false, false, false, false] rfl rfl (by kernel_rfl) (fun _ _ _ h => h) (Or.inl ⟨by rfl, ?_⟩) ?_ ?_
  rotate_left
  · intro w'
    go_simp
    with_reducible rfl
  rotate_left
  · simp only [Act.put, List.setIfInBounds_toArray, List.set_cons_zero, List.set_cons_succ, i64_w, i32_w]
    rfl
  refine take_ (i := 1) (N := some 30) (v := ?_) (a' := ?_) #[true, true, true, false, false, true, false, false, false, true, true, true, true, true, false, false, false, false, false, false, false] rfl rfl (by kernel_rfl) (fun _ _ _ h => h) (Or.inl ⟨by rfl, ?_⟩) hHeld ?_ ?_
  rotate_left
  · intro w' s0
    go_simp
    with_reducible rfl
  rotate_left
  · simp only [Act.put, List.setIfInBounds_toArray, List.set_cons_zero, List.set_cons_succ, i64_w, i32_w]
    rfl
  refine take_ (i := 3) (N := some 32) (v := ?_) (a' := ?_) #[true, true, true, true, false, true, false, false, false, true, true, true, true, true, false, false, false, false, false, false, false] rfl rfl (by kernel_rfl) (fun _ _ _ h => h) (Or.inl ⟨by rfl, ?_⟩) hHeld ?_ ?_
  rotate_left
  · intro w' s0
    go_simp
    with_reducible rfl
  rotate_left
  · simp only [Act.put, List.setIfInBounds_toArray, List.set_cons_zero, List.set_cons_succ, i64_w, i32_w]
    rfl
  refine pure_ (i := 4) (N := some 33) (v := ?_) (a' := ?_) #[true, true, true, true, true, true, false, false, false, true, true, true, true, true, false, false, false, false, false, false, false] rfl rfl (by kernel_rfl) (fun _ _ _ h => h) (Or.inl ⟨by rfl, ?_⟩) ?_ ?_
  rotate_left
  · intro w'
    go_simp
    with_reducible rfl
  rotate_left
  · simp only [Act.put, List.setIfInBounds_toArray, List.set_cons_zero, List.set_cons_succ, i64_w, i32_w]
    rfl
  refine take_ (i := 6) (N := some 35) (v := ?_) (a' := ?_) #[true, true, true, true, true, true, true, false, false, true, true, true, true, true, false, false, false, false, false, false, false] rfl rfl (by kernel_rfl) (fun _ _ _ h => h) (Or.inl ⟨by rfl, ?_⟩) hHeld ?_ ?_
  rotate_left
  · intro w' s0
    go_simp
    with_reducible rfl
  rotate_left
  · simp only [Act.put, List.setIfInBounds_toArray, List.set_cons_zero, List.set_cons_succ, i64_w, i32_w]
    rfl
  refine pure_ (i := 7) (N := some 36) (v := ?_) (a' := ?_) #[true, true, true, true, true, true, true, true, false, true, true, true, true, true, false, false, false, false, false, false, false] rfl rfl (by kernel_rfl) (fun _ _ _ h => h) (Or.inl ⟨by rfl, ?_⟩) ?_ ?_
  rotate_left
  · intro w'
    go_simp
    with_reducible rfl
  rotate_left
  · simp only [Act.put, List.setIfInBounds_toArray, List.set_cons_zero, List.set_cons_succ, i64_w, i32_w]
    rfl
  refine pure_ (i := 8) (N := some 37) (v := ?_) (a' := ?_) #[true, true, true, true, true, true, true, true, true, true, true, true, true, true, false, false, false, false, false, false, false] rfl rfl (by kernel_rfl) (fun _ _ _ h => h) (Or.inl ⟨by rfl, ?_⟩) ?_ ?_
  rotate_left
  · intro w'
    go_simp
    with_reducible rfl
  rotate_left
  · simp only [Act.put, List.setIfInBounds_toArray, List.set_cons_zero, List.set_cons_succ, i64_w, i32_w]
    rfl
  refine one_ (i := 14) (N := some 43) #[true, true, true, true, true, true, true, true, true, true, true, true, true, true, true, false, false, false, false, false, false] rfl rfl (by kernel_rfl) (by decide) (fun K hK => ?_)
  refine goes_ Try.func31 (by kernel_rfl) rfl #[.int .i64 ((64 - s.size : Nat) : Int)] (by rfl) rfl rfl (by simp only [List.map_toArray, List.map_cons, List.map_nil]; rfl) ?_
  with_reducible refine (HZC.out _).mono ?_
  rintro e w3 ⟨rfl, hb⟩
  refine ⟨_, rfl, ?_⟩
  have hl0 := blk_lt (HB0.out.step hb).box
  have hl1 := blk_lt (HB0.out.step hb).out
  refine hK.out _ _ ((HB0.out.step hb).cell) (fun hHeld => ?_)
  clear hK K
  refine norm_ (a' := ?_) ?_ ?_
  rotate_left
  · show Act.put _ (some 43) _ = _
    simp only [Act.put, List.setIfInBounds_toArray, List.set_cons_zero, List.set_cons_succ, i64_w, i32_w]
    rfl
  refine pure_ (i := 15) (N := some 44) (v := ?_) (a' := ?_) #[true, true, true, true, true, true, true, true, true, true, true, true, true, true, true, true, false, false, false, false, false] rfl rfl (by kernel_rfl) (fun _ _ _ h => h) (Or.inl ⟨by rfl, ?_⟩) ?_ ?_
  rotate_left
  · intro w'
    go_simp
    with_reducible rfl
  rotate_left
  · simp only [Act.put, List.setIfInBounds_toArray, List.set_cons_zero, List.set_cons_succ, i64_w, i32_w]
    rfl
  refine pure_ (i := 16) (N := some 45) (v := ?_) (a' := ?_) #[true, true, true, true, true, true, true, true, true, true, true, true, true, true, true, true, true, false, false, false, false] rfl rfl (by kernel_rfl) (fun _ _ _ h => h) (Or.inl ⟨by rfl, ?_⟩) ?_ ?_
  rotate_left
  · intro w'
    go_simp
    with_reducible rfl
  rotate_left
  · simp only [Act.put, List.setIfInBounds_toArray, List.set_cons_zero, List.set_cons_succ, i64_w, i32_w]
    rfl
  refine one_ (i := 17) (N := some 46) #[true, true, true, true, true, true, true, true, true, true, true, true, true, true, true, true, true, true, false, false, false] rfl rfl (by kernel_rfl) (by decide) (fun K hK => ?_)
  refine value_ (w1 := ?_) (v := ?_) (by rfl) rfl ?_ ?_
  rotate_left 2
  · go_simp
    constructor
    · rfl
    · rfl
  refine hK.out _ _ (((HB0.out.step hb).step ((Below.refl _ _).alloc (Nat.le_refl _) _)).cell) (fun hHeld => ?_)
  clear hK K
  refine norm_ (a' := ?_) ?_ ?_
  rotate_left
  · show Act.put _ (some 46) _ = _
    simp only [Act.put, List.setIfInBounds_toArray, List.set_cons_zero, List.set_cons_succ, i64_w, i32_w]
    rfl
  refine one_ (i := 18) (N := some 47) #[true, true, true, true, true, true, true, true, true, true, true, true, true, true, true, true, true, true, true, false, false] rfl rfl (by kernel_rfl) (by decide) (fun K hK => ?_)
  refine step_append_grows rfl _ _ _ rfl 31 i0 _ 2 24 Try.underlying23 hi0 hz0 hz1 hz2 rfl (by omega) A0_1 l0_1.length l0_1.length (flatP l0_1) rfl HN.out (flatP_len _) (flatP_reads (Kd.C_below HR.out ((HB0.out.step hb).step ((Below.refl _ _).alloc (Nat.le_refl _) _)).below)) ⟨w3.heap.size, 0, none⟩ 1 1 [.int .i64 at_, .string (s ++ Z)] rfl rfl (World.news_of_block (cs := #[.int .i64 at_, .string (s ++ Z)]) (t := 31) (fr := (0, 0)) (heap_alloc_new w3 _)) (by simp [Value.oneCell']) (by omega) (by unfold maxLen; omega) (by omega) ?_
  intro v1 w1 hown1 hgrow
  obtain ⟨g1, cap1, rfl⟩ := ownsRow_succ hown1
  have HBX := Lib.hid (((HB0.out.step hb).step ((Below.refl _ _).alloc (Nat.le_refl _) _)).step ((Below.refl _ _).grown hgrow (Nat.le_refl _) (fun _ e => by cases e)))
  have hq2 := blk_frozen HBX.out.box 1
  refine hK.out _ _ (HBX.out.cell) (fun hHeld => ?_)
  clear hK K
  refine norm_ (a' := ?_) ?_ ?_
  rotate_left
  · show Act.put _ (some 47) _ = _
    simp only [Act.put, List.setIfInBounds_toArray, List.set_cons_zero, List.set_cons_succ, i64_w, i32_w]
    rfl
  refine pure_ (i := 19) (N := some 48) (v := ?_) (a' := ?_) #[true, true, true, true, true, true, true, true, true, true, true, true, true, true, true, true, true, true, true, true, false] rfl rfl (by kernel_rfl) (fun _ _ _ h => h) (Or.inl ⟨by rfl, ?_⟩) ?_ ?_
  rotate_left
  · intro w'
    go_simp
    with_reducible rfl
  rotate_left
  · simp only [Act.put, List.setIfInBounds_toArray, List.set_cons_zero, List.set_cons_succ, i64_w, i32_w]
    rfl
  refine last_ (i := 20) (N := none) #[true, true, true, true, true, true, true, true, true, true, true, true, true, true, true, true, true, true, true, true, true] rfl rfl (by kernel_rfl) (by decide) (fun K hK => ?_)
  have hq1 := HBX.out.cell
  refine skip_ (w1 := ?_) (by rfl) rfl ?_ ?_
  rotate_left
  · go_simp
    rfl
  refine hK.out _ _ ?_
  clear hK K
  refine done_ (by kernel_rfl) ?_
  have q0 := blk_cell HBX.out.box 0; have q2 := blk_cell HBX.out.box 2
  have r0 := blk_cell HBX.out.out 0; have r1 := blk_cell HBX.out.out 1; have r2 := blk_cell HBX.out.out 2
  simp only [List.getElem?_toArray, List.getElem?_cons_zero, List.getElem?_cons_succ] at q0 q2 r0 r1 r2
  have f0 := blk_frozen HBX.out.out 0; have f1 := blk_frozen HBX.out.out 1; have f2 := blk_frozen HBX.out.out 2
  have HO1 := Lib.hid hown1; have HG := Lib.hid hgrow; have HB := Lib.hid hb
  clear hown1 hgrow hb
  go_wp2_with fail
  refine bodyPost_ret (v := .tuple #[.agg #[.slice A0_0 n0 c0_0, .slice (some ⟨g1, 0, none⟩) (l0_1.length + 1) cap1, .bool false], .int .i64 0]) (by simp [results, Try.results12, go_sem, r0, r1, r2]) rfl ⟨_, rfl, ?_, ?_⟩
  · have hR : Kd.R k31 31 w1 (w3.alloc (.cells #[.int .i64 at_, .string (s ++ Z)] 31)).heap.size (fun k => (w3.alloc (.cells #[.int .i64 at_, .string (s ++ Z)] 31)).heap.size ≤ k) (.slice (some ⟨g1, 0, none⟩) (l0_1.length + 1) cap1) (l0_1 ++ [⟨at_, s ++ Z⟩]) := by
      refine R_of_rows ?_
      have h := HO1.out
      rw [show flatP l0_1 ++ [.int .i64 at_, .string (s ++ Z)] = flatP (l0_1 ++ [⟨at_, s ++ Z⟩]) by simp [flatP]] at h
      rw [List.length_append]
      exact h
    have hl2 : w.heap.size + 1 < (w3.alloc (.cells #[.int .i64 at_, .string (s ++ Z)] 31)).heap.size := by rw [World.size_alloc]; omega
    exact Kd.R_mono (Kd.R_lower (Kd.R_far (Kd.R_far (Kd.R_far (Kd.R_far hR (fun k hk => by show k ≠ w.heap.size; omega) _) (fun k hk => by show k ≠ w.heap.size + 1; omega) _) (fun k hk => by show k ≠ w.heap.size + 1; omega) _) (fun k hk => by show k ≠ w.heap.size + 1; omega) _) (by omega)) (fun _ _ => trivial)
  · exact (((HBX.out.below.setCell (p := ⟨w.heap.size, 1, none⟩) (Nat.le_refl _) _).setCell (p := ⟨w.heap.size + 1, 0, none⟩) (show w.heap.size ≤ w.heap.size + 1 by omega) _).setCell (p := ⟨w.heap.size + 1, 1, none⟩) (show w.heap.size ≤ w.heap.size + 1 by omega) _).setCell (p := ⟨w.heap.size + 1, 2, none⟩) (show w.heap.size ≤ w.heap.size + 1 by omega) _
/-- What Write answers. -/
def writeR (l0 : List ByteArray) (l1 : List S31) (off : Bool) (at_ : Int) (s : ByteArray) : List ByteArray × List S31 × Bool × Int :=
  if off = true then (l0, l1, off, 19) else if at_ < 0 ∨ (l0.length : Int) ≤ at_ then (l0, l1, off, 6) else if 64 < s.size then (l0, l1, off, 5) else (l0, l1 ++ [⟨at_, fillS s⟩], off, 0)
def disk_Write.f (l0_0 : List ByteArray) (l0_1 : List S31) (a0_2 : Bool) (a1 : Int) (a2 : ByteArray) : Option (List ByteArray × List S31 × Bool × Int) := if l0_1.length ≤ 1000000000 then some (writeR l0_0 l0_1 a0_2 a1 a2) else none
set_option maxRecDepth 100000 in
set_option maxHeartbeats 1000000 in
theorem write_off (A0_0 : Option Addr) (c0_0 n0 : Nat) (A0_1 : Option Addr) (c0_1 n1 : Nat) (at_ : Int) (s : ByteArray) (w : World) :
    Calls Try.prog 12 #[.agg #[.slice A0_0 n0 c0_0, .slice A0_1 n1 c0_1, .bool true], .int .i64 at_, .string s] w fun e w' => e = .returned (.tuple #[.agg #[.slice A0_0 n0 c0_0, .slice A0_1 n1 c0_1, .bool true], .int .i64 19]) ∧ Below w.heap.size w w' := by
  go_enter Try.func12, Try.ntmps12
  go_wp2_with fail
  refine bodyPost_ret (v := .tuple #[.agg #[.slice A0_0 n0 c0_0, .slice A0_1 n1 c0_1, .bool true], .int .i64 19]) (by simp [results, Try.results12, go_sem]) rfl ⟨rfl, ?_⟩
  exact ((Below.refl _ w).alloc (Nat.le_refl _) _).alloc (by rw [World.size_alloc]; omega) _
set_option maxRecDepth 100000 in
set_option maxHeartbeats 1000000 in
theorem write_low (A0_0 : Option Addr) (c0_0 n0 : Nat) (A0_1 : Option Addr) (c0_1 n1 : Nat) (at_ : Int) (s : ByteArray) (w : World) (h : at_ < 0) :
    Calls Try.prog 12 #[.agg #[.slice A0_0 n0 c0_0, .slice A0_1 n1 c0_1, .bool false], .int .i64 at_, .string s] w fun e w' => e = .returned (.tuple #[.agg #[.slice A0_0 n0 c0_0, .slice A0_1 n1 c0_1, .bool false], .int .i64 6]) ∧ Below w.heap.size w w' := by
  have hd1 : decide (at_ < 0) = true := decide_eq_true h
  go_enter Try.func12, Try.ntmps12
  go_wp2_with fail
  refine bodyPost_ret (v := .tuple #[.agg #[.slice A0_0 n0 c0_0, .slice A0_1 n1 c0_1, .bool false], .int .i64 6]) (by simp [results, Try.results12, go_sem]) rfl ⟨rfl, ?_⟩
  exact ((Below.refl _ w).alloc (Nat.le_refl _) _).alloc (by rw [World.size_alloc]; omega) _
set_option maxRecDepth 100000 in
set_option maxHeartbeats 1000000 in
theorem write_high (A0_0 : Option Addr) (c0_0 n0 : Nat) (A0_1 : Option Addr) (c0_1 n1 : Nat) (at_ : Int) (s : ByteArray) (w : World) (h0 : 0 ≤ at_) (h : (n0 : Int) ≤ at_) :
    Calls Try.prog 12 #[.agg #[.slice A0_0 n0 c0_0, .slice A0_1 n1 c0_1, .bool false], .int .i64 at_, .string s] w fun e w' => e = .returned (.tuple #[.agg #[.slice A0_0 n0 c0_0, .slice A0_1 n1 c0_1, .bool false], .int .i64 6]) ∧ Below w.heap.size w w' := by
  have hd1 : decide (at_ < 0) = false := decide_eq_false (by omega)
  have hd2 : decide ((n0 : Int) ≤ at_) = true := decide_eq_true h
  go_enter Try.func12, Try.ntmps12
  go_wp2_with fail
  refine bodyPost_ret (v := .tuple #[.agg #[.slice A0_0 n0 c0_0, .slice A0_1 n1 c0_1, .bool false], .int .i64 6]) (by simp [results, Try.results12, go_sem]) rfl ⟨rfl, ?_⟩
  exact ((Below.refl _ w).alloc (Nat.le_refl _) _).alloc (by rw [World.size_alloc]; omega) _
set_option maxRecDepth 100000 in
set_option maxHeartbeats 1000000 in
theorem write_big (A0_0 : Option Addr) (c0_0 n0 : Nat) (A0_1 : Option Addr) (c0_1 n1 : Nat) (at_ : Int) (s : ByteArray) (w : World) (h0 : 0 ≤ at_) (h1 : at_ < n0) (h : 64 < s.size) :
    Calls Try.prog 12 #[.agg #[.slice A0_0 n0 c0_0, .slice A0_1 n1 c0_1, .bool false], .int .i64 at_, .string s] w fun e w' => e = .returned (.tuple #[.agg #[.slice A0_0 n0 c0_0, .slice A0_1 n1 c0_1, .bool false], .int .i64 5]) ∧ Below w.heap.size w w' := by
  have hd1 : decide (at_ < 0) = false := decide_eq_false (by omega)
  have hd2 : decide ((n0 : Int) ≤ at_) = false := decide_eq_false (by omega)
  have hd3 : decide (64 < s.size) = true := decide_eq_true h
  have hd4 : (64 : Int) < (s.size : Int) := by omega
  go_enter Try.func12, Try.ntmps12
  go_wp2_with fail
  refine bodyPost_ret (v := .tuple #[.agg #[.slice A0_0 n0 c0_0, .slice A0_1 n1 c0_1, .bool false], .int .i64 5]) (by simp [results, Try.results12, go_sem]) rfl ⟨rfl, ?_⟩
  exact ((Below.refl _ w).alloc (Nat.le_refl _) _).alloc (by rw [World.size_alloc]; omega) _
theorem disk_Write.calls (P0_0_ : Nat → Prop) (A0_0 : Option Addr) (c0_0 : Nat) (l0_0 : List ByteArray) (P0_1_ : Nat → Prop) (A0_1 : Option Addr) (c0_1 : Nat) (l0_1 : List S31) (a0_2 : Bool) (a1 : Int) (a2 : ByteArray) (r1 : List ByteArray) (r2 : List S31) (r3 : Bool) (r4 : Int) (w : World) (hs0_0 : Kd.V Kd.string 9 w w.heap.size (fun k_ => P0_0_ k_) (.slice A0_0 l0_0.length c0_0) l0_0) (hs0_1 : Kd.V k31 31 w w.heap.size (fun k_ => P0_1_ k_) (.slice A0_1 l0_1.length c0_1) l0_1) (h : disk_Write.f l0_0 l0_1 a0_2 a1 a2 = some (r1, r2, r3, r4)) :
    Calls Try.prog 12 #[.agg #[.slice A0_0 l0_0.length c0_0, .slice A0_1 l0_1.length c0_1, .bool a0_2], .int .i64 a1, .string a2] w fun e w' => ∃ v0_ v1_ : Value, e = .returned (.tuple #[.agg #[v0_, v1_, .bool r3], .int .i64 r4]) ∧ Kd.V Kd.string 9 w' w.heap.size (fun k_ => ((P0_0_ k_ ∨ P0_1_ k_) ∨ w.heap.size ≤ k_)) v0_ r1 ∧ Kd.V k31 31 w' w.heap.size (fun k_ => ((P0_0_ k_ ∨ P0_1_ k_) ∨ w.heap.size ≤ k_)) v1_ r2 ∧ Below w.heap.size w w' := by
  unfold disk_Write.f at h
  split at h
  · rename_i hh
    have h2 := Option.some.inj h
    clear h
    have give : ∀ (code : Int), (r1, r2, r3, r4) = (l0_0, l0_1, a0_2, code) → ∀ e w', (e = Ending.returned (.tuple #[.agg #[.slice A0_0 l0_0.length c0_0, .slice A0_1 l0_1.length c0_1, .bool a0_2], .int .i64 code]) ∧ Below w.heap.size w w') →
        ∃ v0_ v1_ : Value, e = .returned (.tuple #[.agg #[v0_, v1_, .bool r3], .int .i64 r4]) ∧ Kd.V Kd.string 9 w' w.heap.size (fun k_ => ((P0_0_ k_ ∨ P0_1_ k_) ∨ w.heap.size ≤ k_)) v0_ r1 ∧ Kd.V k31 31 w' w.heap.size (fun k_ => ((P0_0_ k_ ∨ P0_1_ k_) ∨ w.heap.size ≤ k_)) v1_ r2 ∧ Below w.heap.size w w' := by
      rintro code hc e w' ⟨rfl, hb⟩
      simp only [Prod.mk.injEq] at hc
      obtain ⟨rfl, rfl, rfl, rfl⟩ := hc
      exact ⟨_, _, rfl, Kd.V_mono (Kd.V_below hs0_0 hb) (fun _ hk => .inl (.inl hk)), Kd.V_mono (Kd.V_below hs0_1 hb) (fun _ hk => .inl (.inr hk)), hb⟩
    unfold writeR at h2
    by_cases hoff : a0_2 = true
    · rw [if_pos hoff] at h2
      subst hoff
      exact (write_off _ _ _ _ _ _ _ _ _).mono (give 19 h2.symm)
    · rw [if_neg hoff] at h2
      obtain rfl : a0_2 = false := by simpa using hoff
      by_cases ha : a1 < 0 ∨ (l0_0.length : Int) ≤ a1
      · rw [if_pos ha] at h2
        by_cases hlo : a1 < 0
        · exact (write_low _ _ _ _ _ _ _ _ _ hlo).mono (give 6 h2.symm)
        · exact (write_high _ _ _ _ _ _ _ _ _ (by omega) (by omega)).mono (give 6 h2.symm)
      · rw [if_neg ha] at h2
        by_cases hb : 64 < a2.size
        · rw [if_pos hb] at h2
          exact (write_big _ _ _ _ _ _ _ _ _ (by omega) (by omega) hb).mono (give 5 h2.symm)
        · rw [if_neg hb] at h2
          simp only [Prod.mk.injEq] at h2
          obtain ⟨rfl, rfl, rfl, rfl⟩ := h2
          have hr0 := Kd.V_reads' hs0_0
          have hr1 := Kd.V_reads' hs0_1
          refine (write_good A0_0 c0_0 l0_0.length A0_1 c0_1 l0_1 a1 a2 w (by omega) (by omega) (by omega) (Kd.C_max hr0.2.2) hh hr1.2.1 hr1.2.2).mono ?_
          rintro e w' ⟨v, rfl, hR, hb⟩
          obtain ⟨A, c, rfl⟩ := Kd.R_slice hR
          have hR2 := Kd.R_bound hR
          exact ⟨_, _, rfl, Kd.V_mono (Kd.V_below hs0_0 hb) (fun _ hk => .inl (.inl hk)), Kd.V_mk (Kd.R_reads' hR).2.1 (Kd.R_F (Kd.R_mono hR2 (fun k hk => .inr hk.2.1))), hb⟩
  · cases h
end Go.Proofs.Ytoknncbdfdgfjaa.Q
