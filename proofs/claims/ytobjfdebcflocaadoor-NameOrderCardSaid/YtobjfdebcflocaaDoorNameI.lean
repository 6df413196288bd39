/- Layer 6, walked: an entry that is added. -/
import Derived.Test.YtobjfdebcflocaaDoorNameD
import Derived.Test.YtobjfdebcflocaaDoorNameF
import Derived.Lib.SliceRun
set_option linter.unusedVariables false
set_option linter.unusedSimpArgs false
namespace Go.Proofs.YtobjfdebcflocaaDoor.Q
open Go.RowKit Go.Shelf Go.Lib Go.Proofs.YtobjfdebcflocaaDoorW.PrintWords Go.Proofs.YtobjfdebcflocaaDoorW.PrintLast Go.Proofs.YtobjfdebcflocaaDoorW.PrintMore

theorem flatE_at (l : List S56) : ∀ (j : Nat) (hj : j < l.length), (flatE l)[j * 2]? = some (.string l[j].f0) ∧ (flatE l)[j * 2 + 1]? = some (.int .i64 l[j].f1) := by
  induction l with
  | nil => intro j hj; cases hj
  | cons x l ih =>
    intro j hj
    cases j with
    | zero => exact ⟨rfl, rfl⟩
    | succ j =>
      have h := ih j (by simpa using hj)
      have e1 : (j + 1) * 2 = j * 2 + 1 + 1 := by omega
      rw [e1]
      simp only [flatE, List.map_cons, List.flatten_cons, List.cons_append, List.nil_append, List.getElem?_cons_succ, List.getElem_cons_succ] at h ⊢
      exact h
theorem flatE_reads {w : World} {A : Option Addr} {l : List S56} (h : Kd.C k56 w A l.length l) : ∀ b, A = some b → ∀ j u, (flatE l)[j]? = some u → w.cell? (b.add j) = some u := by
  intro b hb j u hj
  have hl : j < l.length * 2 := by rw [← flatE_len]; exact (List.getElem?_eq_some_iff.1 hj).1
  obtain ⟨ad, he, h0, h1⟩ := at_T56 h ((j / 2 : Nat) : Int) (by omega) (by omega)
  rw [hb] at he
  obtain rfl := Option.some.inj he
  rw [Int.toNat_natCast] at h0 h1
  have hd := flatE_at l (j / 2) (by omega)
  have hrd : rd_T56 l ((j / 2 : Nat) : Int) = l[j / 2]'(by omega) := by
    show l.getD (j / 2) _ = _
    rw [List.getD_eq_getElem?_getD, List.getElem?_eq_getElem (by omega)]; rfl
  rw [hrd] at h0 h1
  rcases Nat.mod_two_eq_zero_or_one j with hm | hm
  · have e : j = j / 2 * 2 := by omega
    rw [e] at hj ⊢
    rw [hd.1] at hj
    rw [← hj]
    have : j / 2 * 2 / 2 = j / 2 := by omega
    simpa [this] using h0
  · have e : j = j / 2 * 2 + 1 := by omega
    rw [e] at hj ⊢
    rw [hd.2] at hj
    rw [← hj]
    have : (j / 2 * 2 + 1) / 2 = j / 2 := by omega
    rw [← add_field _ _ 1 (by omega)] at h1
    simpa [this] using h1
/-- A row of entries that the call owns. -/
theorem R_of_entries {w : World} {base : Nat} {v : Value} {xs : List S56} (h : w.ownsRow base 56 2 v xs.length (flatE xs)) : Kd.R k56 56 w base (fun k => base ≤ k) v xs := by
  refine ⟨fun k hk => own_base h k hk, flatE xs, h, flatE_len xs, fun j p hj => ?_⟩
  obtain ⟨hl, hp⟩ := List.getElem?_eq_some_iff.1 hj
  have h2 := flatE_at xs j hl
  rw [hp] at h2
  have e : ((flatE xs).drop (j * 2)).take 2 = [.string p.f0, .int .i64 p.f1] := by
    apply List.ext_getElem?
    intro i
    rw [List.getElem?_take, List.getElem?_drop]
    match i with
    | 0 => exact h2.1
    | 1 => exact h2.2
    | i + 2 => rw [if_neg (by omega)]; rfl
  show k56.M w base _ p (((flatE xs).drop (j * 2)).take 2)
  rw [e]
  exact k56_mkM _ _ _ p
set_option maxHeartbeats 2000000 in
set_option maxRecDepth 100000 in
theorem clone_calls (A : Option Addr) (c : Nat) (xs : List S56) (w : World) (hl : xs.length ≤ 1000000) (hr : Kd.C k56 w A xs.length xs) :
    Calls Tryd.prog 33 #[.slice A xs.length c] w fun e w' => ∃ v', e = .returned v' ∧ w'.ownsRow w.heap.size 56 2 v' xs.length (flatE xs) ∧ Below w.heap.size w w' := by
  have q : ∀ (w : World) (a : Option Addr) (n c n' c' : Nat), (binOp .eql 30 (.slice a n c) (.slice none n' c')).run Tryd.prog w = .ok (.bool a.isNone) w := fun w a n c n' c' => Lib.run_eql_slice_nil w _ _ a n c n' c' Tryd.underlying30
  have hf := flatE_reads hr
  cases A with
  | none =>
    have h0 : xs.length = 0 := by
      rcases Nat.eq_zero_or_pos xs.length with h | h
      · exact h
      · obtain ⟨ad, he, _⟩ := at_T56 hr 0 (by omega) (by omega); cases he
    have h1 : xs = [] := List.eq_nil_of_length_eq_zero h0
    subst h1
    clear hr hf
    go_enter Tryd.func33, Tryd.ntmps33
    go_wp2
    go_ret
    exact ⟨_, rfl, World.ownsRow_nil _ _ _ _, Below.refl _ _⟩
  | some ad =>
    obtain ⟨i0, hi0, hz0, hz1, hz2⟩ := info_parts info_entry
    obtain ⟨b, off, vw⟩ := ad
    have hS := Lib.hid (hf _ rfl)
    have hl2 := flatE_len xs
    have h1c := Lib.hid (flatE_one xs)
    clear hf hr
    generalize flatE xs = news at *
    go_enter Tryd.func33, Tryd.ntmps33
    go_wp2_with (at_builtin; refine wpList_append_own _ rfl _ _ 30 rfl w.heap.size 56 i0 _ 2 24 Tryd.underlying30 hi0 hz0 hz1 hz2 rfl (by decide) _ _ _ rfl (World.ownsRow_made w #[] 0 (Nat.le_refl _) (Nat.zero_le _) (by simp)) ⟨b, off, vw⟩ xs.length c news rfl hl2 (fun j u hj => Lib.cell?_alloc_some _ (hS.out j u hj)) h1c.out (by unfold maxLen; omega) (by omega) (by simp) ?_)
    intro v1 w1 hown hgrow hnil
    have HO := Lib.hid hown; have HG := Lib.hid hgrow
    clear hown hgrow hnil
    go_wp2
    go_ret
    refine ⟨_, rfl, by simpa using HO.out, ((Below.refl _ w).alloc (Nat.le_refl _) _).grown HG.out (by simp) (by intro k hk; simp [Value.ownBlock] at hk; omega)⟩
theorem place_le (l : List S56) (s : ByteArray) : ∀ k i j, i ≤ j → j ≤ l.length → bsGo l s k i j ≤ l.length
  | 0, i, j, h1, h2 => by show i ≤ _; omega
  | k + 1, i, j, h1, h2 => by
    show (if i < j then _ else i) ≤ _
    split
    · split
      · exact place_le l s k _ _ (by omega) h2
      · exact place_le l s k _ _ (by omega) (by omega)
    · omega
theorem placeOf_le (l : List S56) (s : ByteArray) : placeOf l s ≤ l.length := place_le l s _ _ _ (Nat.zero_le _) (Nat.le_refl _)
set_option maxHeartbeats 1000000 in
theorem place_calls (A : Option Addr) (c : Nat) (l : List S56) (s : ByteArray) (w : World) (hr : Kd.C k56 w A l.length l) (hc : l.length ≤ c) (hl : l.length ≤ 1000000) :
    Calls Tryd.prog 30 #[.slice A l.length c, .string s] w fun e w' => e = .returned (.tuple #[.int .i64 (placeOf l s : Nat), .bool (isAt l s (placeOf l s))]) ∧ Below w.heap.size w w' := by
  have HC := Lib.hid (search_calls A c l s w hr hc hl)
  generalize isAt l s (placeOf l s) = b at *
  generalize placeOf l s = i at *
  clear hr
  go_enter Tryd.func30, Tryd.ntmps30
  go_wp2_with (go_at_call 37; refine HC.out.mono ?_; rintro e w' ⟨rfl, hd⟩)
  go_ret2
  exact ⟨rfl, hd⟩
def enterR (l : List S56) (s : ByteArray) (ino : Int) : List S56 × Int :=
  if badName s then (l, 10) else if ino < 1 then (l, 1) else if isAt l s (placeOf l s) then (l, 7) else if 256 ≤ l.length then (l, 12) else (l.take (placeOf l s) ++ ⟨s, ino⟩ :: l.drop (placeOf l s), 0)
def leaveR (l : List S56) (s : ByteArray) : List S56 × Int × Int :=
  if isAt l s (placeOf l s) then (l.take (placeOf l s) ++ l.drop (placeOf l s + 1), (l.getD (placeOf l s) z56).f1, 0) else (l, 0, 6)
set_option maxHeartbeats 2000000 in
set_option maxRecDepth 100000 in
theorem enter_good (A : Option Addr) (c : Nat) (xs : List S56) (s : ByteArray) (ino : Int) (w : World) (hl : xs.length < 256) (hc : xs.length ≤ c) (hr : Kd.C k56 w A xs.length xs) (h1 : badName s = false) (h2 : ¬ ino < 1) (h3 : isAt xs s (placeOf xs s) = false) :
    Calls Tryd.prog 22 #[.slice A xs.length c, .string s, .int .i64 ino] w fun e w' => ∃ v', e = .returned (.tuple #[v', .int .i64 0]) ∧ w'.ownsRow w.heap.size 56 2 v' (xs.length + 1) (flatE (xs.take (placeOf xs s) ++ ⟨s, ino⟩ :: xs.drop (placeOf xs s))) ∧ Below w.heap.size w w' := by
  have hd2 : decide (ino < 1) = false := decide_eq_false h2
  have hd3 : decide ((256 : Int) ≤ (xs.length : Int)) = false := decide_eq_false (by omega)
  have hp := placeOf_le xs s
  have HP := place_calls A c xs s w hr hc (by omega)
  rw [h3] at HP
  clear h3
  generalize placeOf xs s = i at *
  have HPL := Lib.hid HP
  have HK := Lib.hid (fun W => name_Check.calls s 0 W (by unfold name_Check.f; rw [h1]; rfl))
  have HCL := Lib.hid (fun (W : World) (hb : Below w.heap.size w W) => clone_calls A c xs W (by omega) (Kd.C_below hr hb))
  clear hr HP h1
  go_enter Tryd.func22, Tryd.ntmps22
  go_wp2_with (first | (go_at_call 30; refine HPL.out.mono ?_; rintro e w1 ⟨rfl, hb1⟩) | (go_at_call 17; refine (HK.out _).mono ?_; rintro e w2 ⟨rfl, hb2⟩) | (go_at_call 33; refine (HCL.out _ (hb1.trans (hb2.below.mono hb1.size))).mono ?_; rintro e w3 ⟨v, rfl, ho3, hb3⟩))
  have hz2 : w.heap.size ≤ w2.heap.size := Nat.le_trans hb1.size hb2.below.size
  have hz3 := hb3.size
  have hB3 : Below w.heap.size w w3 := (hb1.trans (hb2.below.mono hb1.size)).trans (hb3.mono hz2)
  refine (insert_calls w.heap.size xs i hp ⟨s, ino⟩ v w3.heap.size _ (by rw [World.size_alloc]; omega) (by omega) ((own_weaken ho3 hz2).alloc _) (heap_alloc_new w3 _) (fun k hk => ?_)).mono ?_
  · rcases ho3.2 with ⟨rfl, _⟩ | ⟨g, cap, cur, rfl, _, hg, _⟩
    · simp [Value.ownBlock] at hk
    · have := (Array.getElem?_eq_some_iff.1 hg).1
      simp [Value.ownBlock] at hk
      omega
  · rintro e w4 ⟨v4, rfl, ho4, hb4⟩
    have HO := Lib.hid ho4
    have HB := Lib.hid ((hB3.alloc (Nat.le_trans hz2 hz3) _).trans hb4)
    clear ho4 hb4 ho3 hb3 hB3
    go_wp2_with fail
    go_ret2
    exact ⟨_, rfl, HO.out, HB.out⟩
set_option maxHeartbeats 1000000 in
theorem enter_bad (A : Option Addr) (c : Nat) (xs : List S56) (s : ByteArray) (ino : Int) (w : World) (hl : xs.length ≤ 1000000) (hc : xs.length ≤ c) (hr : Kd.C k56 w A xs.length xs) (h1 : badName s = true) :
    Calls Tryd.prog 22 #[.slice A xs.length c, .string s, .int .i64 ino] w fun e w' => e = .returned (.tuple #[.slice A xs.length c, .int .i64 10]) ∧ Below w.heap.size w w' := by
  have HPL := Lib.hid (place_calls A c xs s w hr hc hl)
  have HK := Lib.hid (fun W => name_Check.calls s 10 W (by unfold name_Check.f; rw [h1]; rfl))
  clear hr h1
  go_enter Tryd.func22, Tryd.ntmps22
  go_wp2_with (first | (go_at_call 30; refine HPL.out.mono ?_; rintro e w1 ⟨rfl, hb1⟩) | (go_at_call 17; refine (HK.out _).mono ?_; rintro e w2 ⟨rfl, hb2⟩))
  go_ret2
  exact ⟨rfl, hb1.trans (hb2.below.mono hb1.size)⟩
set_option maxHeartbeats 1000000 in
theorem enter_arg (A : Option Addr) (c : Nat) (xs : List S56) (s : ByteArray) (ino : Int) (w : World) (hl : xs.length ≤ 1000000) (hc : xs.length ≤ c) (hr : Kd.C k56 w A xs.length xs) (h1 : badName s = false) (h2 : ino < 1) :
    Calls Tryd.prog 22 #[.slice A xs.length c, .string s, .int .i64 ino] w fun e w' => e = .returned (.tuple #[.slice A xs.length c, .int .i64 1]) ∧ Below w.heap.size w w' := by
  have hd2 : decide (ino < 1) = true := decide_eq_true h2
  have HPL := Lib.hid (place_calls A c xs s w hr hc hl)
  have HK := Lib.hid (fun W => name_Check.calls s 0 W (by unfold name_Check.f; rw [h1]; rfl))
  clear hr h1
  go_enter Tryd.func22, Tryd.ntmps22
  go_wp2_with (first | (go_at_call 30; refine HPL.out.mono ?_; rintro e w1 ⟨rfl, hb1⟩) | (go_at_call 17; refine (HK.out _).mono ?_; rintro e w2 ⟨rfl, hb2⟩))
  go_ret2
  exact ⟨rfl, hb1.trans (hb2.below.mono hb1.size)⟩
set_option maxHeartbeats 1000000 in
theorem enter_there (A : Option Addr) (c : Nat) (xs : List S56) (s : ByteArray) (ino : Int) (w : World) (hl : xs.length ≤ 1000000) (hc : xs.length ≤ c) (hr : Kd.C k56 w A xs.length xs) (h1 : badName s = false) (h2 : ¬ ino < 1) (h3 : isAt xs s (placeOf xs s) = true) :
    Calls Tryd.prog 22 #[.slice A xs.length c, .string s, .int .i64 ino] w fun e w' => e = .returned (.tuple #[.slice A xs.length c, .int .i64 7]) ∧ Below w.heap.size w w' := by
  have hd2 : decide (ino < 1) = false := decide_eq_false h2
  have HP := place_calls A c xs s w hr hc hl
  rw [h3] at HP
  have HPL := Lib.hid HP
  have HK := Lib.hid (fun W => name_Check.calls s 0 W (by unfold name_Check.f; rw [h1]; rfl))
  clear hr h1 h3 HP
  go_enter Tryd.func22, Tryd.ntmps22
  go_wp2_with (first | (go_at_call 30; refine HPL.out.mono ?_; rintro e w1 ⟨rfl, hb1⟩) | (go_at_call 17; refine (HK.out _).mono ?_; rintro e w2 ⟨rfl, hb2⟩))
  go_ret2
  exact ⟨rfl, hb1.trans (hb2.below.mono hb1.size)⟩
set_option maxHeartbeats 1000000 in
theorem enter_room (A : Option Addr) (c : Nat) (xs : List S56) (s : ByteArray) (ino : Int) (w : World) (hl : xs.length ≤ 1000000) (hc : xs.length ≤ c) (hr : Kd.C k56 w A xs.length xs) (h1 : badName s = false) (h2 : ¬ ino < 1) (h3 : isAt xs s (placeOf xs s) = false) (h4 : 256 ≤ xs.length) :
    Calls Tryd.prog 22 #[.slice A xs.length c, .string s, .int .i64 ino] w fun e w' => e = .returned (.tuple #[.slice A xs.length c, .int .i64 12]) ∧ Below w.heap.size w w' := by
  have hd2 : decide (ino < 1) = false := decide_eq_false h2
  have hd3 : decide ((256 : Int) ≤ (xs.length : Int)) = true := decide_eq_true (by omega)
  have HP := place_calls A c xs s w hr hc hl
  rw [h3] at HP
  have HPL := Lib.hid HP
  have HK := Lib.hid (fun W => name_Check.calls s 0 W (by unfold name_Check.f; rw [h1]; rfl))
  clear hr h1 h3 HP
  go_enter Tryd.func22, Tryd.ntmps22
  go_wp2_with (first | (go_at_call 30; refine HPL.out.mono ?_; rintro e w1 ⟨rfl, hb1⟩) | (go_at_call 17; refine (HK.out _).mono ?_; rintro e w2 ⟨rfl, hb2⟩))
  go_ret2
  exact ⟨rfl, hb1.trans (hb2.below.mono hb1.size)⟩
set_option maxHeartbeats 1000000 in
theorem leave_none (A : Option Addr) (c : Nat) (xs : List S56) (s : ByteArray) (w : World) (hl : xs.length ≤ 1000000) (hc : xs.length ≤ c) (hr : Kd.C k56 w A xs.length xs) (h3 : isAt xs s (placeOf xs s) = false) :
    Calls Tryd.prog 24 #[.slice A xs.length c, .string s] w fun e w' => e = .returned (.tuple #[.slice A xs.length c, .int .i64 0, .int .i64 6]) ∧ Below w.heap.size w w' := by
  have HP := place_calls A c xs s w hr hc hl
  rw [h3] at HP
  have HPL := Lib.hid HP
  clear hr h3 HP
  go_enter Tryd.func24, Tryd.ntmps24
  go_wp2_with (first | (go_at_call 30; refine HPL.out.mono ?_; rintro e w1 ⟨rfl, hb1⟩))
  go_ret3
  exact ⟨rfl, hb1⟩
end Go.Proofs.YtobjfdebcflocaaDoor.Q
