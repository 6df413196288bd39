/- Layer 6, walked: a path's names. -/
import Derived.Test.YtobjfdebcflocaaDoorNameA
import Derived.Shelf.Strings.Split
import Derived.Lib.IndexBytes
import Derived.Shelf.Abstract
import Derived.Deep.DeepMust
import Derived.Deep.LoopGhost
set_option linter.unusedVariables false
set_option linter.unusedSimpArgs false
namespace Go.Proofs.YtobjfdebcflocaaDoor.Q
open Go.RowKit Go.Proofs.YtobjfdebcflocaaDoorW.PrintWords Go.Proofs.YtobjfdebcflocaaDoorW.PrintLast Go.Proofs.YtobjfdebcflocaaDoorW.PrintMore

def slash : ByteArray := ⟨#[47]⟩
/-- The pieces between slashes. -/
def piecesB (s : ByteArray) : List ByteArray := Lib.splitB slash 0 (Lib.countB s slash) s
theorem genSplit_slash (s : ByteArray) (w : World) (hs : s.size < 4294967281) :
    Calls Tryd.prog 35 #[.string s, .string slash, .int .i64 0, .int .i64 (-1)] w fun e w' =>
      e = .returned (.slice (some ⟨w.heap.size, 0, none⟩) (Lib.countB s slash + 1) (Lib.countB s slash + 1)) ∧ w' = w.alloc (.cells ((piecesB s).map Value.string).toArray 9) := by
  have hle := Lib.countB_le slash (by decide) s.size s (Nat.le_refl _)
  have hlen := Lib.splitB_all slash (by decide) 0 _ s rfl
  have c := Any.strings_genSplit_core (P := Tryd.prog) Tryd.lays221 (by kernel_rfl) s slash 0 (-1) (Lib.countB s slash + 1) w hs (by decide) (Nat.zero_le _)
    (fun x cs hx => (Tryd.strings_Index_one x 47 _).mono fun e w' h => ⟨by rw [h.1]; show _ = Ending.returned (Value.int .i64 (Lib.index x.data.toList [47])); rw [Lib.index_one], h.2⟩)
    ((Tryd.strings_Count_one s 47 w).mono fun e w' h => ⟨by
      rw [h.1]
      show _ = Ending.returned (Value.int .i64 ((Lib.count s.data.toList [47] : Nat) : Int))
      rw [Lib.count_one]
      rfl, h.2⟩) (by decide) (by decide) (by rw [if_pos (by decide)]; omega)
  rw [Nat.add_sub_cancel, hlen] at c
  have e2 : Lib.cellsOf (Lib.splitB slash 0 (Lib.countB s slash) s) (Lib.countB s slash + 1) = ((Lib.splitB slash 0 (Lib.countB s slash) s).map Value.string).toArray := by rw [← hlen]; exact Lib.cellsOf_full _
  rw [e2] at c
  exact c
set_option maxHeartbeats 1000000 in
theorem split_slash (s : ByteArray) (w : World) (hs : s.size < 4294967281) :
    Calls Tryd.prog 28 #[.string s, .string slash] w fun e w' =>
      e = .returned (.slice (some ⟨w.heap.size, 0, none⟩) (piecesB s).length (piecesB s).length) ∧ w' = w.alloc (.cells ((piecesB s).map Value.string).toArray 9) := by
  have hlen : (piecesB s).length = Lib.countB s slash + 1 := Lib.splitB_all slash (by decide) 0 _ s rfl
  rw [hlen]
  have HC := Lib.hid (genSplit_slash s w hs)
  go_enter Tryd.func28, Tryd.ntmps28
  go_wp2_with (go_at_call 35; refine HC.out.mono ?_; rintro e w' ⟨rfl, rfl⟩)
  go_ret
  exact ⟨rfl, rfl⟩
/-- The names among the pieces, from some on. -/
def partsGo : List ByteArray → List ByteArray → List ByteArray × Int
  | [], out => (out, 0)
  | p :: r, out => if p.toList == [] || p.toList == [46] then partsGo r out else if badName p then ([], 10) else partsGo r (out ++ [p])
def splitR (s : ByteArray) : List ByteArray × Int := if s.toList == [] then ([], 10) else if bt s 0 == 47 then partsGo (piecesB s) [] else ([], 10)
def name_Split.f (a0 : ByteArray) : Option (List ByteArray × Int) := if a0.size ≤ 1000000 then some (splitR a0) else none
def strsV (xs : List ByteArray) : List Value := xs.map Value.string
theorem strsV_len (xs : List ByteArray) : (strsV xs).length = xs.length := by simp [strsV]
theorem info_str : (Tryd.prog.info? 9).map (fun i => (i.zero, i.size, i.bytes)) = some (some (.string ⟨#[]⟩), 1, 16) := by kernel_rfl
theorem split_empty (w : World) : Calls Tryd.prog 12 #[.string ⟨#[]⟩] w fun e w' => e = .returned (.tuple #[.slice none 0 0, .int .i64 10]) ∧ Below w.heap.size w w' := by
  go_enter Tryd.func12, Tryd.ntmps12
  go_wp2
  go_ret2
  exact ⟨rfl, Below.refl _ _⟩
theorem pos_of_ne (s : ByteArray) (h0 : (s.toList == []) = false) : 0 < s.size := by
  rcases Nat.eq_zero_or_pos s.size with h | h
  · exfalso
    have e : s = ⟨#[]⟩ := ByteArray.ext (Array.eq_empty_of_size_eq_zero h)
    subst e
    exact absurd h0 (by rw [show (ByteArray.toList ⟨#[]⟩ == []) = true by kernel_rfl]; decide)
  · exact h
theorem split_other (s : ByteArray) (w : World) (h0 : (s.toList == []) = false) (h1 : (bt s 0 == 47) = false) : Calls Tryd.prog 12 #[.string s] w fun e w' => e = .returned (.tuple #[.slice none 0 0, .int .i64 10]) ∧ Below w.heap.size w w' := by
  have hs := pos_of_ne s h0
  have hx : ∀ h : 0 < s.size, ((s[0]'h).toNat : Int) = bt s 0 := fun h => bt_at s 0 h
  have h2 : (bt s 0 != 47) = true := by rw [bne, h1]; rfl
  clear h1
  generalize bt s 0 = b at hx h2
  go_enter Tryd.func12, Tryd.ntmps12
  go_wp2
  go_ret2
  exact ⟨rfl, Below.refl _ _⟩

/-- The block of the pieces, and the row of the names, while the loop goes on. -/
structure SBox (w : World) (ps : List ByteArray) (v : Value) (out : List ByteArray) (W : World) : Prop where
  below : Below w.heap.size w W
  box : W.heap[w.heap.size]? = some (.cells (strsV ps).toArray 9 (0, 0))
  own : W.ownsRow (w.heap.size + 1) 9 1 v out.length (strsV out)
set_option maxRecDepth 100000 in
set_option maxHeartbeats 4000000 in
theorem split_good (s : ByteArray) (w : World) (hs : s.size ≤ 1000000) (h0 : (s.toList == []) = false) (h1 : (bt s 0 == 47) = true) (r1 : List ByteArray) (r2 : Int) (hr : partsGo (piecesB s) [] = (r1, r2)) :
    Calls Tryd.prog 12 #[.string s] w fun e w' => ∃ v, e = .returned (.tuple #[v, .int .i64 r2]) ∧ Kd.R Kd.string 9 w' w.heap.size (fun _ => True) v r1 ∧ Below w.heap.size w w' := by
  have hs0 := pos_of_ne s h0
  have hx : ∀ h : 0 < s.size, ((s[0]'h).toNat : Int) = bt s 0 := fun h => bt_at s 0 h
  have h2 : (bt s 0 != 47) = false := by rw [bne, h1]; rfl
  clear h1
  generalize bt s 0 = b at hx h2
  have hle := Lib.countB_le slash (by decide) s.size s (Nat.le_refl _)
  have hpl : (piecesB s).length ≤ 1000001 := by
    have : (piecesB s).length = Lib.countB s slash + 1 := Lib.splitB_all slash (by decide) 0 _ s rfl
    omega
  have HC := Lib.hid (fun W => split_slash s W (by omega))
  generalize piecesB s = ps at *
  clear hle
  have HR := Lib.hid hr
  clear hr
  go_enter Tryd.func12, Tryd.ntmps12
  go_wp2_with (go_at_call 28; refine (HC.out _).mono ?_; rintro e w' ⟨rfl, rfl⟩)
  go_loopg [4, 6, 7, 18] ps.length (fun gk v4 v6 v7 v18 wx => ∃ (i : Nat) (out : List ByteArray), v18 = .int .i64 i ∧ i + gk = ps.length ∧ out.length ≤ i ∧ Hid (partsGo (ps.drop i) out = (r1, r2)) ∧ Hid (SBox w ps v4 out wx))
  case atStart => exact ⟨0, [], rfl, by omega, Nat.le_refl _, HR, Lib.hid ⟨(Below.refl _ _).alloc (Nat.le_refl _) _, heap_alloc_new w _, World.ownsRow_nil _ _ _ _⟩⟩
  case round =>
    obtain ⟨i, out, rfl, hig, hoi, HP, HS⟩ := hrel
    cases gk with
    | zero =>
      obtain rfl : i = ps.length := by omega
      have hiz : ¬ ((ps.length : Int) < (ps.length : Int)) := by omega
      clear hig
      go_wp2
      go_ret2
      have h := HP.out
      rw [List.drop_of_length_le (Nat.le_refl _)] at h
      obtain ⟨rfl, rfl⟩ := Prod.mk.inj h
      exact ⟨_, rfl, Kd.R_of_own (own_weaken HS.out.own (by omega)) (fun _ _ => trivial), HS.out.below⟩
    | succ k =>
      have hi : i < ps.length := by omega
      have hiz : (i : Int) < (ps.length : Int) := by omega
      have hc1 := blk_cell HS.out.box i
      have hd : ps.drop i = ps[i] :: ps.drop (i + 1) := List.drop_eq_getElem_cons hi
      have hg : (strsV ps).toArray[i]? = some (.string ps[i]) := by simp [strsV, hi]
      rw [hg] at hc1
      have hP := HP.out
      rw [hd] at hP
      obtain ⟨p, hp⟩ : ∃ p, ps[i] = p := ⟨_, rfl⟩
      rw [hp] at hc1 hP
      clear hg hd hp HP
      by_cases e1 : (p.toList == []) = true
      · have HQ : Hid (partsGo (ps.drop (i + 1)) out = (r1, r2)) := by
          rw [← hP]; show _ = if _ then _ else _; rw [e1]; rfl
        clear hP
        go_wp2
        go_roundg k
        case measure => omega
        case rel => exact ⟨i + 1, out, by go_num, by omega, by omega, HQ, HS⟩
      · replace e1 : (p.toList == []) = false := by simpa using e1
        by_cases e2 : (p.toList == [46]) = true
        · have HQ : Hid (partsGo (ps.drop (i + 1)) out = (r1, r2)) := by
            rw [← hP]; show _ = if _ then _ else _; rw [e1, e2]; rfl
          clear hP
          go_wp2
          go_roundg k
          case measure => omega
          case rel => exact ⟨i + 1, out, by go_num, by omega, by omega, HQ, HS⟩
        · replace e2 : (p.toList == [46]) = false := by simpa using e2
          by_cases e3 : badName p = true
          · have HK := fun W => name_Check.calls p 10 W (by unfold name_Check.f; rw [e3]; rfl)
            have HQ : Hid (([], 10) = (r1, r2)) := by
              rw [← hP]; show _ = if _ then _ else if _ then _ else _; rw [e1, e2, e3]; rfl
            clear hP
            go_wp2_with (go_at_call 17; refine (HK _).mono ?_; rintro e w' ⟨rfl, hd⟩)
            go_ret2
            obtain ⟨rfl, rfl⟩ := Prod.mk.inj HQ.out
            exact ⟨_, rfl, Kd.R_nil _ _ _ _ _, HS.out.below.trans (hd.below.mono HS.out.below.size)⟩
          · replace e3 : badName p = false := by simpa using e3
            have HK := fun W => name_Check.calls p 0 W (by unfold name_Check.f; rw [e3]; rfl)
            have HQ : Hid (partsGo (ps.drop (i + 1)) (out ++ [p]) = (r1, r2)) := by
              rw [← hP]; show _ = if _ then _ else if _ then _ else _; rw [e1, e2, e3]; rfl
            clear hP
            have HO := Lib.hid HS.out.own
            have hz := HS.out.below.size
            have hzl := blk_lt HS.out.box
            have HB := Lib.hid HS.out.box
            have HW := Lib.hid HS.out.below
            go_wp2_with (first | (go_at_call 17; refine (HK _).mono ?_; rintro e w' ⟨rfl, hd⟩) | (at_builtin; go_must (refine print_append (w.heap.size + 1) rfl (.tmp 33) (.tmp 35) 22 9 (.string ⟨#[]⟩) 16 rfl Tryd.underlying22 info_str rfl (by decide) _ (strsV out) (.string p) rfl rfl rfl (by rw [strsV_len]; exact pw_own_below HO.out hd.below) (Below.refl _ _) (by have := hd.below.size; omega) (by rw [strsV_len]; omega) ?_); intro v1 w3 hown3 hb3 hgr3 _))
            go_roundg k
            case measure => omega
            case rel =>
              refine ⟨i + 1, out ++ [p], by go_num, by omega, by rw [List.length_append]; simp only [List.length_cons, List.length_nil]; omega, HQ, Lib.hid ⟨?_, ?_, ?_⟩⟩
              · exact HW.out.trans ((hd.below.mono hz).trans (hb3.mono (by omega)))
              · exact (hb3.block _ (by omega)).trans ((hd.below.block _ hzl).trans HB.out)
              · have e1 : strsV (out ++ [p]) = strsV out ++ [Value.string p] := by simp [strsV]
                have e2 : (out ++ [p]).length = (strsV out ++ [Value.string p]).length := by simp [strsV]
                rw [e1, e2]
                exact hown3
theorem name_Split.calls (a0 : ByteArray) (r1 : List ByteArray) (r2 : Int) (w : World) (h : name_Split.f a0 = some (r1, r2)) :
    Calls Tryd.prog 12 #[.string a0] w fun e w' => ∃ v0_ : Value, e = .returned (.tuple #[v0_, .int .i64 r2]) ∧ Kd.R Kd.string 9 w' w.heap.size (fun _ => True) v0_ r1 ∧ Below w.heap.size w w' := by
  unfold name_Split.f at h
  by_cases hs : a0.size ≤ 1000000
  · rw [if_pos hs] at h
    replace h := Option.some.inj h
    unfold splitR at h
    by_cases h0 : (a0.toList == []) = true
    · rw [if_pos h0] at h
      obtain ⟨rfl, rfl⟩ := Prod.mk.inj h
      have e : a0 = ⟨#[]⟩ := by
        have : a0.toList = [] := by simpa using h0
        rcases Nat.eq_zero_or_pos a0.size with hz | hz
        · exact ByteArray.ext (Array.eq_empty_of_size_eq_zero hz)
        · exfalso
          have hl : a0.toList.length = a0.size := by rw [Lib.toList_data]; rfl
          rw [this] at hl
          simp at hl
          omega
      subst e
      exact (split_empty w).mono fun e w' hh => ⟨_, hh.1, Kd.R_nil _ _ _ _ _, hh.2⟩
    · rw [if_neg h0] at h
      replace h0 : (a0.toList == []) = false := by simpa using h0
      by_cases h1 : (bt a0 0 == 47) = true
      · rw [if_pos h1] at h
        exact split_good a0 w hs h0 h1 r1 r2 h
      · rw [if_neg h1] at h
        obtain ⟨rfl, rfl⟩ := Prod.mk.inj h
        exact (split_other a0 w h0 (by simpa using h1)).mono fun e w' hh => ⟨_, hh.1, Kd.R_nil _ _ _ _ _, hh.2⟩
  · rw [if_neg hs] at h
    cases h
end Go.Proofs.YtobjfdebcflocaaDoor.Q
