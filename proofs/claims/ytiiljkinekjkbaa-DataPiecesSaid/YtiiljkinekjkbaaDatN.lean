/- Layer 9, walked: Pieces, Patch. -/
import Derived.Test.YtiiljkinekjkbaaDatM
set_option linter.unusedVariables false
set_option linter.unusedSimpArgs false
set_option exponentiation.threshold 2000
namespace Go.Proofs.Ytiiljkinekjkbaa
open Go.RowKit Go.Shelf Go.Lib Go.Sort Go.Proofs.YtiiljkinekjkbaaW.PrintWords Flt Math Clean

theorem RdP.at_ {w : World} {A : Option Addr} {l : List Sp} (h : RdP w A l) (i : Nat) (hi : i < l.length) : ∃ bk o, A = some ⟨bk, o, none⟩ ∧ w.cell? ⟨bk, o + i, none⟩ = some (eP l[i]) := by
  rcases h with ⟨rfl, rfl⟩ | ⟨bk, o, ha, _, hc⟩
  · cases hi
  · exact ⟨bk, o, ha, hc i hi⟩
/-- A row of texts that is read: nil, or its cells lie. -/
def RdS (w : World) (A : Option Addr) (l : List ByteArray) : Prop := l = [] ∨ ∃ ad, A = some ad ∧ ad.block < w.heap.size ∧ ∀ (j : Nat) (hj : j < l.length), w.cell? (ad.add j) = some (.string l[j])
theorem blk_add (ad : Addr) (j : Nat) : (ad.add j).block = ad.block := by
  unfold Addr.add
  split <;> rfl
theorem RdS.below {w w' : World} {A : Option Addr} {l : List ByteArray} (h : RdS w A l) (hb : Below w.heap.size w w') : RdS w' A l := by
  rcases h with h | ⟨ad, ha, hk, hc⟩
  · exact .inl h
  · exact .inr ⟨ad, ha, Nat.lt_of_lt_of_le hk hb.size, fun j hj => (hb.cell (p := ad.add j) (by rw [blk_add]; exact hk)).trans (hc j hj)⟩
theorem RdS.at_ {w : World} {A : Option Addr} {l : List ByteArray} (h : RdS w A l) (i : Nat) (hi : i < l.length) : ∃ ad, A = some ad ∧ w.cell? (ad.add i) = some (.string l[i]) := by
  rcases h with rfl | ⟨ad, ha, _, hc⟩
  · cases hi
  · exact ⟨ad, ha, hc i hi⟩
theorem own_readS {w : World} {b : Nat} {e : TypeId} {v : Value} {n : Nat} {l : List ByteArray} (h : w.ownsRow b e 1 v n (l.map Value.string)) : ∃ A c, v = .slice A l.length c ∧ RdS w A l ∧ l.length ≤ c := by
  have hl : l.length = n := by have := h.1; rw [List.length_map] at this; omega
  subst hl
  by_cases hv : v = .slice none 0 0
  · subst hv
    rcases h.2 with ⟨_, h0⟩ | ⟨g, cap, cur, e, _⟩
    · refine ⟨none, 0, by rw [h0], .inl (List.eq_nil_of_length_eq_zero h0), by omega⟩
    · cases e
  · obtain ⟨g, cap, rfl, hb, hg, hc, _, _, hH⟩ := holds_of_ownsRow (enc := Value.string) h hv
    refine ⟨_, cap, rfl, .inr ⟨⟨g, 0, none⟩, rfl, hg, fun j hj => ?_⟩, hc⟩
    have := (hH j (by simpa using hj)).1
    rw [add_at]
    rw [Nat.zero_add] at this
    rw [this]
    simp [getElem!_pos, hj]
theorem info_str : (Try.prog.info? 9).map (fun i => (i.zero, i.size, i.bytes)) = some (some (.string ⟨#[]⟩), 1, 16) := by kernel_rfl
/-- Some parts of a text. -/
def pcs (s : ByteArray) (l : List Sp) : List ByteArray := l.map fun x => (readR s x.1 x.2).1
theorem pcs_len (s : ByteArray) (l : List Sp) : (pcs s l).length = l.length := List.length_map ..
set_option maxHeartbeats 4000000 in
set_option maxRecDepth 1000000 in
theorem pieces_calls (s : ByteArray) (A : Option Addr) (c : Nat) (l : List Sp) (w : World) (hs : s.size ≤ 1099511627776) (h : RdP w A l) (hf : Fit l) (hn : l.length ≤ 1000000) :
    Calls Try.prog 25 #[.string s, .slice A l.length c] w fun e w' => ∃ A' c', e = .returned (.slice A' (pcs s l).length c') ∧ RdS w' A' (pcs s l) ∧ (pcs s l).length ≤ c' ∧ Below w.heap.size w w' := by
  obtain ⟨i0, hi0, hz0, hz1, hz2⟩ := info_parts info_str
  have HR := Lib.hid h; have HF := Lib.hid hf
  have hpl := pcs_len s l
  clear h hf
  go_enter Try.func25, Try.ntmps25
  go_wp2_with fail
  go_loopg [5, 14] l.length (fun gk v5 v14 wx => ∃ i : Nat, i + gk = l.length ∧ v14 = .int .i64 i ∧ Hid (wx.ownsRow w.heap.size 9 1 v5 i (((pcs s l).take i).map Value.string)) ∧ Hid (Below w.heap.size w wx))
  case atStart => exact ⟨0, by omega, rfl, Lib.hid (World.ownsRow_nil _ _ _ _), Lib.hid (Below.refl _ _)⟩
  case round =>
    obtain ⟨i, hi, rfl, HO, HW⟩ := hrel
    by_cases hlt : i < l.length
    · have hd : decide ((i : Int) < (l.length : Int)) = true := decide_eq_true (by omega)
      cases gk with
      | zero => omega
      | succ k =>
        obtain ⟨bk, o, hA, hx⟩ := HR.out.at_ i hlt
        subst hA
        replace hx := (HW.out.cell (World.block_lt_of_cell? w _ hx)).trans hx
        have hp := (parts_good l[i].1 l[i].2 (HF.out _ (List.getElem_mem hlt))).1
        have hrd := read_gives s l[i].1 l[i].2 hs
        have htk : (pcs s l).take (i + 1) = (pcs s l).take i ++ [(readR s l[i].1 l[i].2).1] := by
          rw [List.take_succ_eq_append_getElem (by omega)]
          congr 2
          unfold pcs
          rw [List.getElem_map]
        rw [show eP l[i] = sp l[i].1 l[i].2 from rfl] at hx
        have ho := HO.out
        obtain ⟨xs, hxs⟩ : ∃ xs, xs = ((pcs s l).take i).map Value.string := ⟨_, rfl⟩
        rw [← hxs] at ho
        have HTK := Lib.hid htk; have HP := Lib.hid hp; have HRD := Lib.hid hrd; have HXS := Lib.hid hxs; have HO4 := Lib.hid ho
        clear htk hp hrd hxs ho
        generalize (readR s l[i].1 l[i].2).1 = r1 at *
        generalize (readR s l[i].1 l[i].2).2 = r2 at *
        generalize sp l[i].1 l[i].2 = V at *
        generalize l[i].1 = x1 at *
        generalize l[i].2 = x2 at *
        go_wp2_with fail
        refine (HP.out _).mono ?_
        rintro e w3 ⟨rfl, rfl⟩
        go_wp2_with fail
        refine (HRD.out _).mono ?_
        rintro e w3 ⟨rfl, rfl⟩
        go_wp2_with (at_builtin; refine wpList_append_own _ rfl _ _ 46 rfl w.heap.size 9 i0 _ 1 16 Try.underlying46 hi0 hz0 hz1 hz2 rfl (by decide) u5 i xs rfl (HO4.out.alloc _) ⟨w3.heap.size, 0, none⟩ 1 1 [.string r1] rfl rfl (World.news_of_block (cs := #[.string r1]) (t := 9) (fr := (0, 0)) (heap_alloc_new w3 _)) (by intro u hu; rw [List.mem_singleton.1 hu]; rfl) (by unfold maxLen; omega) (by omega) (by rw [World.size_alloc]; exact Nat.le_succ_of_le HW.out.size) ?_)
        intro v' w5 hown hgrow _
        have HO5 := Lib.hid hown
        have HW5 := Lib.hid ((HW.out.alloc HW.out.size (.cells #[.string r1] 9)).grown hgrow (by rw [World.size_alloc]; exact Nat.le_succ_of_le HW.out.size) (fun k hk => (HO4.out.lt k hk).1))
        clear hown hgrow
        go_wp2_with fail
        go_roundg k
        case measure => omega
        case rel => exact ⟨i + 1, by omega, by congr 1, by rw [HTK.out, List.map_append, ← HXS.out]; exact HO5, HW5⟩
    · obtain rfl : gk = 0 := by omega
      obtain rfl : i = l.length := by omega
      have hd : decide ((l.length : Int) < (l.length : Int)) = false := decide_eq_false (by omega)
      have ho := HO.out
      rw [List.take_of_length_le (by omega)] at ho
      obtain ⟨A', c', e1, h2, h3⟩ := own_readS ho
      subst e1
      have H2 := Lib.hid h2
      clear h2 ho HO
      go_wp2_with fail
      go_ret
      exact ⟨A', c', rfl, H2.out, h3, HW.out⟩
/-- Parts written into a text, one behind the other. -/
def patchGo (s : ByteArray) : ByteArray → List Sp → List ByteArray → ByteArray × Int
  | out, x :: l, p :: ps => if (writeR out x.1 p).2 = 0 then patchGo s (writeR out x.1 p).1 l ps else (s, (writeR out x.1 p).2)
  | out, _, _ => (out, 0)
def patchR (s : ByteArray) (l : List Sp) (ps : List ByteArray) : ByteArray × Int := if l.length = ps.length then patchGo s s l ps else (s, 1)
theorem writeR_size (s : ByteArray) (a : Int) (t : ByteArray) : (writeR s a t).1.size ≤ max s.size 4096 := by
  unfold writeR
  split
  · split
    · exact Nat.le_max_left _ _
    · split
      · exact Nat.le_max_left _ _
      · show (⟨(wrL s a.toNat t).toArray⟩ : ByteArray).size ≤ _
        have e : (⟨(wrL s a.toNat t).toArray⟩ : ByteArray).size = (wrL s a.toNat t).length := List.size_toArray ..
        rw [e, wr_len]
        omega
  · exact Nat.le_max_left _ _
theorem writeR_err (s : ByteArray) (a : Int) (t : ByteArray) : (writeR s a t).2 = 0 ∨ (writeR s a t).2 = 1 ∨ (writeR s a t).2 = 5 := by
  unfold writeR
  split
  · split
    · exact .inr (.inr rfl)
    · split <;> exact .inl rfl
  · exact .inr (.inl rfl)
set_option maxHeartbeats 4000000 in
set_option maxRecDepth 1000000 in
theorem patch_calls (s : ByteArray) (A B : Option Addr) (c d : Nat) (l : List Sp) (ps : List ByteArray) (w : World) (hs : s.size ≤ 1000000) (ha : RdP w A l) (hb : RdS w B ps) (hf : Fit l) (hn : l.length ≤ 1000000) (hm : ps.length ≤ 9223372036854775807) :
    Calls Try.prog 14 #[.string s, .slice A l.length c, .slice B ps.length d] w fun e w' => e = .returned (.tuple #[.string (patchR s l ps).1, .int .i64 (patchR s l ps).2]) ∧ Below w.heap.size w w' := by
  unfold patchR
  by_cases hlen : l.length = ps.length
  · rw [if_pos hlen]
    have hne : ((l.length : Int) != (ps.length : Int)) = false := by simp [hlen]
    have HR := Lib.hid ha; have HF := Lib.hid hf; have HS := Lib.hid hb
    obtain ⟨R, hR⟩ : ∃ R, R = patchGo s s l ps := ⟨_, rfl⟩
    rw [← hR]
    have HRR := Lib.hid hR
    have HL := Lib.hid hlen
    clear ha hb hf hR hlen
    go_enter Try.func14, Try.ntmps14
    go_wp2_with fail
    go_loopg [8, 24] l.length (fun gk v8 v24 wx => ∃ (i : Nat) (out : ByteArray), i + gk = l.length ∧ v24 = .int .i64 i ∧ v8 = .string out ∧ out.size ≤ 1000000 ∧ Hid (R = patchGo s out (l.drop i) (ps.drop i)) ∧ Hid (Below w.heap.size w wx))
    case atStart => exact ⟨0, s, by omega, rfl, rfl, hs, HRR, Lib.hid (Below.refl _ _)⟩
    case round =>
      obtain ⟨i, out, hi, rfl, rfl, hout, HG, HW⟩ := hrel
      by_cases hlt : i < l.length
      · have hd : decide ((i : Int) < (l.length : Int)) = true := decide_eq_true (by omega)
        cases gk with
        | zero => omega
        | succ k =>
          obtain ⟨bk, o, hA, hx⟩ := HR.out.at_ i hlt
          have hlt2 : i < ps.length := by have := HL.out; omega
          obtain ⟨ad2, hB, hy⟩ := HS.out.at_ i hlt2
          subst hA hB
          replace hx := (HW.out.cell (World.block_lt_of_cell? w _ hx)).trans hx
          replace hy := (HW.out.cell (World.block_lt_of_cell? w _ hy)).trans hy
          have hp := (parts_good l[i].1 l[i].2 (HF.out _ (List.getElem_mem hlt))).1
          have hwr := fun w => write_calls out (l[i].1 : Int) ps[i] (by omega) w
          have hg := HG.out
          rw [List.drop_eq_getElem_cons hlt, List.drop_eq_getElem_cons hlt2] at hg
          unfold patchGo at hg
          have hws := writeR_size out (l[i].1 : Int) ps[i]
          have hwe := writeR_err out (l[i].1 : Int) ps[i]
          rw [show eP l[i] = sp l[i].1 l[i].2 from rfl] at hx
          have HP := Lib.hid hp; have HWR := Lib.hid hwr; have HG2 := Lib.hid hg
          have q1 : (i : Int) < (ps.length : Int) := by omega
          clear hp hwr hg HG
          generalize (writeR out (l[i].1 : Int) ps[i]).1 = r1 at *
          generalize (writeR out (l[i].1 : Int) ps[i]).2 = r2 at *
          generalize sp l[i].1 l[i].2 = V at *
          generalize l[i].1 = x1 at *
          generalize l[i].2 = x2 at *
          generalize ps[i] = pi at *
          by_cases h0 : r2 = 0
          · subst h0
            clear hwe
            go_wp2_with fail
            refine (HP.out _).mono ?_
            rintro e w3 ⟨rfl, rfl⟩
            go_wp2_with fail
            refine (HWR.out _).mono ?_
            rintro e w3 ⟨rfl, hb3⟩
            have HB3 := Lib.hid (below_then HW.out HW.out.size hb3)
            clear hb3
            go_wp2_with fail
            go_roundg k
            case measure => omega
            case rel => exact ⟨i + 1, r1, by omega, by congr 1, rfl, by omega, Lib.hid (by have := HG2.out; first | rw [if_pos rfl] at this | rw [if_pos trivial] at this; exact this), HB3⟩
          · have hb0 : (r2 != 0) = true := by simp [h0]
            have hRe : R = (s, r2) := by have := HG2.out; rw [if_neg h0] at this; exact this
            subst hRe
            clear HG2 hwe HRR h0
            go_wp2_with fail
            refine (HP.out _).mono ?_
            rintro e w3 ⟨rfl, rfl⟩
            go_wp2_with fail
            refine (HWR.out _).mono ?_
            rintro e w3 ⟨rfl, hb3⟩
            have HB3 := Lib.hid (below_then HW.out HW.out.size hb3)
            clear hb3
            go_wp2_with fail
            go_ret2
            exact ⟨rfl, HB3.out⟩
      · obtain rfl : gk = 0 := by omega
        obtain rfl : i = l.length := by omega
        have hd : decide ((l.length : Int) < (l.length : Int)) = false := decide_eq_false (by omega)
        have hRe : R = (out, 0) := by
          have := HG.out
          rw [List.drop_length] at this
          unfold patchGo at this
          exact this
        subst hRe
        clear HG HRR
        go_wp2_with fail
        go_ret2
        exact ⟨rfl, HW.out⟩
  · rw [if_neg hlen]
    have hne : ((l.length : Int) != (ps.length : Int)) = true := by simp; omega
    clear ha hb hf
    go_enter Try.func14, Try.ntmps14
    go_wp2_with fail
    go_ret2
    exact ⟨rfl, Below.refl _ _⟩
end Go.Proofs.Ytiiljkinekjkbaa
