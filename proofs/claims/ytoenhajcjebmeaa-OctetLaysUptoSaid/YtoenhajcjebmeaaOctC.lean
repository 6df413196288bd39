/- What octet.List comes to: how many texts there are, and each one's Text. -/
import Derived.Test.YtoenhajcjebmeaaOctB
set_option linter.unusedVariables false
set_option linter.unusedSimpArgs false
namespace Go.Proofs.Ytoenhajcjebmeaa
open Go.RowKit Go.Proofs.YtoenhajcjebmeaaW.PrintWords Math

def strsV (xs : List ByteArray) : List Value := xs.map Value.string
theorem strsV_len (xs : List ByteArray) : (strsV xs).length = xs.length := by simp [strsV]
/-- What List joins, i texts laid. -/
def listP (l : List ByteArray) (i : Nat) : List ByteArray := numS l.length :: (l.take i).map textS
def listS (l : List ByteArray) : ByteArray := joinS (listP l l.length)
theorem listP_len (l : List ByteArray) (i : Nat) (h : i ≤ l.length) : (listP l i).length = i + 1 := by simp [listP]; omega
theorem listP_succ (l : List ByteArray) (i : Nat) (h : i < l.length) : listP l (i + 1) = listP l i ++ [textS l[i]] := by
  simp only [listP, List.take_succ_eq_append_getElem h, List.map_append, List.map_cons, List.map_nil, List.cons_append]
theorem info9 : (Try.prog.info? 9).map (fun i => (i.zero, i.size, i.bytes)) = some (some (.string ⟨#[]⟩), 1, 16) := by kernel_rfl
/-- The lengths, added up. -/
def lensS (l : List ByteArray) : Nat := (l.map fun s => s.size + 20).sum
theorem flat_le (l : List ByteArray) : (flat l).length ≤ lensS l := by
  induction l with
  | nil => simp [flat]
  | cons a l ih =>
    simp only [flat, List.map_cons, List.flatten_cons, List.length_append, lensS, List.sum_cons] at ih ⊢
    rw [← sz]; omega
theorem lensS_mem {l : List ByteArray} {s : ByteArray} (h : s ∈ l) : s.size + 20 ≤ lensS l := by
  induction l with
  | nil => cases h
  | cons a l ih =>
    simp only [lensS, List.map_cons, List.sum_cons] at ih ⊢
    rcases List.mem_cons.1 h with rfl | h
    · omega
    · have := ih h; omega
theorem lensS_len (l : List ByteArray) : 20 * l.length ≤ lensS l := by
  induction l with
  | nil => simp
  | cons a l ih => simp only [lensS, List.map_cons, List.sum_cons, List.length_cons] at ih ⊢; omega
theorem flat_listP (l : List ByteArray) (hl : l.length < 18446744073709551616) (hs : lensS l ≤ 140737488355000) : (flat (listP l l.length)).length ≤ lensS l + 10 := by
  have h0 := numS_size10 hl
  simp only [listP, List.take_length, flat, List.map_cons, List.flatten_cons, List.length_append]
  rw [← sz]
  have : ∀ m : List ByteArray, (∀ s ∈ m, s.size < 18446744073709551616) → ((m.map textS).map (·.data.toList)).flatten.length ≤ lensS m := by
    intro m
    induction m with
    | nil => intro _; simp
    | cons a m ih =>
      intro hm
      have h1 := ih (fun s hs => hm s (List.mem_cons_of_mem _ hs))
      have h2 := numS_size10 (hm a List.mem_cons_self)
      simp only [List.map_cons, List.flatten_cons, List.length_append, lensS, List.sum_cons] at h1 ⊢
      have h3 : (textS a).data.toList.length = (numS a.size).size + a.size := by rw [← sz, textS, app_size]
      omega
  have h1 := this l (fun s h => by have := lensS_mem h; omega)
  omega
def octet_List.f (l0 : List ByteArray) : Option ByteArray := if lensS l0 ≤ 140737488355000 then some (listS l0) else none
theorem read_str {w : World} {A : Option Addr} {l : List ByteArray} (h : Kd.C Kd.string w A l.length l) (hl : 0 < l.length) : ∃ ad, A = some ad ∧ ∀ j (hj : j < l.length), w.cell? (ad.add j) = some (.string l[j]) := by
  obtain ⟨ad, e, hc⟩ := h.2.2 hl
  refine ⟨ad, e, fun j hj => ?_⟩
  obtain ⟨c, h1, h2, h3⟩ := hc j l[j] (List.getElem?_eq_getElem hj)
  have h2' : c = [Value.string l[j]] := h2
  have := h3 0 (.string l[j]) (by rw [h2']; rfl)
  simpa [Kd.string, Kd.scalar] using this

set_option maxHeartbeats 4000000 in
set_option maxRecDepth 1000000 in
theorem list_calls (A : Option Addr) (c : Nat) (l : List ByteArray) (w : World) (hr : Kd.C Kd.string w A l.length l) (hc : l.length ≤ c) (hs : lensS l ≤ 140737488355000) :
    Calls Try.prog 18 #[.slice A l.length c] w fun e w' => e = .returned (.string (listS l)) ∧ Below w.heap.size w w' := by
  have hlen := lensS_len l
  have hl : l.length ≤ 7036874417750 := by omega
  have HF := Lib.hid (flat_listP l (by omega) hs)
  have hm : (l.length : Int) % 18446744073709551616 = l.length := by omega
  have HR := Lib.hid hr
  clear hr hlen
  go_enter Try.func18, Try.ntmps18
  go_wp2_with fail
  refine (num_calls l.length (by omega) _).mono ?_
  rintro e w1 ⟨rfl, hb⟩
  have HB := Lib.hid hb
  have hbs := hb.size
  clear hb hm
  have HO0 : Hid ((w1.alloc (.cells #[.string (numS l.length)] 9)).ownsRow w.heap.size 9 1 (.slice (some ⟨w1.heap.size, 0, none⟩) 1 1) (listP l 0).length (strsV (listP l 0))) := Lib.hid (by
    have h := World.ownsRow_lit (base := w.heap.size) (e := 9) (size := 1) w1 #[.string (numS l.length)] 1 hbs (by simp [maxLen]) (by simp)
    simpa [listP, strsV] using h)
  have HB0 : Hid (Below w.heap.size w (w1.alloc (.cells #[.string (numS l.length)] 9))) := Lib.hid (HB.out.alloc hbs _)
  clear HB hbs
  go_wp2_with fail
  go_loopg [3, 13] l.length (fun g v3 v13 wx => ∃ (i : Nat), i + g = l.length ∧ v13 = .int .i64 i ∧ Hid (wx.ownsRow w.heap.size 9 1 v3 (listP l i).length (strsV (listP l i))) ∧ Hid (Below w.heap.size w wx))
  case atStart => exact ⟨0, by omega, rfl, HO0, HB0⟩
  case round =>
    clear HO0 HB0
    obtain ⟨i, hig, rfl, HO, HB⟩ := hrel
    cases gk with
    | zero =>
      obtain rfl : i = l.length := by omega
      have hiz : ¬ ((l.length : Int) < (l.length : Int)) := by omega
      clear hig
      have hll := listP_len l l.length (Nat.le_refl _)
      obtain ⟨g, cap, hv, hcap⟩ : ∃ g cap, u3 = .slice (some ⟨g, 0, none⟩) (listP l l.length).length cap ∧ (listP l l.length).length ≤ cap := by
        rcases (HO.out).2 with ⟨_, h1⟩ | ⟨g, cap, cur, he, _, _, h1, _⟩
        · rw [hll] at h1; omega
        · exact ⟨g, cap, he, h1⟩
      have hv0 := hv
      subst hv
      have hg : g < wr.heap.size := own_lt HO.out g rfl
      have hJ := Lib.hid (joined_calls g 0 cap (listP l l.length) wr (fun j x hj => by
        have h := (HO.out).cells (g := g) rfl j (.string x) (by rw [strsV, List.getElem?_map, hj]; rfl)
        rw [add_plain] at h
        rw [Nat.zero_add]; exact h) hg (by rw [hll]; omega) hcap (by have := HF.out; omega))
      clear hv0 hcap hll
      go_wp2_with fail
      refine (hJ.out).mono ?_
      rintro e w2 ⟨rfl, hb2⟩
      have HB2 := Lib.hid (below_then HB.out HB.out.size hb2)
      clear hb2
      go_wp2
      go_ret
      exact ⟨rfl, HB2.out⟩
    | succ g =>
      have hi : i < l.length := by omega
      have hiz : (i : Int) < (l.length : Int) := by omega
      obtain ⟨ad, rfl, hcell⟩ := read_str HR.out (by omega)
      have hc1 := pw_cell_below (w1 := wr) (by exact HB.out) (hcell i hi)
      have HS := Lib.hid (listP_succ l i hi)
      have HLL := Lib.hid (listP_len l i (by omega))
      clear hcell
      have HT : l[i].size ≤ 140737488355000 := by have := lensS_mem (List.getElem_mem hi); omega
      go_wp2_with fail
      refine (text_calls l[i] HT _).mono ?_
      rintro e w2 ⟨rfl, hb2⟩
      have HO2 := Lib.hid (pw_own_below HO.out hb2)
      have HB2 := Lib.hid (below_then HB.out HB.out.size hb2)
      have hs2 := HB2.out.size
      clear hb2 HO HB
      go_wp2_with (at_builtin; go_must (refine print_append w.heap.size rfl (.tmp 17) (.tmp 20) 27 9 (.string ⟨#[]⟩) 16 rfl Try.underlying27 info9 rfl (by decide) u3 (strsV (listP l i)) _ rfl rfl rfl (by rw [strsV_len]; exact HO2.out) HB2.out hs2 (by rw [strsV_len, HLL.out]; omega) ?_); intro v1 w3 hown3 hb3 _ _; have HO3 := Lib.hid hown3; have HB3 := Lib.hid hb3; clear hown3 hb3)
      go_roundg g
      case measure => omega
      case rel =>
        refine ⟨i + 1, by omega, by go_num, Lib.hid ?_, HB3⟩
        have := HO3.out
        rw [HS.out, strsV, List.map_append]
        rw [strsV] at this
        simpa using this
theorem octet_List.calls (A0 : Option Addr) (c0 : Nat) (l0 : List ByteArray) (r : ByteArray) (w : World) (hr0 : Kd.C Kd.string w A0 l0.length l0) (hc0 : l0.length ≤ c0) (h : octet_List.f l0 = some r) :
    Calls Try.prog 18 #[.slice A0 l0.length c0] w fun e w' => e = .returned (.string r) ∧ Below w.heap.size w w' := by
  unfold octet_List.f at h
  split at h
  · rename_i hh
    obtain rfl := Option.some.inj h
    exact list_calls A0 c0 l0 w hr0 hc0 hh
  · cases h
end Go.Proofs.Ytoenhajcjebmeaa
