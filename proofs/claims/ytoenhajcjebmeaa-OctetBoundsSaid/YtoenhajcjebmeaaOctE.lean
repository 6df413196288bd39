/- What octet.TakeList comes to: as many texts as are told, one by one. -/
import Derived.Test.YtoenhajcjebmeaaOctD
import Derived.OneCell
import Derived.Laws.EntriesVeiled
import Derived.BigQuiet
import Derived.Deep.QuietTactic
set_option linter.unusedVariables false
set_option linter.unusedSimpArgs false
namespace Go.Proofs.Ytoenhajcjebmeaa
open Go.RowKit Go.Proofs.YtoenhajcjebmeaaW.PrintWords Go.Proofs.YtoenhajcjebmeaaW.PrintLast Go.Proofs.YtoenhajcjebmeaaW.PrintMore Math

/-- A block of one cell. -/
def One (w : World) (b : Nat) (v : Value) (t : TypeId) : Prop := w.heap[b]? = some (.cells #[v] t (0, 0))
theorem One.cell {w : World} {b : Nat} {v : Value} {t : TypeId} (h : One w b v t) : w.cell? ⟨b, 0, none⟩ = some v := by simp [World.cell?, show w.heap[b]? = _ from h]
theorem One.free {w : World} {b : Nat} {v : Value} {t : TypeId} (h : One w b v t) : w.frozen? ⟨b, 0, none⟩ = false := by simp [World.frozen?, show w.heap[b]? = _ from h]
theorem One.lt {w : World} {b : Nat} {v : Value} {t : TypeId} (h : One w b v t) : b < w.heap.size := (Array.getElem?_eq_some_iff.1 h).1
theorem One.set {w : World} {b : Nat} {v u : Value} {t : TypeId} (h : One w b v t) : One (w.setCell ⟨b, 0, none⟩ u) b u t := by
  have := heap_setCell_same w b 0 #[v] t u h
  exact this
theorem One.far {w : World} {b c : Nat} {v u : Value} {t : TypeId} (h : One w b v t) (hne : b ≠ c) : One (w.setCell ⟨c, 0, none⟩ u) b v t := by
  unfold One; rw [heap_setCell_other w ⟨c, 0, none⟩ b u hne]; exact h
theorem One.keep {w w1 : World} {b B : Nat} {v : Value} {t : TypeId} (h : One w b v t) (hB : Below B w w1) (hb : b < B) : One w1 b v t := by
  unfold One; rw [hB.block b hb]; exact h
theorem own_far {w : World} {base n c : Nat} {e : TypeId} {v u : Value} {xs : List Value} (h : w.ownsRow base e 1 v n xs) (hc : c < base) : (w.setCell ⟨c, 0, none⟩ u).ownsRow base e 1 v n xs :=
  own_move h (fun k hk => heap_setCell_other w ⟨c, 0, none⟩ k u (by have := own_base h k hk; show k ≠ c; omega))

set_option maxHeartbeats 4000000 in
set_option maxRecDepth 1000000 in
theorem take_calls (B0 B1 B2 B3 base : Nat) (hB : B0 < B1 ∧ B1 < B2 ∧ B2 < B3 ∧ B3 < base) (r : List UInt8) (long e0 : Int) (v : Value) (xs : List ByteArray) (w : World)
    (h5 : One w B0 (.int .i64 long) 3) (h10 : One w B1 (.string ⟨r.toArray⟩) 9) (h11 : One w B2 (.int .i64 e0) 33) (h12 : One w B3 v 27)
    (ho : w.ownsRow base 9 1 v xs.length (strsV xs)) (hr : r.length ≤ 8000000000000) (hx : xs.length ≤ 8000000000000) (hl : -9223372036854775808 ≤ long ∧ long ≤ 9223372036854775807) (hbs : base ≤ w.heap.size) :
    Calls Try.prog 30 #[.pointer (some ⟨B1, 0, none⟩), .pointer (some ⟨B0, 0, none⟩), .pointer (some ⟨B3, 0, none⟩), .pointer (some ⟨B2, 0, none⟩)] w fun e w' =>
      e = .returned (.tuple #[]) ∧ ∃ v', One w' B0 (.int .i64 long) 3 ∧ One w' B1 (.string ⟨(textL r long).2.1.toArray⟩) 9 ∧ One w' B2 (.int .i64 (textL r long).2.2) 33 ∧ One w' B3 v' 27 ∧
        w'.ownsRow base 9 1 v' (xs ++ [(⟨(textL r long).1.toArray⟩ : ByteArray)]).length (strsV (xs ++ [(⟨(textL r long).1.toArray⟩ : ByteArray)])) ∧ Below B0 w w' := by
  have c5 := h5.cell; have c10 := h10.cell
  have hz := h12.lt
  have H5 := Lib.hid h5; have H10 := Lib.hid h10; have H11 := Lib.hid h11; have H12 := Lib.hid h12; have HO := Lib.hid ho
  clear h5 h10 h11 h12 ho
  go_enter Try.func30, Try.ntmps30
  go_wp2_with fail
  refine (octet_TakeText.calls ⟨r.toArray⟩ long ⟨(textL r long).1.toArray⟩ ⟨(textL r long).2.1.toArray⟩ (textL r long).2.2 _ (by unfold octet_TakeText.f; rw [if_pos ⟨by rw [mk_size]; omega, hl⟩]; rfl)).mono ?_
  rintro e w1 ⟨rfl, hd⟩
  have hb := hd.below
  have HB := Lib.hid (show Below B0 w w1 from hb.mono (by omega))
  have hz1 := hb.size
  have G5 := Lib.hid (H5.out.keep hb (by omega)); have G10 := Lib.hid (H10.out.keep hb (by omega)); have G11 := Lib.hid (H11.out.keep hb (by omega)); have G12 := Lib.hid (H12.out.keep hb (by omega)); have GO := Lib.hid (pw_own_below HO.out hb)
  have HR := Lib.hid (Below.refl base w1)
  clear hd hb c5 c10 H5 H10 H11 H12 HO
  have c12 := G12.out.cell
  go_wp2_with (at_builtin; go_must (refine print_append base rfl (.tmp 14) (.tmp 16) 27 9 (.string ⟨#[]⟩) 16 rfl Try.underlying27 info9 rfl (by decide) v (strsV xs) _ rfl rfl rfl (by rw [strsV_len]; exact GO.out) HR.out (by omega) (by rw [strsV_len]; omega) ?_); intro v1 w3 hown3 hb3 _ _; obtain ⟨A1, cap1, rfl⟩ := own_slice hown3; have HO3 := Lib.hid hown3; have HB3 := Lib.hid hb3; have hs3 := hb3.size; have K5 := Lib.hid (G5.out.keep hb3 (by omega)); have K10 := Lib.hid (G10.out.keep hb3 (by omega)); have K11 := Lib.hid (G11.out.keep hb3 (by omega)); have K12 := Lib.hid (G12.out.keep hb3 (by omega)); clear hown3 hb3 c12 G5 G10 G11 G12 GO HR; have d10 := K10.out.cell; have d11 := K11.out.cell; have d12 := K12.out.cell; have f10 := K10.out.free; have f11 := K11.out.free; have f12 := K12.out.free)
  go_end0
  refine ⟨rfl, .slice A1 ((strsV xs).length + 1) cap1, ?_, ?_, ?_, ?_, ?_, ?_⟩
  · exact ((K5.out.far (by omega)).far (by omega)).far (by omega)
  · exact ((K10.out.far (by omega)).set).far (by omega)
  · exact ((K11.out.far (by omega)).far (by omega)).set
  · exact ((K12.out.set).far (by omega)).far (by omega)
  · have h := own_far (u := .int .i64 (textL r long).2.2) (c := B2) (own_far (u := .string ⟨(textL r long).2.1.toArray⟩) (c := B1) (own_far (u := .slice A1 ((strsV xs).length + 1) cap1) (c := B3) HO3.out (by omega)) (by omega)) (by omega)
    have e1 : strsV (xs ++ [(⟨(textL r long).1.toArray⟩ : ByteArray)]) = strsV xs ++ [Value.string ⟨(textL r long).1.toArray⟩] := by simp [strsV]
    have e2 : (xs ++ [(⟨(textL r long).1.toArray⟩ : ByteArray)]).length = (strsV xs ++ [Value.string ⟨(textL r long).1.toArray⟩]).length := by simp [strsV]
    rw [e1, e2]
    simpa using h
  · exact (((HB.out.trans (HB3.out.mono (by omega))).setCell (by show B0 ≤ B3; omega) _).setCell (by show B0 ≤ B1; omega) _).setCell (by show B0 ≤ B2; omega) _

def octet_TakeList.f (a0 : ByteArray) (a1 a2 : Int) : Option (List ByteArray × ByteArray × Int) :=
  if a0.size ≤ 8000000000000 ∧ (-9223372036854775808 ≤ a1 ∧ a1 ≤ 9223372036854775807) ∧ (-9223372036854775808 ≤ a2 ∧ a2 ≤ 9223372036854775807) then some (outLs (listL a0.data.toList a1 a2)) else none

set_option maxHeartbeats 4000000 in
set_option maxRecDepth 1000000 in
theorem takeList_calls (s : ByteArray) (m long : Int) (w : World) (hs : s.size ≤ 8000000000000) (hm : -9223372036854775808 ≤ m ∧ m ≤ 9223372036854775807) (hl : -9223372036854775808 ≤ long ∧ long ≤ 9223372036854775807) :
    Calls Try.prog 26 #[.string s, .int .i64 m, .int .i64 long] w fun e w' => ∃ v0_ : Value, e = .returned (.tuple #[v0_, .string ⟨(listL s.data.toList m long).2.1.toArray⟩, .int .i64 (listL s.data.toList m long).2.2]) ∧ Kd.R Kd.string 9 w' w.heap.size (fun _ => True) v0_ (mks (listL s.data.toList m long).1) ∧ Below w.heap.size w w' := by
  have hn := takeN0_lt s.data.toList
  have hln := (takeN_len s.data.toList 0 0).1
  have HN := Lib.hid (takeN_len s.data.toList 0 0)
  obtain ⟨n, hn'⟩ : ∃ n, n = (takeN 0 0 s.data.toList).1 := ⟨_, rfl⟩
  obtain ⟨r, hr'⟩ : ∃ r, r = (takeN 0 0 s.data.toList).2.1 := ⟨_, rfl⟩
  obtain ⟨e0, he'⟩ : ∃ e, e = (takeN 0 0 s.data.toList).2.2 := ⟨_, rfl⟩
  have hout : octet_TakeNum.f s = some ((n : Int), (⟨r.toArray⟩ : ByteArray), e0) := by
    unfold octet_TakeNum.f takeNumS outN; rw [if_pos (by omega), hn', hr', he']
  have HL : listL s.data.toList m long = if e0 = 0 then (if m < 0 ∨ m < (n : Int) then ([], [], 5) else loopL n r [] long) else ([], [], e0) := by
    unfold listL; rw [hn', hr', he']
  rw [← hn'] at hn
  rw [← hr'] at hln
  have hrl : r.length ≤ 8000000000000 := by rw [← sz] at hln; omega
  clear hn' hr' he' hln HN
  rw [HL]
  clear HL
  have hN0 : ∀ w' : World, Below w.heap.size w w' → Kd.R Kd.string 9 w' w.heap.size (fun _ => True) (.slice none 0 0) (mks []) := fun w' _ => Kd.R_nil _ _ _ _ _
  have HN0 := Lib.hid hN0
  clear hN0
  by_cases he : e0 = 0
  · subst he
    rw [if_pos rfl]
    by_cases hm0 : m < 0 ∨ m < (n : Int)
    · rw [if_pos hm0]
      by_cases hm1 : m < 0
      · have hm2 : decide (m < 0) = true := decide_eq_true hm1
        clear hm0 hm1
        go_enter Try.func26, Try.ntmps26
        go_wp2_with fail
        refine (octet_TakeNum.calls s _ _ _ _ hout).mono ?_
        rintro e w1 ⟨rfl, hd⟩
        have hb := Lib.hid (hd.below)
        have hz := hd.below.size
        clear hd hout
        go_wp2_with fail
        go_ret3
        have HB := (((Below.refl w.heap.size w).alloc (Nat.le_refl _) (.cells #[.int .i64 long] 3)).trans (hb.out.mono (by simp)))
        have hz2 : w.heap.size ≤ w1.heap.size := HB.size
        have HB2 := (HB.alloc hz2 (.cells #[.string ⟨r.toArray⟩] 9)).alloc (by simp; omega) (.cells #[.int .i64 0] 33)
        exact ⟨_, rfl, HN0.out _ HB2, HB2⟩
      · have hm2 : decide (m < 0) = false := decide_eq_false hm1
        have hmw : IntKind.u64.wrap m = m := by rw [IntKind.wrap_u64]; omega
        have hmw2 : m % 18446744073709551616 = m := by omega
        have hm3 : decide (m < (n : Int)) = true := decide_eq_true (by omega)
        clear hm0 hm1
        go_enter Try.func26, Try.ntmps26
        go_wp2_with fail
        refine (octet_TakeNum.calls s _ _ _ _ hout).mono ?_
        rintro e w1 ⟨rfl, hd⟩
        have hb := Lib.hid (hd.below)
        have hz := hd.below.size
        clear hd hout
        go_wp2_with fail
        go_ret3
        have HB := (((Below.refl w.heap.size w).alloc (Nat.le_refl _) (.cells #[.int .i64 long] 3)).trans (hb.out.mono (by simp)))
        have hz2 : w.heap.size ≤ w1.heap.size := HB.size
        have HB2 := (HB.alloc hz2 (.cells #[.string ⟨r.toArray⟩] 9)).alloc (by simp; omega) (.cells #[.int .i64 0] 33)
        exact ⟨_, rfl, HN0.out _ HB2, HB2⟩
    · rw [if_neg hm0]
      have hm2 : decide (m < 0) = false := decide_eq_false (by omega)
      have hmw : IntKind.u64.wrap m = m := by rw [IntKind.wrap_u64]; omega
      have hmw2 : m % 18446744073709551616 = m := by omega
      have hm3 : decide (m < (n : Int)) = false := decide_eq_false (by omega)
      clear hm0
      obtain ⟨RES, hRES⟩ : ∃ RES, RES = loopL n r [] long := ⟨_, rfl⟩
      have HRES := Lib.hid hRES
      rw [← hRES]
      clear hRES
      go_enter Try.func26, Try.ntmps26
      go_wp2_with fail
      refine (octet_TakeNum.calls s _ _ _ _ hout).mono ?_
      rintro e w1 ⟨rfl, hd⟩
      have hb := Lib.hid (hd.below)
      have hz : w1.heap.size = w.heap.size + 1 := by obtain ⟨q, rfl⟩ := hd.out; simp
      clear hd hout
      go_wp2_with fail
      have HB0 := Lib.hid (((((Below.refl w.heap.size w).alloc (Nat.le_refl _) (.cells #[.int .i64 long] 3)).trans (hb.out.mono (by simp))).alloc (by omega) (.cells #[.string ⟨r.toArray⟩] 9)).alloc (by simp; omega) (.cells #[.int .i64 0] 33) |>.alloc (by simp; omega) (.cells #[.slice none 0 0] 27))
      have O5 : One w1 w.heap.size (.int .i64 long) 3 := One.keep (B := w.heap.size + 1) (heap_alloc_new w _) (by have := hb.out; simpa using this) (by omega)
      have hW : ∀ W, W = ((w1.alloc (.cells #[.string ⟨r.toArray⟩] 9)).alloc (.cells #[.int .i64 0] 33)).alloc (.cells #[.slice none 0 0] 27) →
          One W w.heap.size (.int .i64 long) 3 ∧ One W (w.heap.size + 1) (.string ⟨r.toArray⟩) 9 ∧ One W (w.heap.size + 1 + 1) (.int .i64 0) 33 ∧ One W (w.heap.size + 1 + 1 + 1) (.slice none 0 0) 27 ∧ W.heap.size = w.heap.size + 1 + 1 + 1 + 1 := by
        intro W hW
        subst hW
        refine ⟨?_, ?_, ?_, ?_, ?_⟩
        · exact (heap_alloc_old _ _ (by simp; omega)).trans ((heap_alloc_old _ _ (by simp; omega)).trans ((heap_alloc_old _ _ (by omega)).trans O5))
        · have h := heap_alloc_new w1 (.cells #[.string ⟨r.toArray⟩] 9)
          rw [hz] at h
          exact (heap_alloc_old _ _ (by simp; omega)).trans ((heap_alloc_old _ _ (by simp; omega)).trans h)
        · have h := heap_alloc_new (w1.alloc (.cells #[.string ⟨r.toArray⟩] 9)) (.cells #[.int .i64 0] 33)
          rw [show (w1.alloc (.cells #[.string ⟨r.toArray⟩] 9)).heap.size = w.heap.size + 1 + 1 from by simp; omega] at h
          exact (heap_alloc_old _ _ (by simp; omega)).trans h
        · have h := heap_alloc_new ((w1.alloc (.cells #[.string ⟨r.toArray⟩] 9)).alloc (.cells #[.int .i64 0] 33)) (.cells #[.slice none 0 0] 27)
          rw [show ((w1.alloc (.cells #[.string ⟨r.toArray⟩] 9)).alloc (.cells #[.int .i64 0] 33)).heap.size = w.heap.size + 1 + 1 + 1 from by simp; omega] at h
          exact h
        · simp; omega
      generalize hWd : ((w1.alloc (.cells #[.string ⟨r.toArray⟩] 9)).alloc (.cells #[.int .i64 0] 33)).alloc (.cells #[.slice none 0 0] 27) = W at *
      have hW := hW W rfl
      obtain ⟨h5, h10, h11, h12, hsz⟩ := hW
      have H5 := Lib.hid h5; have H10 := Lib.hid h10; have H11 := Lib.hid h11; have H12 := Lib.hid h12; have HSZ := Lib.hid hsz
      clear h5 h10 h11 h12 hsz hWd O5 hb hz
      go_loopg [9] n (fun g v9 wx => ∃ (rr : List UInt8) (acc : List (List UInt8)) (e : Int) (v : Value), v9 = .int .u64 g ∧ Hid (One wx w.heap.size (.int .i64 long) 3) ∧ Hid (One wx (w.heap.size + 1) (.string ⟨rr.toArray⟩) 9) ∧ Hid (One wx (w.heap.size + 1 + 1) (.int .i64 e) 33) ∧ Hid (One wx (w.heap.size + 1 + 1 + 1) v 27) ∧
        Hid (wx.ownsRow (w.heap.size + 1 + 1 + 1 + 1) 9 1 v (mks acc).length (strsV (mks acc))) ∧ Hid (w.heap.size + 1 + 1 + 1 + 1 ≤ wx.heap.size) ∧ Hid (Below w.heap.size w wx) ∧ g < 18446744073709551616 ∧
        Hid (e = 0 → loopL g rr acc long = RES ∧ acc.length + rr.length ≤ 8000000000000) ∧ Hid (e ≠ 0 → RES = ([], [], e)))
      case atStart => exact ⟨r, [], 0, .slice none 0 0, rfl, H5, H10, H11, H12, Lib.hid (own_nil _ _ _ _), Lib.hid (by rw [HSZ.out]; exact Nat.le_refl _), HB0, hn, Lib.hid (fun _ => ⟨HRES.out.symm, by simpa using hrl⟩), Lib.hid (fun h => absurd rfl h)⟩
      case round =>
        clear H5 H10 H11 H12 HSZ HB0 HRES
        obtain ⟨rr, acc, e, v, rfl, H5, H10, H11, H12, HO, HS, HB, hg, HE0, HE1⟩ := hrel
        have c10 := H10.out.cell; have c11 := H11.out.cell; have c12 := H12.out.cell
        obtain ⟨Av, cv, rfl⟩ := own_slice HO.out
        by_cases he : e = 0
        · subst he
          have hE := HE0.out rfl
          have HE := Lib.hid hE
          have hac : acc.length ≤ 8000000000000 := by omega
          have hrr : rr.length ≤ 8000000000000 := by omega
          clear hE HE0 HE1
          cases gk with
          | zero =>
            have hgz : decide ((0 : Int) < 0) = false := by decide
            obtain rfl : RES = (acc, rr, 0) := HE.out.1.symm
            go_wp2_with fail
            go_quiet (fail)
            go_wp2_with fail
            go_ret3
            exact ⟨_, rfl, Kd.R_of_own (pw_own_below (own_weaken HO.out (by omega)) (pw_below_drewN (Below.refl _ _) _)) (fun _ _ => trivial), pw_below_drewN HB.out _⟩
          | succ g =>
            have hgz : (0 : Int) < ((g + 1 : Nat) : Int) := by omega
            have hgw : ((g + 1 : Nat) : Int) - 1 = (g : Int) := by omega
            go_wp2_with fail
            refine (take_calls w.heap.size (w.heap.size + 1) (w.heap.size + 1 + 1) (w.heap.size + 1 + 1 + 1) (w.heap.size + 1 + 1 + 1 + 1) (by omega) rr long 0 (.slice Av (mks acc).length cv) (mks acc) _ H5.out H10.out H11.out H12.out HO.out hrr (by simpa [mks] using hac) hl HS.out).mono ?_
            rintro e w2 ⟨rfl, v', K5, K10, K11, K12, KO, KB⟩
            have J5 := Lib.hid K5; have J10 := Lib.hid K10; have J11 := Lib.hid K11; have J12 := Lib.hid K12; have JO := Lib.hid KO; have JB := Lib.hid KB
            clear K5 K10 K11 K12 KO KB c10 c11 c12
            go_wp2_with fail
            go_roundg g
            case measure => omega
            case rel =>
              have hL : loopL (g + 1) rr acc long = if (textL rr long).2.2 = 0 then loopL g (textL rr long).2.1 (acc ++ [(textL rr long).1]) long else ([], [], (textL rr long).2.2) := rfl
              have hlen := textL_len rr long
              refine ⟨(textL rr long).2.1, acc ++ [(textL rr long).1], (textL rr long).2.2, v', by go_num, J5, J10, J11, J12, ?_, Lib.hid (by have := HS.out; have := JB.out.size; omega), Lib.hid (HB.out.trans JB.out), by omega, Lib.hid (fun h0 => ?_), Lib.hid (fun h0 => ?_)⟩
              · have e1 : mks (acc ++ [(textL rr long).1]) = mks acc ++ [(⟨(textL rr long).1.toArray⟩ : ByteArray)] := by simp [mks]
                rw [e1]; exact JO
              · have h1 := HE.out.1
                rw [hL, if_pos h0] at h1
                have h2 := hlen h0
                have h3 := HE.out.2
                refine ⟨h1, ?_⟩
                rw [List.length_append]
                simp only [List.length_cons, List.length_nil]
                omega
              · have h1 := HE.out.1
                rw [hL, if_neg h0] at h1
                exact h1.symm
        · have heb : (e == 0) = false := by simpa using he
          have hen : (e != 0) = true := by simpa using he
          obtain rfl := HE1.out he
          clear he HE0 HE1
          go_wp2_with fail
          all_goals (go_quiet (fail); go_wp2_with fail; go_ret3; exact ⟨_, rfl, Kd.R_nil _ _ _ _ _, pw_below_drewN HB.out _⟩)
  · rw [if_neg he]
    have heb : (e0 != 0) = true := by simpa using he
    clear he
    go_enter Try.func26, Try.ntmps26
    go_wp2_with fail
    refine (octet_TakeNum.calls s _ _ _ _ hout).mono ?_
    rintro e w1 ⟨rfl, hd⟩
    have hb := Lib.hid (hd.below)
    have hz := hd.below.size
    clear hd hout
    go_wp2_with fail
    go_quiet (fail)
    go_wp2_with fail
    go_ret3
    have HB := (((Below.refl w.heap.size w).alloc (Nat.le_refl _) (.cells #[.int .i64 long] 3)).trans (hb.out.mono (by simp)))
    have hz2 : w.heap.size ≤ w1.heap.size := HB.size
    have HB2 := (HB.alloc hz2 (.cells #[.string ⟨r.toArray⟩] 9)).alloc (by simp; omega) (.cells #[.int .i64 e0] 33)
    exact ⟨_, rfl, HN0.out _ (pw_below_drewN HB2 _), pw_below_drewN HB2 _⟩
theorem octet_TakeList.calls (a0 : ByteArray) (a1 : Int) (a2 : Int) (r1 : List ByteArray) (r2 : ByteArray) (r3 : Int) (w : World) (h : octet_TakeList.f a0 a1 a2 = some (r1, r2, r3)) :
    Calls Try.prog 26 #[.string a0, .int .i64 a1, .int .i64 a2] w fun e w' => ∃ v0_ : Value, e = .returned (.tuple #[v0_, .string r2, .int .i64 r3]) ∧ Kd.R Kd.string 9 w' w.heap.size (fun _ => True) v0_ r1 ∧ Below w.heap.size w w' := by
  unfold octet_TakeList.f at h
  split at h
  · rename_i hh
    have h2 := Option.some.inj h
    obtain ⟨rfl, rfl, rfl⟩ : mks (listL a0.data.toList a1 a2).1 = r1 ∧ (⟨(listL a0.data.toList a1 a2).2.1.toArray⟩ : ByteArray) = r2 ∧ (listL a0.data.toList a1 a2).2.2 = r3 := by
      unfold outLs at h2
      simp only [Prod.mk.injEq] at h2
      exact h2
    exact takeList_calls a0 a1 a2 w hh.1 hh.2.1 hh.2.2
  · cases h
end Go.Proofs.Ytoenhajcjebmeaa
