/- Layer 3, walked: the first of some spans of which something is so. -/
import Derived.Test.YtnoognbnkopdnaaSpanHas2
import Derived.Shelf.Abstract
import Derived.Deep.LoopGhost
set_option linter.unusedVariables false
set_option linter.unusedSimpArgs false
set_option exponentiation.threshold 2000
namespace Go.Proofs.Ytnoognbnkopdnaa
open Go.RowKit Go.Proofs.YtnoognbnkopdnaaW.PrintWords Flt Math

/-- Where the first true one stands; -1: none. -/
def firstI (bs : List Bool) : Int := if bs.any id then (bs.findIdx id : Int) else -1
theorem firstI_any (bs : List Bool) : decide (0 ≤ firstI bs) = bs.any id := by
  unfold firstI
  cases h : bs.any id
  · rfl
  · simp
theorem firstI_at (bs : List Bool) (i : Nat) (hi : i < bs.length) (h : bs[i] = true) (hb : ∀ j, (hj : j < i) → bs[j]'(by omega) = false) : firstI bs = i := by
  unfold firstI
  rw [if_pos (List.any_eq_true.2 ⟨_, List.getElem_mem hi, h⟩)]
  congr 1
  exact (List.findIdx_eq hi).2 ⟨h, hb⟩
theorem firstI_none (bs : List Bool) (hb : ∀ j, (hj : j < bs.length) → bs[j] = false) : firstI bs = -1 := by
  unfold firstI
  rw [if_neg]
  intro h
  obtain ⟨x, hx, hp⟩ := List.any_eq_true.1 h
  obtain ⟨j, hj, rfl⟩ := List.getElem_of_mem hx
  rw [hb j hj] at hp; cases hp
theorem drawn_cell {w W : World} (h : Drawn0 w W) (a : Addr) : W.cell? a = w.cell? a := by obtain ⟨n, rfl⟩ := h.out; simp
theorem drawn_trans {w W V : World} (h : Drawn0 w W) (h2 : Drawn0 W V) : Drawn0 w V := by
  obtain ⟨n, rfl⟩ := h.out
  obtain ⟨m, rfl⟩ := h2.out
  exact ⟨n + m, by simp⟩
/-- What holds of a value is asked in whatever world has drawn alone. -/
def Asks (g : FuncId) (lb : Array Value) (w : World) (v : Value) (b : Bool) : Prop := ∀ W, Drawn0 w W → Calls Try.prog g (#[v] ++ lb) W fun e w' => e = .returned (.bool b) ∧ Drawn0 W w'
set_option maxRecDepth 100000 in
set_option maxHeartbeats 1000000 in
theorem indexFunc_calls (g : FuncId) (lb : Array Value) (vs : List Value) (bs : List Bool) (hl : bs.length = vs.length) (bk o c : Nat) (w : World) (hone : ∀ v ∈ vs, v.oneCell' = true)
    (hp : ∀ (j : Nat) (hj : j < vs.length), Asks g lb w vs[j] (bs[j]'(by omega))) (eg : ∀ args W, (callFunc g args).run Try.prog W = .ok (.enter g args) W)
    (hn : vs.length ≤ 140737488355328) (hc : ∀ (j : Nat) (hj : j < vs.length), w.cell? ⟨bk, o + j, none⟩ = some vs[j]) :
    Calls Try.prog 41 #[.slice (some ⟨bk, o, none⟩) vs.length c, .func (.func g) #[] lb] w fun e w' => e = .returned (.int .i64 (firstI bs)) ∧ Drawn0 w w' := by
  have HC := Lib.hid hc
  have HP := Lib.hid hp
  have HO := Lib.hid hone
  clear hc hp hone
  go_enter Try.func41, Try.ntmps41
  go_wp2
  go_loopg [8] vs.length (fun gk v8 wx => ∃ i : Nat, i + gk = vs.length ∧ v8 = .int .i64 i ∧ Hid (∀ j, (hj : j < bs.length) → j < i → bs[j] = false) ∧ Hid (Drawn0 w wx))
  case atStart => exact ⟨0, by omega, rfl, Lib.hid (fun j _ h => by omega), Lib.hid (Drawn0.refl _)⟩
  case round =>
    obtain ⟨i, hig, rfl, HB, HD⟩ := hrel
    cases gk with
    | zero =>
      obtain rfl : i = vs.length := by omega
      have hiz : ¬ ((vs.length : Int) < (vs.length : Int)) := by omega
      clear hig
      go_wp2
      go_ret
      rw [firstI_none bs (fun j hj => HB.out j hj (by omega))]
      exact ⟨rfl, HD.out⟩
    | succ gj =>
      have hi : i < vs.length := by omega
      have hiz : (i : Int) < (vs.length : Int) := by omega
      have hc1 := (drawn_cell HD.out ⟨bk, o + i, none⟩).trans (HC.out i hi)
      have h1 := HO.out _ (List.getElem_mem hi)
      have hcall := HP.out i hi _ HD.out
      obtain ⟨v, hv⟩ : ∃ v, vs[i] = v := ⟨_, rfl⟩
      rw [hv] at hc1 h1 hcall
      have HV := Lib.hid hv
      clear hv
      generalize hb : bs[i]'(by omega) = b at hcall
      have HPB := Lib.hid hb
      clear hb
      cases b with
      | true =>
        go_wp2_with (go_at_fn g; refine hcall.mono ?_; rintro e w' ⟨rfl, hd⟩)
        go_ret
        rw [firstI_at bs i (by omega) HPB.out (fun j hj => HB.out j (by omega) hj)]
        exact ⟨rfl, drawn_trans HD.out hd⟩
      | false =>
        go_wp2_with (go_at_fn g; refine hcall.mono ?_; rintro e w' ⟨rfl, hd⟩)
        go_roundg gj
        case measure => omega
        case rel =>
          refine ⟨i + 1, by omega, by go_num, Lib.hid (fun j hj hji => ?_), Lib.hid (drawn_trans HD.out hd)⟩
          by_cases e : j = i
          · subst e; exact HPB.out
          · exact HB.out j hj (by omega)
set_option maxRecDepth 100000 in
set_option maxHeartbeats 1000000 in
theorem containsFunc_calls (g : FuncId) (lb : Array Value) (vs : List Value) (bs : List Bool) (hl : bs.length = vs.length) (bk o c : Nat) (w : World) (hone : ∀ v ∈ vs, v.oneCell' = true)
    (hp : ∀ (j : Nat) (hj : j < vs.length), Asks g lb w vs[j] (bs[j]'(by omega))) (eg : ∀ args W, (callFunc g args).run Try.prog W = .ok (.enter g args) W)
    (hn : vs.length ≤ 140737488355328) (hc : ∀ (j : Nat) (hj : j < vs.length), w.cell? ⟨bk, o + j, none⟩ = some vs[j]) :
    Calls Try.prog 33 #[.slice (some ⟨bk, o, none⟩) vs.length c, .func (.func g) #[] lb] w fun e w' => e = .returned (.bool (bs.any id)) ∧ Drawn0 w w' := by
  rw [← firstI_any]
  have HI := Lib.hid (indexFunc_calls g lb vs bs hl bk o c w hone hp eg hn hc)
  clear hc hp hone
  go_enter Try.func33, Try.ntmps33
  go_wp2_with (go_at_call 41; refine HI.out.mono ?_; rintro e w' ⟨rfl, hd⟩)
  go_ret
  exact ⟨rfl, hd⟩
theorem run_store_float (W : World) (a : Addr) (x : Nat) (m : Mode) : (store a (.float .f64 x) m).run Try.prog W = stored Try.prog W a (.float .f64 x) m := run_store Try.prog W a _ m rfl
theorem run_store_span (W : World) (a : Addr) (x n : Nat) (m : Mode) : (store a (sp x n) m).run Try.prog W = stored Try.prog W a (sp x n) m := run_store Try.prog W a _ m rfl
attribute [local go_sem] run_store_float
set_option maxRecDepth 100000 in
set_option maxHeartbeats 1000000 in
/-- Has, at some spans: is a place in one of them? -/
theorem has_calls (at_ : Int) : ∃ U : Int, ∀ (ss : List (Nat × Nat)) (hs : ∀ s ∈ ss, s.1 + s.2 ≤ 1099511627776) (bk o c : Nat) (w : World), ss.length ≤ 140737488355328 → bk < w.heap.size →
    (∀ (j : Nat) (hj : j < ss.length), w.cell? ⟨bk, o + j, none⟩ = some (sp ss[j].1 ss[j].2)) →
    Calls Try.prog 24 #[.slice (some ⟨bk, o, none⟩) ss.length c, .int .i64 at_] w fun e w' => e = .returned (.bool (ss.any fun s => inS U s.1 s.2)) ∧ Below w.heap.size w w' := by
  obtain ⟨U, hU⟩ := place_order at_
  refine ⟨U, fun ss hs bk o c w hn hbk hc => ?_⟩
  have HC := Lib.hid hc
  clear hc
  have HU := Lib.hid hU
  clear hU
  have hcv : ∀ W, (convert 3 25 (.int .i64 at_)).run Try.prog W = .ok (.float .f64 (floatOfInt .f64 at_)) W := fun W => by
    rw [run_convert_int_float W 3 25 .i64 .f64 at_ (by rw [Try.underlying3]; rfl) Try.underlying25]
  generalize floatOfInt .f64 at_ = P at *
  go_enter Try.func24, Try.ntmps24
  go_wp2_with fail
  have HH := containsFunc_calls 34 #[.pointer (some ⟨w.heap.size, 0, none⟩)] (ss.map fun s => sp s.1 s.2) (ss.map fun s => inS U s.1 s.2) (by simp) bk o c (w.alloc (.cells #[.float .f64 P] 25)) ?_ ?_ (enters_of Try.func34 (by kernel_rfl) rfl) ?_ ?_
  · rw [List.length_map, List.any_map] at HH
    refine HH.mono ?_
    rintro e w' ⟨rfl, hd⟩
    have HD := Lib.hid hd
    clear hd HH
    go_wp2_with fail
    go_ret
    exact ⟨rfl, (Below.refl _ _).trans (((Below.refl _ _).alloc (Nat.le_refl _) _).trans (HD.out.below.mono (by simp)))⟩
  · intro v hv
    obtain ⟨s, _, rfl⟩ := List.mem_map.1 hv
    rfl
  · intro j hj W hW
    simp only [List.getElem_map]
    refine (has1_calls _ _ (hs _ (List.getElem_mem (by simpa using hj))) P U HU.out w.heap.size W ?_).mono (fun _ _ h => h)
    rw [drawn_cell hW]; simp
  · simpa using hn
  · intro j hj
    simp only [List.getElem_map]
    rw [← HC.out j (by simpa using hj)]
    exact ((Below.refl _ _).alloc (Nat.le_refl _) _).cell (p := ⟨bk, o + j, none⟩) hbk
end Go.Proofs.Ytnoognbnkopdnaa
