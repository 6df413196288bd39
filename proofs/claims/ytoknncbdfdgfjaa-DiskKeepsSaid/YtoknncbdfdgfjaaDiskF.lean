/- Layer 4, walked: Right, Stretch. -/
import Derived.Test.YtoknncbdfdgfjaaDiskE
import Derived.Deep.LoopGhost
import Derived.Lib.Join
import Derived.Test.YtoknncbdfdgfjaaShelf
import Derived.Laws.EntriesVeiled
set_option linter.unusedVariables false
set_option linter.unusedSimpArgs false
namespace Go.Proofs.Ytoknncbdfdgfjaa.Q
open Go.RowKit Go.Shelf Go.Proofs.YtoknncbdfdgfjaaW.PrintWords Go.Proofs.YtoknncbdfdgfjaaW.PrintLast Go.Proofs.YtoknncbdfdgfjaaW.PrintMore

/-- Where the first true one stands; -1: none. -/
def firstI (bs : List Bool) : Int := if bs.any id then (bs.findIdx id : Int) else -1
theorem firstI_any (bs : List Bool) : decide (0 ≤ firstI bs) = bs.any id := by
  unfold firstI
  cases h : bs.any id
  · rfl
  · simp
theorem firstI_at (bs : List Bool) (i : Nat) (hi : i < bs.length) (h : bs[i] = true) (hb : ∀ j, (hj : j < i) → bs[j]'(by omega) = false) : firstI bs = i := by
  unfold firstI
  rw [if_pos (List.any_eq_true.2 ⟨_, List.getElem_mem hi, h⟩)]
  congr 1
  exact (List.findIdx_eq hi).2 ⟨h, hb⟩
theorem firstI_none (bs : List Bool) (hb : ∀ j, (hj : j < bs.length) → bs[j] = false) : firstI bs = -1 := by
  unfold firstI
  rw [if_neg]
  intro h
  obtain ⟨x, hx, hp⟩ := List.any_eq_true.1 h
  obtain ⟨j, hj, rfl⟩ := List.getElem_of_mem hx
  rw [hb j hj] at hp; cases hp

/-- What holds of an element is asked in whatever later world. -/
def AsksStr (g : FuncId) (lb : Array Value) (w : World) (v : Value) (b : Bool) : Prop := ∀ W, Below w.heap.size w W → Calls Try.prog g (#[v] ++ lb) W fun e w' => e = .returned (.bool b) ∧ Below W.heap.size W w'
set_option maxRecDepth 100000 in
set_option maxHeartbeats 1000000 in
theorem indexFuncStr_calls (g : FuncId) (lb : Array Value) (xs : List ByteArray) (bs : List Bool) (hl : bs.length = xs.length) (A : Option Addr) (c : Nat) (w : World)
    (hp : ∀ (j : Nat) (hj : j < xs.length), AsksStr g lb w (.string xs[j]) (bs[j]'(by omega))) (eg : ∀ args W, (callFunc g args).run Try.prog W = .ok (.enter g args) W)
    (hC : Kd.C Kd.string w A xs.length xs) :
    Calls Try.prog 45 #[.slice A xs.length c, .func (.func g) #[] lb] w fun e w' => e = .returned (.int .i64 (firstI bs)) ∧ Below w.heap.size w w' := by
  have hn := Kd.C_max hC
  have HC := Lib.hid hC
  have HP := Lib.hid hp
  clear hC hp
  go_enter Try.func45, Try.ntmps45
  go_wp2
  go_loopg [8] xs.length (fun gk v8 wx => ∃ i : Nat, i + gk = xs.length ∧ v8 = .int .i64 i ∧ Hid (∀ j, (hj : j < bs.length) → j < i → bs[j] = false) ∧ Hid (Below w.heap.size w wx))
  case atStart => exact ⟨0, by omega, rfl, Lib.hid (fun j _ h => by omega), Lib.hid (Below.refl _ _)⟩
  case round =>
    obtain ⟨i, hig, rfl, HB, HD⟩ := hrel
    cases gk with
    | zero =>
      obtain rfl : i = xs.length := by omega
      have hiz : ¬ ((xs.length : Int) < (xs.length : Int)) := by omega
      clear hig
      go_wp2
      go_ret
      rw [firstI_none bs (fun j hj => HB.out j hj (by omega))]
      exact ⟨rfl, HD.out⟩
    | succ gj =>
      have hi : i < xs.length := by omega
      have hiz : (i : Int) < (xs.length : Int) := by omega
      obtain ⟨ad, hA, hc1⟩ := Kd.at_string (Kd.C_below HC.out HD.out) (i : Int) (by omega) (by omega)
      subst hA
      rw [Int.toNat_natCast] at hc1
      have hrd : rdOf ByteArray.empty xs (i : Int) = xs[i] := by
        show xs.getD i _ = _
        rw [List.getD_eq_getElem?_getD, List.getElem?_eq_getElem hi]; rfl
      rw [hrd] at hc1
      clear hrd
      have hcall := HP.out i hi _ HD.out
      generalize hx : xs[i] = x at *
      have HX := Lib.hid hx
      clear hx
      generalize hb : bs[i]'(by omega) = b at hcall
      have HPB := Lib.hid hb
      clear hb
      cases b with
      | true =>
        go_wp2_with (go_at_fn g; refine hcall.mono ?_; rintro e w' ⟨rfl, hd⟩)
        go_ret
        rw [firstI_at bs i (by omega) HPB.out (fun j hj => HB.out j (by omega) hj)]
        exact ⟨rfl, HD.out.trans (hd.mono HD.out.size)⟩
      | false =>
        go_wp2_with (go_at_fn g; refine hcall.mono ?_; rintro e w' ⟨rfl, hd⟩)
        go_roundg gj
        case measure => omega
        case rel =>
          refine ⟨i + 1, by omega, by go_num, Lib.hid (fun j hj hji => ?_), Lib.hid (HD.out.trans (hd.mono HD.out.size))⟩
          by_cases e : j = i
          · subst e; exact HPB.out
          · exact HB.out j hj (by omega)
set_option maxRecDepth 100000 in
set_option maxHeartbeats 1000000 in
theorem containsFuncStr_calls (g : FuncId) (lb : Array Value) (xs : List ByteArray) (bs : List Bool) (hl : bs.length = xs.length) (A : Option Addr) (c : Nat) (w : World)
    (hp : ∀ (j : Nat) (hj : j < xs.length), AsksStr g lb w (.string xs[j]) (bs[j]'(by omega))) (eg : ∀ args W, (callFunc g args).run Try.prog W = .ok (.enter g args) W)
    (hC : Kd.C Kd.string w A xs.length xs) :
    Calls Try.prog 38 #[.slice A xs.length c, .func (.func g) #[] lb] w fun e w' => e = .returned (.bool (bs.any id)) ∧ Below w.heap.size w w' := by
  rw [← firstI_any]
  have HI := Lib.hid (indexFuncStr_calls g lb xs bs hl A c w hp eg hC)
  clear hC hp
  go_enter Try.func38, Try.ntmps38
  go_wp2_with (go_at_call 45; refine HI.out.mono ?_; rintro e w' ⟨rfl, hd⟩)
  go_ret
  exact ⟨rfl, hd⟩

/-- What holds of an element is asked in whatever later world. -/
def AsksPut (g : FuncId) (lb : Array Value) (w : World) (v : Value) (b : Bool) : Prop := ∀ W, Below w.heap.size w W → Calls Try.prog g (#[v] ++ lb) W fun e w' => e = .returned (.bool b) ∧ Below W.heap.size W w'
set_option maxRecDepth 100000 in
set_option maxHeartbeats 1000000 in
theorem indexFuncPut_calls (g : FuncId) (lb : Array Value) (xs : List S31) (bs : List Bool) (hl : bs.length = xs.length) (A : Option Addr) (c : Nat) (w : World)
    (hp : ∀ (j : Nat) (hj : j < xs.length), AsksPut g lb w (.agg #[.int .i64 xs[j].f0, .string xs[j].f1]) (bs[j]'(by omega))) (eg : ∀ args W, (callFunc g args).run Try.prog W = .ok (.enter g args) W)
    (hC : Kd.C k31 w A xs.length xs) :
    Calls Try.prog 46 #[.slice A xs.length c, .func (.func g) #[] lb] w fun e w' => e = .returned (.int .i64 (firstI bs)) ∧ Below w.heap.size w w' := by
  have hn := Kd.C_max hC
  have HC := Lib.hid hC
  have HP := Lib.hid hp
  clear hC hp
  go_enter Try.func46, Try.ntmps46
  go_wp2
  go_loopg [8] xs.length (fun gk v8 wx => ∃ i : Nat, i + gk = xs.length ∧ v8 = .int .i64 i ∧ Hid (∀ j, (hj : j < bs.length) → j < i → bs[j] = false) ∧ Hid (Below w.heap.size w wx))
  case atStart => exact ⟨0, by omega, rfl, Lib.hid (fun j _ h => by omega), Lib.hid (Below.refl _ _)⟩
  case round =>
    obtain ⟨i, hig, rfl, HB, HD⟩ := hrel
    cases gk with
    | zero =>
      obtain rfl : i = xs.length := by omega
      have hiz : ¬ ((xs.length : Int) < (xs.length : Int)) := by omega
      clear hig
      go_wp2
      go_ret
      rw [firstI_none bs (fun j hj => HB.out j hj (by omega))]
      exact ⟨rfl, HD.out⟩
    | succ gj =>
      have hi : i < xs.length := by omega
      have hiz : (i : Int) < (xs.length : Int) := by omega
      obtain ⟨ad, hA, hc0, hc1⟩ := at_T31 (Kd.C_below HC.out HD.out) (i : Int) (by omega) (by omega)
      subst hA
      rw [Int.toNat_natCast] at hc0 hc1
      have hrd : rd_T31 xs (i : Int) = xs[i] := by
        show xs.getD i _ = _
        rw [List.getD_eq_getElem?_getD, List.getElem?_eq_getElem hi]; rfl
      rw [hrd] at hc0 hc1
      clear hrd
      have hcall := HP.out i hi _ HD.out
      generalize hx : xs[i] = x at *
      have HX := Lib.hid hx
      clear hx
      generalize hb : bs[i]'(by omega) = b at hcall
      have HPB := Lib.hid hb
      clear hb
      cases b with
      | true =>
        go_wp2_with (go_at_fn g; refine hcall.mono ?_; rintro e w' ⟨rfl, hd⟩)
        go_ret
        rw [firstI_at bs i (by omega) HPB.out (fun j hj => HB.out j (by omega) hj)]
        exact ⟨rfl, HD.out.trans (hd.mono HD.out.size)⟩
      | false =>
        go_wp2_with (go_at_fn g; refine hcall.mono ?_; rintro e w' ⟨rfl, hd⟩)
        go_roundg gj
        case measure => omega
        case rel =>
          refine ⟨i + 1, by omega, by go_num, Lib.hid (fun j hj hji => ?_), Lib.hid (HD.out.trans (hd.mono HD.out.size))⟩
          by_cases e : j = i
          · subst e; exact HPB.out
          · exact HB.out j hj (by omega)
set_option maxRecDepth 100000 in
set_option maxHeartbeats 1000000 in
theorem containsFuncPut_calls (g : FuncId) (lb : Array Value) (xs : List S31) (bs : List Bool) (hl : bs.length = xs.length) (A : Option Addr) (c : Nat) (w : World)
    (hp : ∀ (j : Nat) (hj : j < xs.length), AsksPut g lb w (.agg #[.int .i64 xs[j].f0, .string xs[j].f1]) (bs[j]'(by omega))) (eg : ∀ args W, (callFunc g args).run Try.prog W = .ok (.enter g args) W)
    (hC : Kd.C k31 w A xs.length xs) :
    Calls Try.prog 39 #[.slice A xs.length c, .func (.func g) #[] lb] w fun e w' => e = .returned (.bool (bs.any id)) ∧ Below w.heap.size w w' := by
  rw [← firstI_any]
  have HI := Lib.hid (indexFuncPut_calls g lb xs bs hl A c w hp eg hC)
  clear hC hp
  go_enter Try.func39, Try.ntmps39
  go_wp2_with (go_at_call 46; refine HI.out.mono ?_; rintro e w' ⟨rfl, hd⟩)
  go_ret
  exact ⟨rfl, hd⟩
theorem right1_calls (s : ByteArray) (hs : s.size ≤ 9223372036854775807) (w : World) : Calls Try.prog 36 #[.string s] w fun e w' => e = .returned (.bool (!(decide (s.size = 64)))) ∧ w = w' := by
  by_cases h : s.size = 64
  · rw [decide_eq_true h]
    go_enter Try.func36, Try.ntmps36
    go_wp2
    go_ret
    exact ⟨rfl, rfl⟩
  · rw [decide_eq_false h]
    have hb : ((s.size : Int) != 64) = true := by simp; omega
    have hb2 : (s.size != 64) = true := by simp; omega
    go_enter Try.func36, Try.ntmps36
    go_wp2
    go_ret
    exact ⟨rfl, rfl⟩
/-- May a write not be? -/
def badPut (n : Nat) (p : S31) : Bool := decide (p.f0 < 0) || (decide ((n : Int) ≤ p.f0) || !(decide (p.f1.size = 64)))
set_option maxRecDepth 100000 in
set_option maxHeartbeats 1000000 in
theorem right2_calls (p : S31) (Bd Bs n c : Nat) (A : Option Addr) (w : World) (hd : w.cell? ⟨Bd, 0, none⟩ = some (.slice A n c)) (hf : w.cell? ⟨Bs, 0, none⟩ = some (.func (.func 36) #[] #[])) (hn : n ≤ 9223372036854775807) (hs : p.f1.size ≤ 9223372036854775807) (hdl : Bd < w.heap.size) (hfl : Bs < w.heap.size) :
    Calls Try.prog 37 (#[.agg #[.int .i64 p.f0, .string p.f1]] ++ #[.pointer (some ⟨Bd, 0, none⟩), .pointer (some ⟨Bs, 0, none⟩)]) w fun e w' => e = .returned (.bool (badPut n p)) ∧ Below w.heap.size w w' := by
  have hdn : ¬ (Bd = w.heap.size) := by omega
  have hfn : ¬ (Bs = w.heap.size) := by omega
  unfold badPut
  have hr := right1_calls p.f1 hs
  have HR := Lib.hid hr
  clear hr
  by_cases h1 : p.f0 < 0
  · rw [decide_eq_true h1, Bool.true_or]
    have g1 : decide (p.f0 < 0) = true := decide_eq_true h1
    go_enter Try.func37, Try.ntmps37
    go_wp2_with fail
    go_ret
    exact ⟨rfl, (Below.refl _ w).alloc (Nat.le_refl _) _⟩
  · rw [decide_eq_false h1, Bool.false_or]
    have g1 : decide (p.f0 < 0) = false := decide_eq_false h1
    by_cases h2 : (n : Int) ≤ p.f0
    · rw [decide_eq_true h2, Bool.true_or]
      have g2 : decide ((n : Int) ≤ p.f0) = true := decide_eq_true h2
      go_enter Try.func37, Try.ntmps37
      go_wp2_with fail
      go_ret
      exact ⟨rfl, (Below.refl _ w).alloc (Nat.le_refl _) _⟩
    · rw [decide_eq_false h2, Bool.false_or]
      have g2 : decide ((n : Int) ≤ p.f0) = false := decide_eq_false h2
      generalize (!decide (p.f1.size = 64)) = b at *
      go_enter Try.func37, Try.ntmps37
      go_wp2_with fail
      refine (HR.out _).mono ?_
      rintro e w1 ⟨rfl, rfl⟩
      go_wp2_with fail
      go_ret
      exact ⟨rfl, (Below.refl _ w).alloc (Nat.le_refl _) _⟩

/-- Is a disk right? -/
def rightB (l0 : List ByteArray) (l1 : List S31) : Bool := decide (1 ≤ l0.length) && (decide (l0.length ≤ 4096) && (!(l0.any fun s => !(decide (s.size = 64))) && !(l1.any (badPut l0.length))))
def disk_Right.f (l0_0 : List ByteArray) (l0_1 : List S31) (a0_2 : Bool) : Option Bool := if (∀ s ∈ l0_0, s.size ≤ 9223372036854775807) ∧ (∀ p ∈ l0_1, p.f1.size ≤ 9223372036854775807) then some (rightB l0_0 l0_1) else none
set_option maxRecDepth 100000 in
set_option maxHeartbeats 1000000 in
theorem disk_Right.calls (A0_0 : Option Addr) (c0_0 : Nat) (l0_0 : List ByteArray) (A0_1 : Option Addr) (c0_1 : Nat) (l0_1 : List S31) (a0_2 : Bool) (r : Bool) (w : World) (hr0_0 : Kd.C Kd.string w A0_0 l0_0.length l0_0) (hc0_0 : l0_0.length ≤ c0_0) (hr0_1 : Kd.C k31 w A0_1 l0_1.length l0_1) (hc0_1 : l0_1.length ≤ c0_1) (h : disk_Right.f l0_0 l0_1 a0_2 = some r) :
    Calls Try.prog 25 #[.agg #[.slice A0_0 l0_0.length c0_0, .slice A0_1 l0_1.length c0_1, .bool a0_2]] w fun e w' => e = .returned (.bool r) ∧ Below w.heap.size w w' := by
  unfold disk_Right.f at h
  split at h
  · rename_i hh
    obtain rfl := Option.some.inj h
    clear h
    have hn := Kd.C_max hr0_0
    obtain ⟨W2, hW2⟩ : ∃ W2, W2 = (w.alloc (.cells #[.slice A0_0 l0_0.length c0_0, .slice A0_1 l0_1.length c0_1, .bool a0_2] 25)).alloc (.cells #[.func (.func 36) #[] #[]] 68) := ⟨_, rfl⟩
    have hB2 : Below w.heap.size w W2 := by rw [hW2]; exact ((Below.refl _ w).alloc (Nat.le_refl _) _).alloc (by rw [World.size_alloc]; omega) _
    have hx2 : Box3 W2 w.heap.size (.slice A0_0 l0_0.length c0_0) (.slice A0_1 l0_1.length c0_1) (.bool a0_2) := by
      rw [hW2]; exact (heap_alloc_old _ _ (by rw [World.size_alloc]; omega)).trans (heap_alloc_new _ _)
    have hf2 : W2.heap[w.heap.size + 1]? = some (.cells #[.func (.func 36) #[] #[]] 68 (0, 0)) := by
      have h := heap_alloc_new (w.alloc (.cells #[.slice A0_0 l0_0.length c0_0, .slice A0_1 l0_1.length c0_1, .bool a0_2] 25)) (.cells #[.func (.func 36) #[] #[]] 68)
      rw [World.size_alloc] at h
      rw [hW2]; exact h
    have HS := Lib.hid (fun W (hW : Below W2.heap.size W2 W) => containsFuncStr_calls 36 #[] l0_0 (l0_0.map fun s => !(decide (s.size = 64))) (by simp) A0_0 c0_0 W
      (fun j hj V hV => by
        rw [List.getElem_map]
        refine (right1_calls _ (hh.1 _ (List.getElem_mem hj)) V).mono ?_
        rintro e w' ⟨rfl, rfl⟩
        exact ⟨rfl, Below.refl _ _⟩) (enters_of Try.func36 (by kernel_rfl) rfl) (Kd.C_below (Kd.C_below hr0_0 hB2) hW))
    have HPt := Lib.hid (fun W (hW : Below W2.heap.size W2 W) => containsFuncPut_calls 37 #[.pointer (some ⟨w.heap.size, 0, none⟩), .pointer (some ⟨w.heap.size + 1, 0, none⟩)] l0_1 (l0_1.map (badPut l0_0.length)) (by simp) A0_1 c0_1 W
      (fun j hj V hV => by
        rw [List.getElem_map]
        have hv := hW.trans (hV.mono hW.size)
        refine (right2_calls _ w.heap.size (w.heap.size + 1) l0_0.length c0_0 A0_0 V (hx2.below hv).cells.1 (by rw [blk_cell ((hv.block _ (blk_lt hf2)).trans hf2)]; rfl) hn (hh.2 _ (List.getElem_mem hj)) (blk_lt (hx2.below hv)) (blk_lt ((hv.block _ (blk_lt hf2)).trans hf2))).mono (fun _ _ h => h)) (enters_of Try.func37 (by kernel_rfl) rfl) (Kd.C_below (Kd.C_below hr0_1 hB2) hW))
    have hfc := blk_cell hf2 0
    simp only [List.getElem?_toArray, List.getElem?_cons_zero] at hfc
    have HB2 := Lib.hid hB2; have HX2 := Lib.hid hx2; have HF2 := Lib.hid hf2
    unfold rightB
    have hany : ((l0_0.map fun s => !(decide (s.size = 64))).any id) = (l0_0.any fun s => !(decide (s.size = 64))) := by rw [List.any_map]; rfl
    have hany2 : ((l0_1.map (badPut l0_0.length)).any id) = (l0_1.any (badPut l0_0.length)) := by rw [List.any_map]; rfl
    rw [hany] at HS
    rw [hany2] at HPt
    clear hany hany2 hh hr0_0 hr0_1
    generalize (l0_0.any fun s => !(decide (s.size = 64))) = b1 at *
    generalize (l0_1.any (badPut l0_0.length)) = b2 at *
    have HW2 := Lib.hid hW2
    clear hW2 hB2 hx2 hf2
    obtain ⟨q0, q1, q2, _, _, _⟩ := HX2.out.cells
    by_cases h1 : 1 ≤ l0_0.length
    · rw [decide_eq_true h1, Bool.true_and]
      have g1 : decide ((1 : Int) ≤ l0_0.length) = true := decide_eq_true (by omega)
      have g1n : decide (1 ≤ l0_0.length) = true := decide_eq_true h1
      by_cases h2 : l0_0.length ≤ 4096
      · rw [decide_eq_true h2, Bool.true_and]
        have g2 : decide ((l0_0.length : Int) ≤ 4096) = true := decide_eq_true (by omega)
        have g2n : decide (l0_0.length ≤ 4096) = true := decide_eq_true h2
        cases b1 with
        | true =>
          go_enter Try.func25, Try.ntmps25
          go_wp2_with fail
          rw [← HW2.out]
          refine (HS.out W2 (Below.refl _ _)).mono ?_
          rintro e w3 ⟨rfl, hb3⟩
          go_wp2_with fail
          go_ret
          exact ⟨rfl, HB2.out.trans (hb3.mono HB2.out.size)⟩
        | false =>
          go_enter Try.func25, Try.ntmps25
          go_wp2_with fail
          rw [← HW2.out]
          refine (HS.out W2 (Below.refl _ _)).mono ?_
          rintro e w3 ⟨rfl, hb3⟩
          obtain ⟨p0, p1, p2, _, _, _⟩ := (HX2.out.below hb3).cells
          have HB3 := Lib.hid hb3
          clear hb3
          go_wp2_with fail
          refine (HPt.out w3 HB3.out).mono ?_
          rintro e w4 ⟨rfl, hb4⟩
          cases b2
          all_goals
            go_wp2_with fail
            go_ret
            exact ⟨rfl, HB2.out.trans ((HB3.out.trans (hb4.mono HB3.out.size)).mono HB2.out.size)⟩
      · rw [decide_eq_false h2, Bool.false_and]
        have g2 : decide ((l0_0.length : Int) ≤ 4096) = false := decide_eq_false (by omega)
        have g2n : decide (l0_0.length ≤ 4096) = false := decide_eq_false h2
        go_enter Try.func25, Try.ntmps25
        go_wp2_with fail
        go_ret
        exact ⟨rfl, by rw [← HW2.out]; exact HB2.out⟩
    · rw [decide_eq_false h1, Bool.false_and]
      have g1 : decide ((1 : Int) ≤ l0_0.length) = false := decide_eq_false (by omega)
      have g1n : decide (1 ≤ l0_0.length) = false := decide_eq_false h1
      go_enter Try.func25, Try.ntmps25
      go_wp2_with fail
      go_ret
      exact ⟨rfl, by rw [← HW2.out]; exact HB2.out⟩
  · cases h
/-- Texts, one behind the other. -/
def joinT (xs : List ByteArray) : ByteArray := ⟨((xs.map (·.data.toList)).flatten).toArray⟩
theorem join_flatT (xs : List (List UInt8)) : Lib.join xs [] = xs.flatten := by
  cases xs with
  | nil => rfl
  | cons x r => rw [Lib.join_cons, Lib.joinTail, List.flatten_cons]; simp
def flatLen (xs : List ByteArray) : Nat := ((xs.map (·.data.toList)).flatten).length
def disk_Stretch.f (l0_0 : List ByteArray) (l0_1 : List S31) (a0_2 : Bool) (a1 a2 : Int) : Option (ByteArray × Int) :=
  if a0_2 = true then some (⟨#[]⟩, 19) else if a1 < 0 ∨ a2 < 0 ∨ (l0_0.length : Int) < a1 ∨ (l0_0.length : Int) - a1 < a2 then some (⟨#[]⟩, 1)
  else if DiskOk l0_0 l0_1 ∧ flatLen (((doneL l0_0 l0_1 fun _ => true).drop a1.toNat).take a2.toNat) ≤ 140737488355328 then some (joinT (((doneL l0_0 l0_1 fun _ => true).drop a1.toNat).take a2.toNat), 0) else none
set_option maxRecDepth 100000 in
set_option maxHeartbeats 1000000 in
theorem stretch_off (A0 : Option Addr) (c0 n0 : Nat) (A1 : Option Addr) (c1 n1 : Nat) (at_ many : Int) (w : World) :
    Calls Try.prog 22 #[.agg #[.slice A0 n0 c0, .slice A1 n1 c1, .bool true], .int .i64 at_, .int .i64 many] w fun e w' => e = .returned (.tuple #[.string ⟨#[]⟩, .int .i64 19]) ∧ Below w.heap.size w w' := by
  go_enter Try.func22, Try.ntmps22
  go_wp2_with fail
  go_ret2
  exact ⟨rfl, (Below.refl _ w).alloc (Nat.le_refl _) _⟩
set_option maxRecDepth 100000 in
set_option maxHeartbeats 1000000 in
theorem stretch_bad (A0 : Option Addr) (c0 n0 : Nat) (A1 : Option Addr) (c1 n1 : Nat) (at_ many : Int) (w : World) (hn0 : n0 ≤ 9223372036854775807) (h : at_ < 0 ∨ many < 0 ∨ (n0 : Int) < at_ ∨ (n0 : Int) - at_ < many) :
    Calls Try.prog 22 #[.agg #[.slice A0 n0 c0, .slice A1 n1 c1, .bool false], .int .i64 at_, .int .i64 many] w fun e w' => e = .returned (.tuple #[.string ⟨#[]⟩, .int .i64 1]) ∧ Below w.heap.size w w' := by
  by_cases h1 : at_ < 0
  · have g1 : decide (at_ < 0) = true := decide_eq_true h1
    clear h
    go_enter Try.func22, Try.ntmps22
    go_wp2_with fail
    go_ret2
    exact ⟨rfl, (Below.refl _ w).alloc (Nat.le_refl _) _⟩
  · have g1 : decide (at_ < 0) = false := decide_eq_false h1
    by_cases h2 : many < 0
    · have g2 : decide (many < 0) = true := decide_eq_true h2
      clear h
      go_enter Try.func22, Try.ntmps22
      go_wp2_with fail
      go_ret2
      exact ⟨rfl, (Below.refl _ w).alloc (Nat.le_refl _) _⟩
    · have g2 : decide (many < 0) = false := decide_eq_false h2
      by_cases h3 : (n0 : Int) < at_
      · have g3 : decide ((n0 : Int) < at_) = true := decide_eq_true h3
        clear h
        go_enter Try.func22, Try.ntmps22
        go_wp2_with fail
        go_ret2
        exact ⟨rfl, (Below.refl _ w).alloc (Nat.le_refl _) _⟩
      · have g3 : decide ((n0 : Int) < at_) = false := decide_eq_false h3
        have h4 : (n0 : Int) - at_ < many := by omega
        have g4 : decide ((n0 : Int) - at_ < many) = true := decide_eq_true h4
        have b0 : 0 ≤ at_ := by omega
        have b1 : at_ ≤ (n0 : Int) := by omega
        clear h
        go_enter Try.func22, Try.ntmps22
        go_wp2_with fail
        go_ret2
        exact ⟨rfl, (Below.refl _ w).alloc (Nat.le_refl _) _⟩
set_option maxRecDepth 100000 in
set_option maxHeartbeats 1000000 in
theorem stretch_good (A0 : Option Addr) (c0 : Nat) (l0 : List ByteArray) (A1 : Option Addr) (c1 : Nat) (l1 : List S31) (a m : Nat) (w : World) (h0 : Kd.C Kd.string w A0 l0.length l0) (g0 : l0.length ≤ c0) (h1 : Kd.C k31 w A1 l1.length l1) (g1 : l1.length ≤ c1) (hok : DiskOk l0 l1) (ham : a + m ≤ l0.length)
    (hfl : flatLen (((doneL l0 l1 fun _ => true).drop a).take m) ≤ 140737488355328) :
    Calls Try.prog 22 #[.agg #[.slice A0 l0.length c0, .slice A1 l1.length c1, .bool false], .int .i64 a, .int .i64 m] w fun e w' => e = .returned (.tuple #[.string (joinT (((doneL l0 l1 fun _ => true).drop a).take m)), .int .i64 0]) ∧ Below w.heap.size w w' := by
  have hlen : (doneL l0 l1 fun _ => true).length = l0.length := imgL_len _ _
  have hn1 : 0 < l0.length := hok.1
  have hn2 : l0.length ≤ 1000000000 := hok.2.1
  have HI := Lib.hid (disk_Image.calls A0 c0 l0 A1 c1 l1 false _ (w.alloc (.cells #[.slice A0 l0.length c0, .slice A1 l1.length c1, .bool false] 25)) (Kd.C_alloc h0 _) g0 (Kd.C_alloc h1 _) g1 (show disk_Image.f l0 l1 false = some (doneL l0 l1 fun _ => true) by unfold disk_Image.f; rw [if_pos hok]))
  generalize (doneL l0 l1 fun _ => true) = L at *
  clear h0 h1 hok
  obtain ⟨JT, hJT⟩ : ∃ JT, JT = joinT ((L.drop a).take m) := ⟨_, rfl⟩
  rw [← hJT]
  have HJT := Lib.hid hJT
  clear hJT
  have e1 : decide ((a : Int) < 0) = false := decide_eq_false (by omega)
  have e2 : decide ((m : Int) < 0) = false := decide_eq_false (by omega)
  have e3 : decide ((l0.length : Int) < a) = false := decide_eq_false (by omega)
  have e3n : decide (l0.length < a) = false := decide_eq_false (by omega)
  have e4 : decide ((l0.length : Int) - a < m) = false := decide_eq_false (by omega)
  go_enter Try.func22, Try.ntmps22
  go_wp2_with fail
  refine HI.out.mono ?_
  rintro e w2 ⟨v, rfl, hR, hb⟩
  obtain ⟨g, cap, cells, rfl, hcap, hcells, hgl⟩ : ∃ g cap cells, v = .slice (some ⟨g, 0, none⟩) l0.length cap ∧ l0.length ≤ cap ∧ (w2.heap[g]? = some (.cells cells 9 (0, 0)) ∧ cells.toList.take l0.length = L.map Value.string) ∧ cap ≤ maxLen := by
    have ho := Kd.own_of_R hR
    rcases ho.2 with ⟨_, h2⟩ | ⟨g, cap, cur, h1, h2, h3, h4, h5, h6, h7⟩
    · omega
    · rw [hlen] at h1 h4 h7
      rw [Nat.mul_one] at h7
      exact ⟨g, cap, cur, h1, h4, ⟨h3, h7⟩, h5⟩
  unfold maxLen at hgl
  have hb2 := Lib.hid (((Below.refl _ w).alloc (Nat.le_refl _) (.cells #[.slice A0 l0.length c0, .slice A1 l1.length c1, .bool false] 25)).trans (hb.mono (by rw [World.size_alloc]; omega)))
  have hjr : ∀ (j : Nat) x, ((L.drop a).take m)[j]? = some x → w2.cell? ⟨g, a + j, none⟩ = some (.string x) := by
    intro j x hj
    rw [List.getElem?_take] at hj
    split at hj
    · rw [List.getElem?_drop] at hj
      rw [blk_cell hcells.1]
      have h8 := congrArg (·[a + j]?) hcells.2
      simp only [List.getElem?_take, List.getElem?_map, hj] at h8
      rw [if_pos (by omega)] at h8
      simpa using h8
    · cases hj
  have hgw := blk_lt hcells.1
  have hl2 : ((L.drop a).take m).length = m := by rw [List.length_take, List.length_drop]; omega
  have s1 : IntKind.i64.wrap ((a : Int) + (m : Int)) = ((a + m : Nat) : Int) := by rw [show (a : Int) + (m : Int) = ((a + m : Nat) : Int) by omega]; exact IntWalk.i64_in _ (by omega)
  have s2 : a + m - a = m := by omega
  have s3 : a ≤ a + m := by omega
  have s4 : a + m ≤ cap := by omega
  have HJ := Lib.hid hjr; have HC := Lib.hid hcells; have HB := Lib.hid hb
  clear hjr hcells hb hR
  by_cases hac : cap = a
  · obtain rfl : m = 0 := by omega
    obtain rfl := hac
    go_wp2_with fail
    refine (Try.strings_Join_none _ _ _ _).mono ?_
    rintro e w3 ⟨rfl, hw⟩
    obtain rfl : w2 = w3 := hw.symm
    go_wp2_with fail
    go_ret2
    exact ⟨by rw [HJT.out, List.take_zero]; rfl, hb2.out⟩
  · have hj := Try.strings_Join g a (cap - a) ((L.drop a).take m) ⟨#[]⟩ w2 HJ.out hgw (by omega) (by omega) (by rw [show (⟨#[]⟩ : ByteArray).data.toList = [] from rfl, join_flatT]; exact hfl)
    rw [show (⟨#[]⟩ : ByteArray).data.toList = [] from rfl, join_flatT, hl2] at hj
    change Calls _ _ _ _ (fun e w' => e = .returned (.string (joinT ((L.drop a).take m))) ∧ _) at hj
    rw [← HJT.out] at hj
    have HJJ := Lib.hid hj
    clear hj
    go_wp2_with fail
    refine HJJ.out.mono ?_
    rintro e w3 ⟨rfl, hb3⟩
    have HB3 := Lib.hid hb3
    clear hb3
    go_wp2_with fail
    go_ret2
    exact ⟨rfl, hb2.out.trans (HB3.out.mono hb2.out.size)⟩
theorem disk_Stretch.calls (A0_0 : Option Addr) (c0_0 : Nat) (l0_0 : List ByteArray) (A0_1 : Option Addr) (c0_1 : Nat) (l0_1 : List S31) (a0_2 : Bool) (a1 : Int) (a2 : Int) (r1 : ByteArray) (r2 : Int) (w : World) (hr0_0 : Kd.C Kd.string w A0_0 l0_0.length l0_0) (hc0_0 : l0_0.length ≤ c0_0) (hr0_1 : Kd.C k31 w A0_1 l0_1.length l0_1) (hc0_1 : l0_1.length ≤ c0_1) (h : disk_Stretch.f l0_0 l0_1 a0_2 a1 a2 = some (r1, r2)) :
    Calls Try.prog 22 #[.agg #[.slice A0_0 l0_0.length c0_0, .slice A0_1 l0_1.length c0_1, .bool a0_2], .int .i64 a1, .int .i64 a2] w fun e w' => e = .returned (.tuple #[.string r1, .int .i64 r2]) ∧ Below w.heap.size w w' := by
  unfold disk_Stretch.f at h
  by_cases hoff : a0_2 = true
  · rw [if_pos hoff] at h
    simp only [Option.some.injEq, Prod.mk.injEq] at h
    obtain ⟨rfl, rfl⟩ := h
    subst hoff
    exact stretch_off _ _ _ _ _ _ _ _ _
  · rw [if_neg hoff] at h
    obtain rfl : a0_2 = false := by simpa using hoff
    by_cases hb : a1 < 0 ∨ a2 < 0 ∨ (l0_0.length : Int) < a1 ∨ (l0_0.length : Int) - a1 < a2
    · rw [if_pos hb] at h
      simp only [Option.some.injEq, Prod.mk.injEq] at h
      obtain ⟨rfl, rfl⟩ := h
      exact stretch_bad _ _ _ _ _ _ _ _ _ (Kd.C_max hr0_0) hb
    · rw [if_neg hb] at h
      split at h
      · rename_i hh
        simp only [Option.some.injEq, Prod.mk.injEq] at h
        obtain ⟨rfl, rfl⟩ := h
        obtain ⟨a, rfl⟩ := Int.eq_ofNat_of_zero_le (show 0 ≤ a1 by omega)
        obtain ⟨m, rfl⟩ := Int.eq_ofNat_of_zero_le (show 0 ≤ a2 by omega)
        exact stretch_good A0_0 c0_0 l0_0 A0_1 c0_1 l0_1 a m w hr0_0 hc0_0 hr0_1 hc0_1 hh.1 (by omega) (by simpa using hh.2)
      · cases h
theorem disk_field0 (a b c : Value) (w : World) : (Instr.field 25 (.agg #[a, b, c]) 0).run Try.prog w = .ok a w := by kernel_rfl
theorem disk_field1 (a b c : Value) (w : World) : (Instr.field 25 (.agg #[a, b, c]) 1).run Try.prog w = .ok b w := by kernel_rfl
theorem disk_field2 (a b c : Value) (w : World) : (Instr.field 25 (.agg #[a, b, c]) 2).run Try.prog w = .ok c w := by kernel_rfl
attribute [go_sem] disk_field0 disk_field1 disk_field2
end Go.Proofs.Ytoknncbdfdgfjaa.Q
