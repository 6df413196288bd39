/- Layer 9, walked: the reference's Write: '[]byte(s)', appended to and written. -/
import Derived.Test.YtiiljkinekjkbaaDatP
import Derived.Laws.IdiomCopy
import Derived.ArgAppend
set_option linter.unusedVariables false
set_option linter.unusedSimpArgs false
set_option exponentiation.threshold 2000
namespace Go.Proofs.Ytiiljkinekjkbaa
open Go.RowKit Go.Shelf Go.Lib Go.Sort Go.Proofs.YtiiljkinekjkbaaW.PrintWords Flt Math Clean

/-- A row of bytes of the call's own, told by its cells: whatever mark its block bears, none of its cells is frozen. -/
def Bw (w : World) (base : Nat) (v : Value) (L : List UInt8) : Prop :=
  ∃ g cap, v = .slice (some ⟨g, 0, none⟩) L.length cap ∧ base ≤ g ∧ g < w.heap.size ∧ L.length ≤ cap ∧ cap ≤ maxLen ∧
    (∀ j, j < cap → (w.cell? ⟨g, j, none⟩).isSome = true ∧ w.frozen? ⟨g, j, none⟩ = false) ∧ (∀ (j : Nat) (hj : j < L.length), w.cell? ⟨g, j, none⟩ = some (.int .u8 (L[j].toNat : Int)))
theorem heap_cells {w : World} {g j : Nat} {cur : Array Value} {t : TypeId} {fz : Nat × Nat} (h : w.heap[g]? = some (.cells cur t fz)) : w.cell? ⟨g, j, none⟩ = cur[j]? ∧ w.frozen? ⟨g, j, none⟩ = (decide (fz.1 ≤ j) && decide (j < fz.2)) := by
  constructor
  · unfold World.cell?
    rw [h]; simp
  · unfold World.frozen?
    rw [h]
theorem Bw.conv (w : World) (e : TypeId) (s : ByteArray) (hs : s.size ≤ maxLen) : Bw (bytesWorld w e s) w.heap.size (.slice (some ⟨w.heap.size, 0, none⟩) s.size (grownCap w s.size 0 e)) s.data.toList := by
  have hsz : s.size = s.data.toList.length := size_eq s
  have hge := grownCap_ge w s.size 0 e
  have hc : (bytesCells w e s).size = grownCap w s.size 0 e := by
    unfold bytesCells
    rw [Array.size_append, Array.size_map, Array.size_replicate]
    have : s.data.size = s.size := rfl
    omega
  have hh := bytesWorld_at_new w e s
  refine ⟨w.heap.size, _, by rw [hsz], Nat.le_refl _, by rw [bytesWorld_size]; exact Nat.lt_succ_self _, by omega, grownCap_le_maxLen w s.size 0 e hs, fun j hj => ?_, fun j hj => ?_⟩
  · rw [(heap_cells hh).1, (heap_cells hh).2]
    refine ⟨?_, ?_⟩
    · rw [Array.getElem?_eq_getElem (by omega)]; rfl
    · rw [decide_eq_false (by dsimp only; omega)]; rfl
  · rw [bytesWorld_cell w e s j (by omega), List.getD_eq_getElem?_getD, List.getElem?_eq_getElem hj]; rfl
theorem Bw.of_own {w : World} {base n : Nat} {e : TypeId} {v : Value} {L : List UInt8} (h : w.ownsRow base e 1 v n (L.map fun b => Value.int .u8 (b.toNat : Int))) (hn : L ≠ []) : Bw w base v L := by
  have hl : L.length = n := by have := h.1; rw [List.length_map] at this; omega
  rcases h.2 with ⟨_, h0⟩ | ⟨g, cap, cur, rfl, hb, hh, hnc, hcm, hcs, htk⟩
  · exact absurd (List.eq_nil_of_length_eq_zero (by omega)) hn
  · refine ⟨g, cap, by rw [hl], hb, (Array.getElem?_eq_some_iff.1 hh).1, by omega, hcm, fun j hj => ?_, fun j hj => ?_⟩
    · rw [(heap_cells hh).1, (heap_cells hh).2]
      refine ⟨?_, ?_⟩
      · rw [Array.getElem?_eq_getElem (by omega)]; rfl
      · rw [decide_eq_false (show ¬ j < (0, 0).2 by exact Nat.not_lt_zero j), Bool.and_false]
    · rw [(heap_cells hh).1, ← Array.getElem?_toList]
      have := congrArg (fun l : List Value => l[j]?) htk
      simp only [List.getElem?_take] at this
      rw [if_pos (by omega), List.getElem?_map, List.getElem?_eq_getElem hj] at this
      exact this
theorem Bw.moved {w w' : World} {base : Nat} {v : Value} {L : List UInt8} (h : Bw w base v L) (hb : ∀ k, k < w.heap.size → w'.heap[k]? = w.heap[k]?) (hz : w.heap.size ≤ w'.heap.size) : Bw w' base v L := by
  obtain ⟨g, cap, hv, h1, h2, h3, h4, h5, h6⟩ := h
  have e1 : ∀ j, w'.cell? ⟨g, j, none⟩ = w.cell? ⟨g, j, none⟩ := fun j => World.cell?_of_block (a := ⟨g, j, none⟩) (hb g h2)
  have e2 : ∀ j, w'.frozen? ⟨g, j, none⟩ = w.frozen? ⟨g, j, none⟩ := fun j => World.frozen?_of_block (a := ⟨g, j, none⟩) (hb g h2)
  exact ⟨g, cap, hv, h1, by omega, h3, h4, fun j hj => by rw [e1, e2]; exact h5 j hj, fun j hj => by rw [e1]; exact h6 j hj⟩
theorem Bw.alloc {w : World} {base : Nat} {v : Value} {L : List UInt8} (h : Bw w base v L) (o : Obj) : Bw (w.alloc o) base v L :=
  h.moved (fun k hk => (World.grownBy_alloc w o none).block k hk (by intro e; cases e)) (World.grownBy_alloc w o none).size
/-- One byte is set. -/
theorem Bw.set {w : World} {base g cap : Nat} {L : List UInt8} (h : Bw w base (.slice (some ⟨g, 0, none⟩) L.length cap) L) (m : Nat) (hm : m < L.length) (b : UInt8) :
    Bw (w.setCell ⟨g, m, none⟩ (.int .u8 (b.toNat : Int))) base (.slice (some ⟨g, 0, none⟩) (L.set m b).length cap) (L.set m b) := by
  obtain ⟨g', cap', hv, h1, h2, h3, h4, h5, h6⟩ := h
  obtain ⟨rfl, rfl⟩ : g = g' ∧ cap = cap' := by injection hv with e1 _ e3; injection e1 with e1; injection e1 with e1; exact ⟨e1, e3⟩
  have hsame : (w.setCell ⟨g, m, none⟩ (.int .u8 (b.toNat : Int))).cell? ⟨g, m, none⟩ = some (.int .u8 (b.toNat : Int)) := World.cell?_setCell_same' w _ _ (h5 m (by omega)).1
  have hother : ∀ j, m ≠ j → (w.setCell ⟨g, m, none⟩ (.int .u8 (b.toNat : Int))).cell? ⟨g, j, none⟩ = w.cell? ⟨g, j, none⟩ := fun j hj => World.cell?_setCell_other _ _ _ _ (by intro e; injection e with _ e2; exact hj e2)
  refine ⟨g, cap, rfl, h1, ?_, by rw [List.length_set]; exact h3, h4, fun j hj => ?_, fun j hj => ?_⟩
  · have : (w.setCell ⟨g, m, none⟩ (.int .u8 (b.toNat : Int))).heap.size = w.heap.size := by simp [World.setCell]
    omega
  · refine ⟨?_, by rw [World.frozen?_setCell]; exact (h5 j hj).2⟩
    by_cases e : m = j
    · subst e; rw [hsame]; rfl
    · rw [hother j e]; exact (h5 j hj).1
  · rw [List.length_set] at hj
    by_cases e : m = j
    · subst e; rw [hsame, List.getElem_set_self]
    · rw [hother j e, h6 j hj, List.getElem_set_ne e]
theorem info_u8 : (Try.prog.info? 5).map (fun i => (i.zero, i.size, i.bytes)) = some (some (.int .u8 0), 1, 1) := by kernel_rfl
/-- 'append(b, c)' for one byte. -/
theorem wpList_append_bw {w0 w : World} {ops : Array Oper} {rest : List Oper} {o : Oper} {a : Act} {Q : Exit → Act → World → Prop} (hgd : o.guard = none) (s x : Operand) (t : TypeId)
    (ho : o.op = .call { callee := .builtin .append, args := #[s, x], argTypes := #[t, t] }) (ht : Try.prog.underlying t = some (.slice 5)) (base : Nat) (v : Value) (L : List UInt8) (hs : a.eval s = v) (h : Bw w base v L)
    (ad : Addr) (c : Nat) (b : UInt8) (hx : a.eval x = .slice (some ad) 1 c) (hc : w.cell? ad = some (.int .u8 (b.toNat : Int))) (hn : L.length ≤ 1000000) (hB : Below base w0 w) (hbase : base ≤ w.heap.size)
    (hK : ∀ v' w', Bw w' base v' (L ++ [b]) → Below base w0 w' → wpList Try.prog ops Q rest (a.put o.dst v') w') : wpList Try.prog ops Q (o :: rest) a w := by
  obtain ⟨i, hi, hz, h1, h2⟩ := info_parts info_u8
  have hsave := h
  obtain ⟨g, cap, rfl, k1, k2, k3, k4, k5, k6⟩ := h
  have hmap : L.map (fun b : UInt8 => Value.int .u8 (b.toNat : Int)) ++ [Value.int .u8 (b.toNat : Int)] = (L ++ [b]).map (fun b : UInt8 => Value.int .u8 (b.toNat : Int)) := by rw [List.map_append]; rfl
  refine wpList_append_arg w hgd s x t ho 5 i _ 1 1 ht hi hz h1 h2 rfl (by decide) g 0 L.length cap (L.map fun b => Value.int .u8 (b.toNat : Int)) hs (by rw [List.length_map, Nat.mul_one]) ?_ ad 1 c [.int .u8 (b.toNat : Int)] hx rfl ?_ ?_ ?_ ?_ (by omega) ?_ ?_
  · intro j u hu
    rw [List.getElem?_map] at hu
    obtain ⟨y, hy, rfl⟩ := Option.map_eq_some_iff.1 hu
    obtain ⟨hlt, rfl⟩ := List.getElem?_eq_some_iff.1 hy
    rw [Nat.zero_add]
    exact k6 j hlt
  · intro j u hu
    cases j with
    | zero =>
      obtain rfl : Value.int .u8 (b.toNat : Int) = u := by simpa using hu
      have e : ad.add 0 = ad := by obtain ⟨b1, o1, s1⟩ := ad; cases s1 <;> rfl
      rw [e]; exact hc
    | succ j => simp at hu
  · intro u hu
    rw [List.mem_singleton.1 hu]; rfl
  · intro hroom j hj
    simp only [List.length_cons, List.length_nil] at hj
    rw [show 0 + L.length * 1 + j = L.length by omega]
    exact k5 _ (by omega)
  · unfold maxLen; omega
  · intro hroom
    rw [show 0 + L.length * 1 = L.length by omega]
    have hset : w.setCells g L.length [.int .u8 (b.toNat : Int)] = w.setCell ⟨g, L.length, none⟩ (.int .u8 (b.toNat : Int)) := rfl
    rw [hset]
    refine hK _ _ ?_ (hB.setCell (p := ⟨g, L.length, none⟩) k1 _)
    have hsame : (w.setCell ⟨g, L.length, none⟩ (.int .u8 (b.toNat : Int))).cell? ⟨g, L.length, none⟩ = some (.int .u8 (b.toNat : Int)) := World.cell?_setCell_same' w _ _ (k5 _ (by omega)).1
    have hother : ∀ j, L.length ≠ j → (w.setCell ⟨g, L.length, none⟩ (.int .u8 (b.toNat : Int))).cell? ⟨g, j, none⟩ = w.cell? ⟨g, j, none⟩ := fun j hj => World.cell?_setCell_other _ _ _ _ (by intro e; injection e with _ e2; exact hj e2)
    refine ⟨g, cap, by rw [List.length_append]; rfl, k1, ?_, by rw [List.length_append]; exact hroom, k4, fun j hj => ?_, fun j hj => ?_⟩
    · have : (w.setCell ⟨g, L.length, none⟩ (.int .u8 (b.toNat : Int))).heap.size = w.heap.size := by simp [World.setCell]
      omega
    · refine ⟨?_, by rw [World.frozen?_setCell]; exact (k5 j hj).2⟩
      by_cases e : L.length = j
      · subst e; rw [hsame]; rfl
      · rw [hother j e]; exact (k5 j hj).1
    · rw [List.length_append, List.length_singleton] at hj
      by_cases e : L.length = j
      · subst e; rw [hsame, List.getElem_append_right (Nat.le_refl _)]; simp
      · rw [hother j e, k6 j (by omega), List.getElem_append_left (by omega)]
  · intro _ v' w' hown hg
    rw [hmap] at hown
    refine hK v' w' ?_ (hB.grown hg hbase (fun _ e => by cases e))
    obtain ⟨g', cap', e1, e2, e3⟩ := Bw.of_own hown (by simp)
    exact ⟨g', cap', e1, Nat.le_trans hbase e2, e3⟩
theorem wrS_step (S : List UInt8) (a : Nat) (T : List UInt8) (i : Nat) (hi : i < T.length) : wrS S a (T.take (i + 1)) = if a + i < (wrS S a (T.take i)).length then (wrS S a (T.take i)).set (a + i) T[i] else wrS S a (T.take i) ++ [T[i]] := by
  have hl : (T.take i).length = i := by rw [List.length_take]; omega
  have hl1 : (T.take (i + 1)).length = i + 1 := by rw [List.length_take]; omega
  by_cases h : a + i < (wrS S a (T.take i)).length
  · rw [if_pos h]
    apply List.ext_getElem?
    intro j
    rw [wrS_get, hl1, List.getElem?_set, wrS_get, hl]
    by_cases h1 : j < a
    · rw [if_pos h1, if_neg (by omega), if_pos h1]
    · rw [if_neg h1]
      by_cases h2 : j = a + i
      · subst h2
        rw [if_pos (by omega), if_pos rfl, if_pos h, Nat.add_sub_cancel_left, List.getElem?_take, if_pos (by omega), List.getElem?_eq_getElem hi]
      · rw [if_neg (show ¬ a + i = j by omega), if_neg h1]
        by_cases h3 : j < a + i
        · rw [if_pos (by omega), if_pos h3, List.getElem?_take, List.getElem?_take, if_pos (by omega), if_pos (by omega)]
        · rw [if_neg (by omega), if_neg h3]
  · rw [if_neg h]
    rw [wrS_len, hl] at h
    have hlen : (wrS S a (T.take i)).length = a + i := by rw [wrS_len, hl]; omega
    apply List.ext_getElem?
    intro j
    rw [wrS_get, hl1, List.getElem?_append, hlen, wrS_get S a (T.take i), hl]
    by_cases h1 : j < a
    · rw [if_pos h1, if_pos (show j < a + i by omega), if_pos h1]
    · rw [if_neg h1, if_neg h1]
      by_cases h3 : j < a + i
      · rw [if_pos (by omega), if_pos h3, if_pos h3, List.getElem?_take, List.getElem?_take, if_pos (by omega), if_pos (by omega)]
      · rw [if_neg h3]
        by_cases h2 : j = a + i
        · subst h2
          rw [if_pos (by omega), Nat.add_sub_cancel_left, Nat.sub_self, List.getElem?_take, if_pos (by omega), List.getElem?_eq_getElem hi]; rfl
        · rw [if_neg (by omega), List.getElem?_eq_none (by omega), List.getElem?_eq_none (by simp; omega)]
theorem pad_step (S : List UInt8) (k : Nat) : S ++ List.replicate (k + 1) (0 : UInt8) = (S ++ List.replicate k 0) ++ [0] := by rw [List.replicate_succ', List.append_assoc]
theorem wrS_zero (S : List UInt8) (a : Nat) : wrS S a [] = S ++ List.replicate (a - S.length) 0 := by
  unfold wrS
  simp only [List.length_nil, Nat.add_zero, List.append_nil]
  exact List.take_append_drop _ _
theorem u8_nat (b : UInt8) : ((b.toNat : Nat) : Int) = ((b.toNat : Nat) : Int) := rfl
set_option maxHeartbeats 4000000 in
set_option maxRecDepth 1000000 in
theorem ref_write_main (s : ByteArray) (x : Nat) (t : ByteArray) (hs : s.size ≤ 900000) (hx : x + t.size ≤ 4096) (ht : t.size ≠ 0) (w : World) :
    Calls Try.prog 17 #[.string s, .int .i64 (x : Int), .string t] w fun e w' => e = .returned (.tuple #[.string ⟨(wrS s.data.toList x t.data.toList).toArray⟩, .int .i64 0]) ∧ Below w.heap.size w w' := by
  have g1 : decide ((x : Int) < 0) = false := decide_eq_false (by omega)
  have gw : wrap64 (1099511627776 - (t.size : Int)) = 1099511627776 - (t.size : Int) := w64 (by omega) (by omega)
  have g2 : decide (1099511627776 - (t.size : Int) < (x : Int)) = false := decide_eq_false (by omega)
  have gw2 : wrap64 ((x : Int) + (t.size : Int)) = (x : Int) + (t.size : Int) := w64 (by omega) (by omega)
  have g3 : decide ((4096 : Int) < (x : Int) + (t.size : Int)) = false := decide_eq_false (by omega)
  have hne : t.toList.isEmpty = false := by
    cases k : t.toList.isEmpty with
    | false => rfl
    | true =>
      have k2 := congrArg List.length (List.isEmpty_iff.1 k)
      rw [tl, ← size_eq] at k2
      exact absurd k2 ht
  have kb := fun W => print_bytes (P := Try.prog) 9 26 5 Try.underlying9 Try.underlying26 Try.underlying5 s W
  have hcv0 := Bw.conv w 5 s (by unfold maxLen; omega)
  have hB0 := bytes_below (Below.refl w.heap.size w) (Nat.le_refl _) 5 s
  have hsl : s.size = s.data.toList.length := size_eq s
  have htl : t.size = t.data.toList.length := size_eq t
  obtain ⟨W0, hW0⟩ : ∃ W0, W0 = bytesWorld w 5 s := ⟨_, rfl⟩
  rw [← hW0] at hcv0 hB0
  have HCV := Lib.hid hcv0; have HB0 := Lib.hid hB0; have HW0 := Lib.hid hW0
  have hsz : s.size ≤ 9223372036854775807 := by omega
  have HSL := Lib.hid hsl; have HTL := Lib.hid htl
  obtain ⟨R, hR⟩ : ∃ R, R = wrS s.data.toList x t.data.toList := ⟨_, rfl⟩
  rw [← hR]
  have HR := Lib.hid hR
  clear hcv0 hB0 hW0 hsl htl hR
  go_enter Try.func17, Try.ntmps17
  go_wp2_with fail
  rw [← HW0.out]
  go_loopg [8] (x - s.size) (fun gk v8 wx => ∃ k : Nat, k + gk = x - s.size ∧ Hid (Bw wx w.heap.size v8 (s.data.toList ++ List.replicate k 0)) ∧ Hid (Below w.heap.size w wx))
  case atStart => exact ⟨0, by omega, Lib.hid (by rw [List.replicate_zero, List.append_nil]; exact HCV.out), HB0⟩
  case round =>
    clear kb gw gw2 g1 g2 g3
    obtain ⟨k, hk, HB, HW⟩ := hrel
    have hll : (s.data.toList ++ List.replicate k (0 : UInt8)).length = s.size + k := by rw [List.length_append, List.length_replicate, ← HSL.out]
    obtain ⟨g, cap, hv, hg1, hg2, hg3, hg4, hg5, hg6⟩ := HB.out
    rw [hll] at hv
    obtain ⟨n0, hn0⟩ : ∃ n0, n0 = s.size + k := ⟨_, rfl⟩
    rw [← hn0] at hv
    subst hv
    clear hg1 hg2 hg3 hg4 hg5 hg6
    cases gk with
    | succ n =>
      have hd2 : decide ((n0 : Int) < (x : Int)) = true := decide_eq_true (by omega)
      have hd2n : decide (n0 < x) = true := decide_eq_true (by omega)
      have hps := pad_step s.data.toList k
      have HPS := Lib.hid hps
      have hle : (s.data.toList ++ List.replicate k (0 : UInt8)).length ≤ 1000000 := by omega
      obtain ⟨L, hL⟩ : ∃ L, L = s.data.toList ++ List.replicate k (0 : UInt8) := ⟨_, rfl⟩
      have hb := HB.out
      rw [← hL] at hb hle
      have HL := Lib.hid hL; have HBL := Lib.hid hb
      clear hps hll hL hb HB hn0
      go_wp2_with (at_builtin; refine wpList_append_bw (w0 := w) rfl _ _ 26 rfl Try.underlying26 w.heap.size (.slice (some ⟨g, 0, none⟩) n0 cap) L rfl (HBL.out.alloc _) ⟨wr.heap.size, 0, none⟩ 1 0 rfl (by rw [(heap_cells (heap_alloc_new wr _)).1]; rfl) hle (HW.out.alloc HW.out.size _) (by rw [World.size_alloc]; exact Nat.le_succ_of_le HW.out.size) ?_)
      intro v' w5 hown hbel
      have HO5 := Lib.hid hown; have HW5 := Lib.hid hbel
      clear hown hbel
      go_wp2_with fail
      go_roundg n
      case measure => omega
      case rel => exact ⟨k + 1, by omega, Lib.hid (by rw [HPS.out, ← HL.out]; exact HO5.out), HW5⟩
    | zero =>
      have hd2 : decide ((n0 : Int) < (x : Int)) = false := decide_eq_false (by omega)
      have hd2n : decide (n0 < x) = false := decide_eq_false (by omega)
      have hz : s.data.toList ++ List.replicate k (0 : UInt8) = wrS s.data.toList x [] := by rw [wrS_zero, show k = x - s.data.toList.length by have := HSL.out; omega]
      have hb := HB.out
      rw [hz] at hb
      have HB1 := Lib.hid hb
      clear hb hz HB hll hn0
      go_wp2_with fail
      go_loopg [8, 9] t.size (fun gk v8 v9 wx => ∃ i : Nat, i + gk = t.size ∧ v9 = .int .i64 i ∧ Hid (Bw wx w.heap.size v8 (wrS s.data.toList x (t.data.toList.take i))) ∧ Hid (Below w.heap.size w wx))
      case atStart => exact ⟨0, by omega, rfl, Lib.hid (by rw [List.take_zero]; exact HB1.out), HW⟩
      case round =>
        clear HB1 HW hd2 hd2n
        obtain ⟨i, hi, rfl, HB, HW⟩ := hrel
        have hle0 : max s.size (x + i) ≤ 1000000 := by omega
        have hll : (wrS s.data.toList x (t.data.toList.take i)).length = max s.size (x + i) := by rw [wrS_len, List.length_take, ← HSL.out, ← HTL.out, show min i t.size = i by omega]
        obtain ⟨g, cap, hv, hg1, hg2, hg3, hg4, hg5, hg6⟩ := HB.out
        clear hg4
        by_cases hlt : i < t.size
        · have hd : decide ((i : Int) < (t.size : Int)) = true := decide_eq_true (by omega)
          have hlt2 : i < t.data.toList.length := by rw [← HTL.out]; exact hlt
          have hst := wrS_step s.data.toList x t.data.toList i hlt2
          have hti : t.data.toList[i]'hlt2 = t[i]'hlt := rfl
          rw [hti] at hst
          obtain ⟨L, hL⟩ : ∃ L, L = wrS s.data.toList x (t.data.toList.take i) := ⟨_, rfl⟩
          have hb := HB.out
          rw [← hL] at hb hst hll hg3 hv
          clear hg6
          have hle : L.length ≤ 1000000 := by rw [hll]; exact hle0
          clear hle0 hti hlt2
          have etn : ((x : Int) + (i : Int)).toNat = x + i := by omega
          cases gk with
          | zero => omega
          | succ n =>
            by_cases hml : x + i < L.length
            · rw [if_pos hml] at hst
              have hcl := (hg5 (x + i) (by omega)).1
              have hfz := (hg5 (x + i) (by omega)).2
              obtain ⟨cv, hcv⟩ := Option.isSome_iff_exists.1 hcl
              subst hv
              have hset := hb.set (x + i) hml (t[i]'hlt)
              rw [List.length_set] at hset
              have HSET := Lib.hid hset; have HST := Lib.hid hst
              have p1 : (0 : Int) ≤ (x : Int) + (i : Int) := by omega
              have p2 : (x : Int) + (i : Int) < (L.length : Int) := by omega
              have hd3 : decide ((x : Int) + (i : Int) < (L.length : Int)) = true := decide_eq_true p2
              have hd3n : decide (x + i < L.length) = true := decide_eq_true hml
              have hBS := HW.out.setCell (p := ⟨g, x + i, none⟩) hg1 (.int .u8 ((t[i]'hlt).toNat : Int))
              have HBS := Lib.hid hBS
              clear hset hst hll hL hb HB hg1 hg2 hg3 hg5 hcl hle hml hBS
              go_wp2_with fail
              go_roundg n
              case measure => omega
              case rel => exact ⟨i + 1, by omega, by congr 1, Lib.hid (by rw [HST.out]; exact HSET.out), HBS⟩
            · rw [if_neg hml] at hst
              subst hv
              have HST := Lib.hid hst; have HBL := Lib.hid hb
              have hd3 : decide ((x : Int) + (i : Int) < (L.length : Int)) = false := decide_eq_false (by omega)
              have hd3n : decide (x + i < L.length) = false := decide_eq_false hml
              clear hst hll hL hb HB hg1 hg2 hg3 hg5 hml
              go_wp2_with (at_builtin; refine wpList_append_bw (w0 := w) rfl _ _ 26 rfl Try.underlying26 w.heap.size (.slice (some ⟨g, 0, none⟩) L.length cap) L rfl (HBL.out.alloc _) ⟨wr.heap.size, 0, none⟩ 1 (t[i]'hlt) rfl (by rw [(heap_cells (heap_alloc_new wr _)).1]; rfl) hle (HW.out.alloc HW.out.size _) (by rw [World.size_alloc]; exact Nat.le_succ_of_le HW.out.size) ?_)
              intro v' w5 hown hbel
              have HO5 := Lib.hid hown; have HW5 := Lib.hid hbel
              clear hown hbel
              go_wp2_with fail
              go_roundg n
              case measure => omega
              case rel => exact ⟨i + 1, by omega, by congr 1, Lib.hid (by rw [HST.out]; exact HO5.out), HW5⟩
        · obtain rfl : gk = 0 := by omega
          obtain rfl : i = t.size := by omega
          have hd : decide ((t.size : Int) < (t.size : Int)) = false := decide_eq_false (by omega)
          have hdn : decide (t.size < t.size) = false := decide_eq_false (by omega)
          rw [HTL.out, List.take_length, ← HR.out] at hv hg3 hg6
          have hcv := fun W (hW : W = wr) => run_convert_bytes_back (P := Try.prog) W 26 9 5 ⟨g, 0, none⟩ cap R Try.underlying26 Try.underlying5 Try.underlying9 (fun j hj => by
            rw [add_at, hW]; exact hg6 j hj)
          replace hcv := hcv wr rfl
          subst hv
          clear hll HB hg1 hg2 hg3 hg5 hg6
          go_wp2_with fail
          go_ret2
          exact ⟨rfl, HW.out⟩
theorem ref_write_calls (s : ByteArray) (a : Int) (t : ByteArray) (hs : s.size ≤ 900000) (ht : t.size ≤ 1000000) (w : World) (ha : -9223372036854775808 ≤ a ∧ a ≤ 9223372036854775807) :
    Calls Try.prog 17 #[.string s, .int .i64 a, .string t] w fun e w' => e = .returned (.tuple #[.string (writeR s a t).1, .int .i64 (writeR s a t).2]) ∧ Below w.heap.size w w' := by
  have gw : wrap64 (1099511627776 - (t.size : Int)) = 1099511627776 - (t.size : Int) := w64 (by omega) (by omega)
  by_cases h : 0 ≤ a ∧ a ≤ 1099511627776 ∧ (t.size : Int) ≤ 1099511627776 - a
  · obtain ⟨x, rfl⟩ := Int.eq_ofNat_of_zero_le h.1
    have g1 : decide ((x : Int) < 0) = false := decide_eq_false (by omega)
    have g2 : decide (1099511627776 - (t.size : Int) < (x : Int)) = false := decide_eq_false (by omega)
    have gw2 : wrap64 ((x : Int) + (t.size : Int)) = (x : Int) + (t.size : Int) := w64 (by omega) (by omega)
    by_cases h2 : 4096 < (x : Int) + (t.size : Int)
    · have hR : writeR s x t = (s, 5) := by unfold writeR; rw [if_pos h, if_pos h2]
      rw [hR]
      have g3 : decide ((4096 : Int) < (x : Int) + (t.size : Int)) = true := decide_eq_true h2
      clear h h2 hR
      go_enter Try.func17, Try.ntmps17
      go_wp2_with fail
      go_ret2
      exact ⟨rfl, Below.refl _ _⟩
    · by_cases h0 : t.size = 0
      · rw [write_none s x t (by omega) h0]
        have g3 : decide ((4096 : Int) < (x : Int) + (t.size : Int)) = false := decide_eq_false h2
        have g4 : decide ((1099511627776 : Int) < (x : Int)) = false := decide_eq_false (by omega)
        have g5 : decide ((4096 : Int) < (x : Int)) = false := decide_eq_false (by omega)
        have g6 : wrap64 (x : Int) = (x : Int) := w64 (by omega) (by omega)
        obtain rfl : t = ⟨#[]⟩ := by
          apply ByteArray.ext
          exact Array.eq_empty_of_size_eq_zero h0
        clear h h2 h0
        go_enter Try.func17, Try.ntmps17
        go_wp2_with fail
        go_ret2
        exact ⟨rfl, Below.refl _ _⟩
      · rw [write_good s x t (by omega) h0]
        exact ref_write_main s x t hs (by omega) h0 w
  · have hR : writeR s a t = (s, 1) := by unfold writeR; rw [if_neg h]
    rw [hR]
    by_cases h1 : a < 0
    · have g1 : decide (a < 0) = true := decide_eq_true h1
      clear h hR
      go_enter Try.func17, Try.ntmps17
      go_wp2_with fail
      go_ret2
      exact ⟨rfl, Below.refl _ _⟩
    · have g1 : decide (a < 0) = false := decide_eq_false h1
      have g2 : decide (1099511627776 - (t.size : Int) < a) = true := decide_eq_true (by omega)
      clear h hR
      go_enter Try.func17, Try.ntmps17
      go_wp2_with fail
      go_ret2
      exact ⟨rfl, Below.refl _ _⟩
def copyholdref09_Write.f (a0 : ByteArray) (a1 : Int) (a2 : ByteArray) : Option (ByteArray × Int) := if a0.size ≤ 900000 ∧ a2.size ≤ 1000000 ∧ -9223372036854775808 ≤ a1 ∧ a1 ≤ 9223372036854775807 then some (writeR a0 a1 a2) else none
theorem copyholdref09_Write.calls (a0 : ByteArray) (a1 : Int) (a2 : ByteArray) (r1 : ByteArray) (r2 : Int) (w : World) (h : copyholdref09_Write.f a0 a1 a2 = some (r1, r2)) : Calls Try.prog 17 #[.string a0, .int .i64 a1, .string a2] w fun e w' => e = .returned (.tuple #[.string r1, .int .i64 r2]) ∧ Below w.heap.size w w' := by
  unfold copyholdref09_Write.f at h
  split at h
  · rename_i hh
    have e := Option.some.inj h
    have k := ref_write_calls a0 a1 a2 hh.1 hh.2.1 w hh.2.2
    rw [e] at k
    exact k
  · cases h
end Go.Proofs.Ytiiljkinekjkbaa
