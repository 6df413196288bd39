import Derived.Test.YtcbfnfggnocndaaZRedoCr24
import Derived.Test.YtcbfnfggnocndaaZRedoCr25
import Derived.WalkMore
import Derived.ScopeJumps
import Derived.Test.YtcbfnfggnocndaaZRedoCr23
import Derived.Test.YtcbfnfggnocndaaZRedoCrA
set_option linter.unusedVariables false
set_option linter.unusedSimpArgs false
section
namespace Go.Proofs.Ytcbfnfggnocndaa
open Go.RowKit Go.Shelf Go.Proofs.Ytcbfnfggnocndaa.Q Go.Proofs.YtcbfnfggnocndaaW.PrintWords Go.Proofs.YtcbfnfggnocndaaW.PrintLast Go.Proofs.YtcbfnfggnocndaaW.PrintMore Math
structure KeepE (B R : Nat) (w w' : World) : Prop where
 os : w'.os = w.os
 tape : w'.tape = w.tape
 output : w'.output = w.output
 size : w.heap.size ≤ w'.heap.size
 block : ∀ k, k < B → k ≠ R → w'.heap[k]? = w.heap[k]?
namespace KeepE
theorem refl (B R : Nat) (w : World) : KeepE B R w w := ⟨rfl, rfl, rfl, Nat.le_refl _, fun _ _ _ => rfl⟩
theorem trans {B R : Nat} {a b c : World} (h : KeepE B R a b) (k : KeepE B R b c) : KeepE B R a c :=
 ⟨k.os.trans h.os, k.tape.trans h.tape, k.output.trans h.output, Nat.le_trans h.size k.size, fun i hi hr => (k.block i hi hr).trans (h.block i hi hr)⟩
theorem below {B R : Nat} {W W' : World} (h : Below W.heap.size W W') (hB : B ≤ W.heap.size) : KeepE B R W W' := ⟨h.os, h.tape, h.output, h.size, fun k hk _ => h.block k (by omega)⟩
theorem low {B R C : Nat} {w w' : World} (h : KeepE B R w w') (hB : C ≤ B) (hR : C ≤ R) : Below C w w' := ⟨h.os, h.tape, h.output, h.size, fun k hk => h.block k (by omega) (by omega)⟩
end KeepE
def goP (st : Nat → Nat → Nat → ByteArray × Nat) (n at_ first most : Nat) : Nat → List ByteArray → Nat → List ByteArray × Nat
 | 0, acc, used => (acc, used)
 | f + 1, acc, used =>
  if acc.length = most ∨ used = n then (acc, used) else
  if (st ((at_ + used) % n) (n - used) ((first + acc.length) % 18446744073709551616)).2 = 0 then (acc, used) else
  goP st n at_ first most f (acc ++ [(st ((at_ + used) % n) (n - used) ((first + acc.length) % 18446744073709551616)).1]) (used + (st ((at_ + used) % n) (n - used) ((first + acc.length) % 18446744073709551616)).2)
def foundP (st : Nat → Nat → Nat → ByteArray × Nat) (n at_ first most : Nat) : List ByteArray × Nat := goP st n at_ first most (n + 1) [] 0
theorem u64_in {n : Nat} (h : n < 18446744073709551616) : IntKind.u64.wrap (n : Int) = (n : Int) := by
 simp only [IntKind.wrap, IntKind.signed, IntKind.bits]; simp; omega
theorem u64_add (a b : Nat) : IntKind.u64.wrap ((a : Int) + (b : Int)) = (((a + b) % 18446744073709551616 : Nat) : Int) := by
 simp only [IntKind.wrap, IntKind.signed, IntKind.bits]; simp
theorem nat_eq_f {a b : Nat} (h : a ≠ b) : ((a : Int) == (b : Int)) = false := beq_eq_false_iff_ne.2 (by omega)
theorem nat_eq_t {a b : Nat} (h : a = b) : ((a : Int) == (b : Int)) = true := beq_iff_eq.2 (by omega)
theorem nat_eq_fn {a b : Nat} (h : a ≠ b) : (a == b) = false := beq_eq_false_iff_ne.2 h
theorem nat_eq_tn {a b : Nat} (h : a = b) : (a == b) = true := beq_iff_eq.2 h
set_option maxHeartbeats 4000000 in
set_option maxRecDepth 1000000 in
theorem each_calls (A : Option Addr) (c : Nat) (l : List ByteArray) (at_ first most : Nat) (g : FuncId) (lb : Array Value) (st : Nat → Nat → Nat → ByteArray × Nat) (I : List ByteArray → World → Prop) (Rb : Nat) (w : World)
  (hr : RdS w A l) (hc : l.length ≤ c) (hA : ∀ ad, A = some ad → ad.block ≠ Rb) (hl : 1 ≤ l.length) (hln : l.length ≤ 10000) (hat : at_ < l.length) (hf : first < 18446744073709551616) (hm : most ≤ 9223372036854775807)
  (hst : ∀ a m n : Nat, a < l.length → m ≤ l.length → n < 18446744073709551616 → ∃ k, V.redo_stands.f k l a m n = some ((st a m n).1, ((st a m n).2 : Int)))
  (hle : ∀ a m n, (st a m n).2 ≤ m) (hI0 : I [] w) (hIb : ∀ acc W W', I acc W → Below W.heap.size W W' → I acc W')
  (hg : ∀ acc W s (m : Int), acc.length ≤ l.length → I acc W → w.heap.size ≤ W.heap.size → Calls Try.prog g (#[.string s, .int .i64 m] ++ lb) W fun e W' => e = .returned (.tuple #[]) ∧ I (acc ++ [s]) W' ∧ KeepE w.heap.size Rb W W')
  (hen : ∀ args W, (callFunc g args).run Try.prog W = .ok (.enter g args) W) :
  Calls Try.prog 38 #[.slice A l.length c, .int .i64 at_, .int .u64 first, .int .i64 most, .func (.func g) #[] lb] w fun e w' =>
   e = .returned (.tuple #[.int .i64 (foundP st l.length at_ first most).1.length, .int .i64 (foundP st l.length at_ first most).2]) ∧ I (foundP st l.length at_ first most).1 w' ∧ KeepE w.heap.size Rb w w' := by
 obtain ⟨F, hF⟩ : ∃ F, F = foundP st l.length at_ first most := ⟨_, rfl⟩
 rw [← hF]
 have HREL0 : Hid (∃ f, l.length - 0 < f ∧ F = goP st l.length at_ first most f [] 0) := Lib.hid ⟨l.length + 1, by omega, hF⟩
 have HR := Lib.hid hr; have HA := Lib.hid hA; have HST := Lib.hid hst; have HLE := Lib.hid hle; have HIB := Lib.hid hIb; have HG := Lib.hid hg; have HI0 := Lib.hid hI0
 clear hF hr hA hst hle hIb hg hI0
 go_enter Try.func38, Try.ntmps38
 go_wp2_with fail
 refine wp_scope_jumps 0 (fun a' W => ∃ (acc : List ByteArray) (used : Nat) (u14 u15 u16 u17 u18 u19 u20 u21 u22 u23 u24 u25 u26 u27 u28 u29 u30 u31 u32 u33 u34 u35 u36 u37 u38 u39 u40 u41 u42 u43 u44 u45 u46 u47 u48 u49 u50 u51 u52 u53 u54 u55 u56 u57 u58 : Value),
  a' = { tmps := #[.slice A l.length c, .int .i64 at_, .int .u64 first, .int .i64 most, .func (.func g) #[] lb, undef, undef, undef, undef, undef, .int .i64 0, .int .i64 0, .int .i64 acc.length, .int .i64 used, u14, u15, u16, u17, u18, u19, u20, u21, u22, u23, u24, u25, u26, u27, u28, u29, u30, u31, u32, u33, u34, u35, u36, u37, u38, u39, u40, u41, u42, u43, u44, u45, u46, u47, u48, u49, u50, u51, u52, u53, u54, u55, u56, u57, u58], defers := [] } ∧
  acc.length ≤ used ∧ used ≤ l.length ∧ Hid (∃ f, l.length - used < f ∧ F = goP st l.length at_ first most f acc used) ∧ Hid (I acc W) ∧ Hid (KeepE w.heap.size Rb w W))
  (fun a' _ => l.length - (intOf (a'.tmps.getD 13 undef)).toNat) rfl ?_ ?_
 ·obtain ⟨f, hf1, hF⟩ := HREL0.out
  obtain ⟨f, rfl⟩ : ∃ j, f = j + 1 := ⟨f - 1, by omega⟩
  unfold goP at hF
  by_cases c1 : most = 0
  ·rw [if_pos (.inl (by rw [c1]; rfl))] at hF
   have q1 : ((0 : Int) == (most : Int)) = true := beq_iff_eq.2 (by omega)
   have HF := Lib.hid hF
   clear hF hf1
   subst c1
   go_wp2_with fail
   go_step3
   go_wp2_with fail
   simp only [Exit.jump]
   go_ret2
   exact ⟨by rw [HF.out]; rfl, by rw [HF.out]; exact HI0.out, KeepE.refl _ _ _⟩
  ·rw [if_neg (show ¬ (([] : List ByteArray).length = most ∨ 0 = l.length) from fun h => by rcases h with h | h; exact c1 h.symm; omega)] at hF
   have q1 : ((0 : Int) == (most : Int)) = false := beq_eq_false_iff_ne.2 (by omega)
   have q2 : ((0 : Int) == (l.length : Int)) = false := beq_eq_false_iff_ne.2 (by omega)
   rw [show (at_ + 0) % l.length = at_ by rw [Nat.add_zero]; exact Nat.mod_eq_of_lt hat, show l.length - 0 = l.length from rfl, show (first + ([] : List ByteArray).length) % 18446744073709551616 = first from Nat.mod_eq_of_lt hf] at hF
   obtain ⟨ks, hks⟩ := HST.out at_ l.length first hat (Nat.le_refl _) hf
   have hle := HLE.out at_ l.length first
   have hrem : Int.tmod (at_ : Int) (l.length : Int) = (at_ : Int) := by
    rw [show Int.tmod (at_ : Int) (l.length : Int) = ((at_ % l.length : Nat) : Int) from rfl, Nat.mod_eq_of_lt hat]
   have hu0 : IntKind.u64.wrap 0 = 0 := by decide
   have hu1 : IntKind.u64.wrap (first : Int) = (first : Int) := u64_in hf
   have hlz2 : ((l.length : Int) == 0) = false := beq_eq_false_iff_ne.2 (by omega)
   have hlz : ¬ ((l.length : Int) = 0) := by omega
   have hcal := V.redo_stands.calls ks A c l at_ l.length first _ _ w (c_of_rds HR.out (by omega)) hc hks
   obtain ⟨S, hS⟩ : ∃ S, S = (st at_ l.length first).1 := ⟨_, rfl⟩
   obtain ⟨m, hm0⟩ : ∃ m, m = (st at_ l.length first).2 := ⟨_, rfl⟩
   rw [← hS, ← hm0] at hcal
   rw [← hm0, ← hS] at hF
   rw [← hm0] at hle
   have HCAL := Lib.hid hcal
   clear hks hcal hS hm0
   by_cases c3 : m = 0
   ·rw [if_pos c3] at hF
    have HF := Lib.hid hF
    clear hF hf1 hle
    subst c3
    go_wp2_with fail
    go_step3
    go_wp2_with fail
    refine HCAL.out.mono ?_
    rintro e w3 ⟨rfl, hb3⟩
    have HB3 := Lib.hid hb3
    clear hb3
    go_wp2_with fail
    simp only [Exit.jump]
    go_ret2
    exact ⟨by rw [HF.out]; rfl, by rw [HF.out]; exact HIB.out _ _ _ HI0.out HB3.out, KeepE.below HB3.out (Nat.le_refl _)⟩
   ·rw [if_neg c3] at hF
    have HF := Lib.hid hF
    have hp : decide ((0 : Int) < (m : Int)) = true := decide_eq_true (by omega)
    have hpn : decide (0 < m) = true := decide_eq_true (by omega)
    clear hF
    go_wp2_with fail
    go_step3
    go_wp2_with fail
    refine HCAL.out.mono ?_
    rintro e w3 ⟨rfl, hb3⟩
    have HB3 := Lib.hid hb3
    have HG3 := Lib.hid (HG.out [] w3 S (m : Int) (Nat.zero_le _) (HIB.out _ _ _ HI0.out hb3) hb3.size)
    clear hb3
    go_wp2_with fail
    refine HG3.out.mono ?_
    rintro e w4 ⟨rfl, hi4, hk4⟩
    have HI4 := Lib.hid hi4; have HK4 := Lib.hid ((KeepE.below HB3.out (Nat.le_refl _)).trans hk4)
    clear hi4 hk4
    go_wp2_with fail
    go_step3
    refine ⟨rfl, [S], m, _, _, _, _, _, _, _, _, _, _, _, _, _, _, _, _, _, _, _, _, _, _, _, _, _, _, _, _, _, _, _, _, _, _, _, _, _, _, _, _, _, _, _, _, _, rfl, ?_, hle, Lib.hid ⟨f, by omega, ?_⟩, HI4, HK4⟩
    ·show 1 ≤ m
     omega
    ·have := HF.out
     rw [Nat.zero_add] at this
     exact this
 ·rintro a' W ⟨acc, used, u14, u15, u16, u17, u18, u19, u20, u21, u22, u23, u24, u25, u26, u27, u28, u29, u30, u31, u32, u33, u34, u35, u36, u37, u38, u39, u40, u41, u42, u43, u44, u45, u46, u47, u48, u49, u50, u51, u52, u53, u54, u55, u56, u57, u58, rfl, hau, hul, HREL, HI, HK⟩
  obtain ⟨f, hf1, hF⟩ := HREL.out
  obtain ⟨f, rfl⟩ : ∃ j, f = j + 1 := ⟨f - 1, by omega⟩
  unfold goP at hF
  by_cases c1 : acc.length = most
  ·rw [if_pos (.inl c1)] at hF
   have q1 := nat_eq_t c1; have q1n := nat_eq_tn c1
   have HF := Lib.hid hF
   clear hF hf1 c1
   go_wp2_with fail
   simp only [Exit.jump]
   go_ret2
   exact ⟨by rw [HF.out]; rfl, by rw [HF.out]; exact HI.out, HK.out⟩
  ·have q1 := nat_eq_f c1; have q1n := nat_eq_fn c1
   by_cases c2 : used = l.length
   ·rw [if_pos (.inr c2)] at hF
    have q2 := nat_eq_t c2; have q2n := nat_eq_tn c2
    have HF := Lib.hid hF
    clear hF hf1 c1 c2
    go_wp2_with fail
    simp only [Exit.jump]
    go_ret2
    exact ⟨by rw [HF.out]; rfl, by rw [HF.out]; exact HI.out, HK.out⟩
   ·rw [if_neg (by omega)] at hF
    have q2 := nat_eq_f c2; have q2n := nat_eq_fn c2
    obtain ⟨a, ha⟩ : ∃ a, a = (at_ + used) % l.length := ⟨_, rfl⟩
    obtain ⟨n3, hn3⟩ : ∃ n3, n3 = (first + acc.length) % 18446744073709551616 := ⟨_, rfl⟩
    rw [← ha, ← hn3] at hF
    have hal : a < l.length := by rw [ha]; exact Nat.mod_lt _ (by omega)
    have hn3l : n3 < 18446744073709551616 := by rw [hn3]; exact Nat.mod_lt _ (by decide)
    obtain ⟨ks, hks⟩ := HST.out a (l.length - used) n3 hal (Nat.sub_le _ _) hn3l
    have hle := HLE.out a (l.length - used) n3
    have hrem : Int.tmod ((at_ : Int) + (used : Int)) (l.length : Int) = (a : Int) := by
     rw [show (at_ : Int) + (used : Int) = ((at_ + used : Nat) : Int) by omega, ha]; rfl
    have hu0 : IntKind.u64.wrap (acc.length : Int) = (acc.length : Int) := u64_in (by omega)
    have hu1 : IntKind.u64.wrap ((first : Int) + (acc.length : Int)) = (n3 : Int) := by rw [u64_add, hn3]
    have hlz2 : ((l.length : Int) == 0) = false := beq_eq_false_iff_ne.2 (by omega)
    have hlz : ¬ ((l.length : Int) = 0) := by omega
    have hrr : RdS W A l := HR.out.step HK.out.size fun ad h1 h2 => HK.out.block _ h2 (HA.out ad h1)
    have hcal := V.redo_stands.calls ks A c l a ((l.length - used : Nat) : Int) n3 _ _ W (c_of_rds hrr (by omega)) hc hks
    obtain ⟨S, hS⟩ : ∃ S, S = (st a (l.length - used) n3).1 := ⟨_, rfl⟩
    obtain ⟨m, hm0⟩ : ∃ m, m = (st a (l.length - used) n3).2 := ⟨_, rfl⟩
    rw [← hS, ← hm0, show ((l.length - used : Nat) : Int) = (l.length : Int) - (used : Int) by omega] at hcal
    rw [← hm0, ← hS] at hF
    rw [← hm0] at hle
    have HCAL := Lib.hid hcal
    have HQ1 := Lib.hid hu0; have HQ2 := Lib.hid hu1; have HQ3 := Lib.hid hrem
    clear hks hcal hS hm0 ha hn3 hrr hu0 hu1 hrem
    by_cases c3 : m = 0
    ·rw [if_pos c3] at hF
     have HF := Lib.hid hF
     have hu0 := HQ1.out; have hu1 := HQ2.out; have hrem := HQ3.out
     clear hF hf1 hle
     subst c3
     go_wp2_with fail
     refine HCAL.out.mono ?_
     rintro e w3 ⟨rfl, hb3⟩
     have HB3 := Lib.hid hb3
     clear hb3
     go_wp2_with fail
     simp only [Exit.jump]
     go_ret2
     exact ⟨by rw [HF.out]; rfl, by rw [HF.out]; exact HIB.out _ _ _ HI.out HB3.out, HK.out.trans (KeepE.below HB3.out HK.out.size)⟩
    ·rw [if_neg c3] at hF
     have HF := Lib.hid hF
     have hp : decide ((0 : Int) < (m : Int)) = true := decide_eq_true (by omega)
     have hpn : decide (0 < m) = true := decide_eq_true (by omega)
     have hu0 := HQ1.out; have hu1 := HQ2.out; have hrem := HQ3.out
     clear hF
     go_wp2_with fail
     refine HCAL.out.mono ?_
     rintro e w3 ⟨rfl, hb3⟩
     have HB3 := Lib.hid hb3
     have HG3 := Lib.hid (HG.out acc w3 S (m : Int) (Nat.le_trans hau hul) (HIB.out _ _ _ HI.out hb3) (Nat.le_trans HK.out.size hb3.size))
     clear hb3
     go_wp2_with fail
     refine HG3.out.mono ?_
     rintro e w4 ⟨rfl, hi4, hk4⟩
     have HI4 := Lib.hid hi4; have HK4 := Lib.hid ((HK.out.trans (KeepE.below HB3.out HK.out.size)).trans hk4)
     clear hi4 hk4 hu0 hu1 hrem
     go_wp2_with fail
     go_step3
     have e12 : (((acc ++ [S]).length : Nat) : Int) = (acc.length : Int) + 1 := by rw [List.length_append]; rfl
     have e13 : ((used + m : Nat) : Int) = (used : Int) + (m : Int) := by omega
     refine ⟨rfl, ⟨acc ++ [S], used + m, _, _, _, _, _, _, _, _, _, _, _, _, _, _, _, _, _, _, _, _, _, _, _, _, _, _, _, _, _, _, _, _, _, _, _, _, _, _, _, _, _, _, _, _, _, by rw [e12, e13], ?_, by omega, Lib.hid ⟨f, by omega, HF.out⟩, HI4, HK4⟩, ?_⟩
     ·rw [List.length_append]
      show acc.length + 1 ≤ used + m
      omega
     ·show l.length - ((used : Int) + (m : Int)).toNat < l.length - ((used : Int)).toNat
      omega
end Go.Proofs.Ytcbfnfggnocndaa
end

section
namespace Go.Proofs.Ytcbfnfggnocndaa
open Go.RowKit Go.Shelf Go.Proofs.Ytcbfnfggnocndaa.Q Go.Proofs.YtcbfnfggnocndaaW.PrintWords Go.Proofs.YtcbfnfggnocndaaW.PrintLast Go.Proofs.YtcbfnfggnocndaaW.PrintMore Math
structure BxL (w W : World) (at_ used : Int) (first many : Int) : Prop where
  l : W.heap[w.heap.size + 2]? = some (.cells #[.int .i64 at_, .int .i64 used, .int .u64 first, .int .i64 many] 30 (0, 0))
namespace BxL
variable {w W W' : World} {a u f m : Int}
theorem step (h : BxL w W a u f m) (hb : Below W.heap.size W W') : BxL w W' a u f m := ⟨(hb.block _ (blk_lt h.l)).trans h.l⟩
theorem l0 (h : BxL w W a u f m) : W.cell? ⟨w.heap.size + 2, 0, none⟩ = some (.int .i64 a) := by rw [blk_cell h.l]; rfl
theorem l1 (h : BxL w W a u f m) : W.cell? ⟨w.heap.size + 2, 1, none⟩ = some (.int .i64 u) := by rw [blk_cell h.l]; rfl
theorem l2 (h : BxL w W a u f m) : W.cell? ⟨w.heap.size + 2, 2, none⟩ = some (.int .u64 f) := by rw [blk_cell h.l]; rfl
theorem l3 (h : BxL w W a u f m) : W.cell? ⟨w.heap.size + 2, 3, none⟩ = some (.int .i64 m) := by rw [blk_cell h.l]; rfl
end BxL
theorem Bx2.keep {w W W' : World} {B R : Nat} {d0 d1 d2 : Value} {f m : Int} (h : Bx2 w W d0 d1 d2 f m) (hk : KeepE B R W W') (hB : w.heap.size + 1 < B) (hR : w.heap.size + 1 < R) : Bx2 w W' d0 d1 d2 f m :=
  ⟨(hk.block _ (by omega) (by omega)).trans h.d, (hk.block _ (by omega) (by omega)).trans h.r, h.b.trans (hk.low (by omega) (by omega))⟩
theorem BxL.keep {w W W' : World} {B R : Nat} {a u f m : Int} (h : BxL w W a u f m) (hk : KeepE B R W W') (hB : w.heap.size + 2 < B) (hR : w.heap.size + 2 < R) : BxL w W' a u f m := ⟨(hk.block _ hB (by omega)).trans h.l⟩
theorem info_str5 : (Try.prog.info? 9).map (fun i => (i.zero, i.size, i.bytes)) = some (some (.string ⟨#[]⟩), 1, 16) := by kernel_rfl
structure Coll (B Rb : Nat) (acc : List ByteArray) (W : World) : Prop where
  v : ∃ v, W.heap[Rb]? = some (.cells #[v] 22 (0, 0)) ∧ W.ownsRow B 9 1 v acc.length (acc.map Value.string)
  lt : Rb < B
  le : B ≤ W.heap.size
theorem Coll.below {B Rb : Nat} {acc : List ByteArray} {W W' : World} (h : Coll B Rb acc W) (hb : Below W.heap.size W W') : Coll B Rb acc W' := by
  obtain ⟨⟨v, h1, h2⟩, h3, h4⟩ := h
  exact ⟨⟨v, (hb.block _ (blk_lt h1)).trans h1, pw_own_below h2 hb⟩, h3, Nat.le_trans h4 hb.size⟩
set_option maxHeartbeats 2000000 in
set_option maxRecDepth 1000000 in
theorem collect_calls (B Rb : Nat) (acc : List ByteArray) (W : World) (s : ByteArray) (m : Int) (h : Coll B Rb acc W) (hn : acc.length ≤ 1000000) :
    Calls Try.prog 45 (#[.string s, .int .i64 m] ++ #[.pointer (some ⟨Rb, 0, none⟩)]) W fun e W' => e = .returned (.tuple #[]) ∧ Coll B Rb (acc ++ [s]) W' ∧ KeepE B Rb W W' := by
  obtain ⟨i0, hi0, hz0, hz1, hz2⟩ := info_parts info_str5
  obtain ⟨⟨v, h1, h2⟩, hRb, hle⟩ := h
  have hc0 : W.cell? ⟨Rb, 0, none⟩ = some v := by rw [blk_cell h1]; rfl
  have hz := blk_lt h1
  have H1 := Lib.hid h1; have H2 := Lib.hid h2
  obtain ⟨xs, hxs⟩ : ∃ xs, xs = acc.map Value.string := ⟨_, rfl⟩
  rw [← hxs] at h2
  have HX := Lib.hid hxs; have HO := Lib.hid h2
  have hmx : xs ++ [.string s] = (acc ++ [s]).map Value.string := by rw [hxs, List.map_append]; rfl
  have HMX := Lib.hid hmx
  obtain ⟨n, hn0⟩ : ∃ n, n = acc.length := ⟨_, rfl⟩
  rw [← hn0] at HO hn
  have HN := Lib.hid hn0
  clear h1 h2 hxs hmx hn0
  show Calls Try.prog 45 #[.string s, .int .i64 m, .pointer (some ⟨Rb, 0, none⟩)] W _
  go_enter Try.func45, Try.ntmps45
  go_wp2_with (at_builtin; refine wpList_append_own _ rfl _ _ 22 rfl B 9 i0 _ 1 16 Try.underlying22 hi0 hz0 hz1 hz2 rfl (by decide) v n xs rfl (HO.out.alloc _) ⟨W.heap.size, 0, none⟩ 1 1 [.string s] rfl rfl (World.news_of_block (cs := #[.string s]) (t := 9) (fr := (0, 0)) (heap_alloc_new W _)) (by intro u hu; rw [List.mem_singleton.1 hu]; rfl) (by unfold maxLen; omega) (by omega) (by rw [World.size_alloc]; omega) ?_)
  intro v' w5 hown hgrow _
  obtain ⟨g4, c4, rfl⟩ := ownsRow_succ hown
  rw [HMX.out] at hown
  have hown1 := HO.out
  have hne : ∀ k, k < B → some k ≠ v.ownBlock := fun k hk e => by have := (hown1.lt k e.symm).1; omega
  have hb5 : One w5 Rb v 22 := by
    unfold One
    rw [hgrow.block Rb (by rw [World.size_alloc]; omega) (hne Rb hRb), Below.heap_alloc _ _ _ hz]
    exact H1.out
  have hc5 := hb5.cell
  have hf5 := hb5.free
  have HB5 := Lib.hid hb5; have HO5 := Lib.hid hown; have HG5 := Lib.hid hgrow; have HNE := Lib.hid hne
  clear hb5 hown hgrow hown1 hne hc0
  go_wp2_with fail
  go_end0
  refine ⟨rfl, ⟨⟨_, HB5.out.set, ?_⟩, hRb, ?_⟩, ?_⟩
  · rw [List.length_append, ← HN.out]
    exact own_far HO5.out hRb
  · have h1 := HG5.out.size
    rw [World.size_alloc] at h1
    have h2 : (w5.setCell ⟨Rb, 0, none⟩ (.slice (some ⟨g4, 0, none⟩) (n + 1) c4)).heap.size = w5.heap.size := by simp [World.setCell]
    rw [h2]; omega
  · have h1 := HG5.out.size
    rw [World.size_alloc] at h1
    have h2 : (w5.setCell ⟨Rb, 0, none⟩ (.slice (some ⟨g4, 0, none⟩) (n + 1) c4)).heap.size = w5.heap.size := by simp [World.setCell]
    refine ⟨HG5.out.os, HG5.out.tape, HG5.out.output, by rw [h2]; omega, fun k hk hr => ?_⟩
    rw [Below.heap_setCell _ _ _ _ (show k ≠ (⟨Rb, 0, none⟩ : Addr).block from hr), HG5.out.block k (by rw [World.size_alloc]; omega) (HNE.out k hk), Below.heap_alloc _ _ _ (by omega)]
end Go.Proofs.Ytcbfnfggnocndaa
end

section
namespace Go.Proofs.Ytcbfnfggnocndaa
open Go.RowKit Go.Lib Go.Proofs.YtcbfnfggnocndaaW.PrintWords Go.Proofs.YtcbfnfggnocndaaW.PrintMore Math
def num8 (n : Nat) : List Int := [((n % 256 : Nat) : Int), ((n / 256 % 256 : Nat) : Int), ((n / 65536 % 256 : Nat) : Int), ((n / 16777216 % 256 : Nat) : Int), ((n / 4294967296 % 256 : Nat) : Int), ((n / 1099511627776 % 256 : Nat) : Int), ((n / 281474976710656 % 256 : Nat) : Int), ((n / 72057594037927936 % 256 : Nat) : Int)]
def num8S (n : Nat) : ByteArray := strOfNums (num8 n)
theorem num8S_size (n : Nat) : (num8S n).size = 8 := nums_size _
theorem shr_nat (n j : Nat) (hj : j ≤ 64) : (shr .u64 (n : Int) (j : Int)) % 256 = ((n / 2 ^ j % 256 : Nat) : Int) := by
  unfold shr
  rw [Int.toNat_natCast, show min j IntKind.u64.bits = j from Nat.min_eq_left hj]
  rw [show ((2 : Int) ^ j) = ((2 ^ j : Nat) : Int) by rw [Int.natCast_pow]; rfl]
  omega
theorem number_step (n j k : Nat) (acc : List Int) (hj : j < 8) (ha : acc.length = j) : V.redo_number.l0 (k + 1) (n : Int) acc (j : Int) = V.redo_number.l0 k (n : Int) (acc ++ [((n / 2 ^ (8 * j) % 256 : Nat) : Int)]) ((j + 1 : Nat) : Int) := by
  rw [V.redo_number.l0, if_pos (by omega)]
  have hw : wrap64 (8 * (j : Int)) = ((8 * j : Nat) : Int) := by rw [w64 (by omega) (by omega)]; omega
  have hw2 : wrap64 ((j : Int) + 1) = ((j + 1 : Nat) : Int) := by rw [w64 (by omega) (by omega)]; omega
  rw [hw, hw2, if_pos (by clear hw hw2; omega), if_pos (by clear hw hw2; omega), shr_nat n (8 * j) (by clear hw hw2; omega)]
theorem number_eq (n k : Nat) (hk : 9 ≤ k) : V.redo_number.f k (n : Int) = some (num8S n) := by
  obtain ⟨k, rfl⟩ : ∃ j, k = j + 9 := ⟨k - 9, by omega⟩
  unfold V.redo_number.f
  have s0 := number_step n 0 (k + 8) [] (by decide) rfl
  have s1 := number_step n 1 (k + 7) [((n / 2 ^ (8 * 0) % 256 : Nat) : Int)] (by decide) rfl
  have s2 := number_step n 2 (k + 6) [((n / 2 ^ (8 * 0) % 256 : Nat) : Int), ((n / 2 ^ (8 * 1) % 256 : Nat) : Int)] (by decide) rfl
  have s3 := number_step n 3 (k + 5) [((n / 2 ^ (8 * 0) % 256 : Nat) : Int), ((n / 2 ^ (8 * 1) % 256 : Nat) : Int), ((n / 2 ^ (8 * 2) % 256 : Nat) : Int)] (by decide) rfl
  have s4 := number_step n 4 (k + 4) [((n / 2 ^ (8 * 0) % 256 : Nat) : Int), ((n / 2 ^ (8 * 1) % 256 : Nat) : Int), ((n / 2 ^ (8 * 2) % 256 : Nat) : Int), ((n / 2 ^ (8 * 3) % 256 : Nat) : Int)] (by decide) rfl
  have s5 := number_step n 5 (k + 3) [((n / 2 ^ (8 * 0) % 256 : Nat) : Int), ((n / 2 ^ (8 * 1) % 256 : Nat) : Int), ((n / 2 ^ (8 * 2) % 256 : Nat) : Int), ((n / 2 ^ (8 * 3) % 256 : Nat) : Int), ((n / 2 ^ (8 * 4) % 256 : Nat) : Int)] (by decide) rfl
  have s6 := number_step n 6 (k + 2) [((n / 2 ^ (8 * 0) % 256 : Nat) : Int), ((n / 2 ^ (8 * 1) % 256 : Nat) : Int), ((n / 2 ^ (8 * 2) % 256 : Nat) : Int), ((n / 2 ^ (8 * 3) % 256 : Nat) : Int), ((n / 2 ^ (8 * 4) % 256 : Nat) : Int), ((n / 2 ^ (8 * 5) % 256 : Nat) : Int)] (by decide) rfl
  have s7 := number_step n 7 (k + 1) [((n / 2 ^ (8 * 0) % 256 : Nat) : Int), ((n / 2 ^ (8 * 1) % 256 : Nat) : Int), ((n / 2 ^ (8 * 2) % 256 : Nat) : Int), ((n / 2 ^ (8 * 3) % 256 : Nat) : Int), ((n / 2 ^ (8 * 4) % 256 : Nat) : Int), ((n / 2 ^ (8 * 5) % 256 : Nat) : Int), ((n / 2 ^ (8 * 6) % 256 : Nat) : Int)] (by decide) rfl
  refine s0.trans (s1.trans (s2.trans (s3.trans (s4.trans (s5.trans (s6.trans (s7.trans ?_)))))))
  rw [V.redo_number.l0, if_neg (by decide)]
  unfold num8S num8
  simp only [Nat.reduceMul, Nat.reducePow, Nat.div_one, List.cons_append, List.nil_append]
def recS (n : Nat) (s : ByteArray) : ByteArray := putS (num8S n ++ textS s)
theorem textS_size (s : ByteArray) : (textS s).size = (numS s.size).size + s.size := by unfold textS; rw [app_size]
theorem recS_size (n : Nat) (s : ByteArray) : (recS n s).size = (numS s.size).size + s.size + 12 := by
  unfold recS
  rw [putS_size, app_size, num8S_size, textS_size]; omega
theorem seal_Put_V (s : ByteArray) (hs : s.size ≤ 9223372036854775803) : V.seal_Put.f s = some (putS s) := (show V.seal_Put.f s = U.seal_Put.f s from rfl).trans (seal_Put_eq s hs)
theorem record_eq (n k : Nat) (s : ByteArray) (hk : 9 ≤ k) (hs : s.size ≤ 1000000000) : V.redo_Record.f k (n : Int) s = some (recS n s) := by
  have h10 := numS_size10 (show s.size < 18446744073709551616 by omega)
  unfold V.redo_Record.f
  rw [bs (number_eq n k hk), bs (show octet_Text.f s = some (textS s) from if_pos (by omega)), if_pos (by rw [num8S_size, textS_size]; omega)]
  have hz : (num8S n ++ textS s).size ≤ 9223372036854775803 := by rw [app_size, num8S_size, textS_size]; omega
  rw [bs (show V.seal_Put.f (num8S n ++ textS s) = some (putS (num8S n ++ textS s)) from seal_Put_V _ hz)]
  rfl
def needN (s : ByteArray) : Nat := ((recS 0 s).size + 63) / 64
theorem needN_eq (n : Nat) (s : ByteArray) : needN s = ((recS n s).size + 63) / 64 := by unfold needN; rw [recS_size, recS_size]
theorem need_pos (s : ByteArray) : 1 ≤ needN s := by unfold needN; rw [recS_size]; omega
theorem need_big (n : Nat) (s : ByteArray) : (recS n s).size ≤ 64 * needN s := by rw [needN_eq n]; omega
def padB (n : Nat) (s : ByteArray) : List UInt8 := (recS n s).data.toList ++ List.replicate (64 * needN s - (recS n s).size) 0
theorem padB_len (n : Nat) (s : ByteArray) : (padB n s).length = 64 * needN s := by
  unfold padB
  rw [List.length_append, List.length_replicate, ← sz]
  have := need_big n s
  omega
theorem padB_head (n : Nat) (s : ByteArray) : (padB n s).take 8 = (num8S n).data.toList := by
  have e : (recS n s).data.toList = (num8S n).data.toList ++ ((textS s).data.toList ++ (fourS (sumN (num8S n ++ textS s))).data.toList) := by
    unfold recS putS
    rw [app, app, List.append_assoc]
  unfold padB
  rw [e, List.append_assoc]
  exact List.take_left' (by rw [← sz]; exact num8S_size n)
def standsB (B : List UInt8) (m n : Nat) : ByteArray × Nat :=
  if (textL (B.drop 8) 4096).2.2 = 0 ∧ needN ⟨(textL (B.drop 8) 4096).1.toArray⟩ ≤ m ∧ B.take (64 * needN ⟨(textL (B.drop 8) 4096).1.toArray⟩) = padB n ⟨(textL (B.drop 8) 4096).1.toArray⟩
  then (⟨(textL (B.drop 8) 4096).1.toArray⟩, needN ⟨(textL (B.drop 8) 4096).1.toArray⟩) else (⟨#[]⟩, 0)
theorem standsB_le (B : List UInt8) (m n : Nat) : (standsB B m n).2 ≤ m := by
  unfold standsB
  split
  · rename_i h; exact h.2.1
  · exact Nat.zero_le _
theorem standsB_no (B : List UInt8) (m n : Nat) (h : B.take 8 ≠ (num8S n).data.toList) : standsB B m n = (⟨#[]⟩, 0) := by
  unfold standsB
  rw [if_neg]
  rintro ⟨_, _, h3⟩
  apply h
  have := congrArg (List.take 8) h3
  rw [padB_head, List.take_take, show min 8 (64 * needN ⟨(textL (B.drop 8) 4096).1.toArray⟩) = 8 by have := need_pos ⟨(textL (B.drop 8) 4096).1.toArray⟩; omega] at this
  exact this
theorem textL_le (l : List UInt8) (m : Int) (h : (textL l m).2.2 = 0) : ((textL l m).1.length : Int) ≤ m := (text_inv h).2
theorem roundB_full (l : List ByteArray) (a : Nat) (hl : 1 ≤ l.length) (hs : ∀ s ∈ l, s.size = 64) : ∀ m, (roundB l a m).length = 64 * m
  | 0 => by simp [roundB]
  | m + 1 => by
    rw [roundB_succ, List.length_append, roundB_full l a hl hs m]
    have hlt : (a + m) % l.length < l.length := Nat.mod_lt _ (by omega)
    rw [List.getD_eq_getElem?_getD, List.getElem?_eq_getElem hlt]
    have := hs _ (List.getElem_mem hlt)
    rw [← sz]
    show 64 * m + l[(a + m) % l.length].size = _
    omega
theorem pbsz (l : List UInt8) : (⟨l.toArray⟩ : ByteArray).size = l.length := List.size_toArray ..
theorem pext (l : List UInt8) (a b : Nat) : ((⟨l.toArray⟩ : ByteArray).extract a b).data.toList = (l.drop a).take (b - a) := by
  rw [ByteArray.data_extract, Array.toList_extract, List.extract_eq_take_drop]
theorem prefix_eq (B : List UInt8) (n : Nat) (hB : B.length = 0 ∨ 8 ≤ B.length) : V.strings_HasPrefix.f ⟨B.toArray⟩ (num8S n) = some (decide (B.take 8 = (num8S n).data.toList)) := by
  unfold V.strings_HasPrefix.f V.stringslite_HasPrefix.f
  rw [num8S_size, pbsz]
  rcases hB with h | h
  · rw [if_neg (by rw [h]; decide)]
    have e : B = [] := List.eq_nil_of_length_eq_zero h
    subst e
    rw [show (some false).bind (fun t113 : Bool => some t113) = some false from rfl]
    rw [show decide (([] : List UInt8).take 8 = (num8S n).data.toList) = false from decide_eq_false (fun h2 => by
      have := congrArg List.length h2
      rw [← sz, num8S_size] at this
      simp at this)]
  · rw [if_pos (by omega), if_pos (by omega), if_pos (by omega)]
    show some _ = some _
    congr 1
    rw [tl, tl, show (((8 : Nat) : Int) : Int).toNat = 8 from rfl, pext, List.drop_zero, Nat.sub_zero, Bool.eq_iff_iff, beq_iff_eq, decide_eq_true_eq]
theorem sectors_eq (z : Nat) (hz : z ≤ 100000000) : V.redo_sectors.f (z : Int) = some (((z + 63) / 64 : Nat) : Int) := by
  unfold V.redo_sectors.f
  congr 1
  rw [w64 (n := (z : Int) + 64) (by omega) (by omega), w64 (n := (z : Int) + 64 - 1) (by omega) (by omega)]
  rw [show (z : Int) + 64 - 1 = ((z + 63 : Nat) : Int) by omega, show Int.tdiv ((z + 63 : Nat) : Int) 64 = (((z + 63) / 64 : Nat) : Int) from rfl]
  exact w64 (by omega) (by omega)
theorem zeros_dl (n : Nat) : (strOfNums (List.replicate n 0)).data.toList = List.replicate n 0 := by rw [nums_dl, List.map_replicate]; rfl
theorem stands_V (l : List ByteArray) (a m n k : Nat) (hk : 9 ≤ k) (hl : 1 ≤ l.length) (hln : l.length ≤ 10000) (hs : ∀ s ∈ l, s.size = 64) (ha : a < l.length) (hm : m ≤ l.length) :
    V.redo_stands.f k l (a : Int) (m : Int) (n : Int) = some ((standsB (roundB l a m) m n).1, ((standsB (roundB l a m) m n).2 : Int)) := by
  have hB := roundB_full l a hl hs m
  have e1 : redo_round.f l (a : Int) (m : Int) = some ⟨(roundB l a m).toArray⟩ := by
    unfold redo_round.f
    rw [if_pos ⟨hl, by omega, by omega, by omega, by omega, by omega, fun s h => by rw [hs s h]; exact Nat.le_refl _⟩]
    rfl
  unfold V.redo_stands.f
  rw [bs e1, bs (number_eq n k hk)]
  generalize roundB l a m = B at *
  rw [bs (prefix_eq B n (by omega))]
  by_cases hp : B.take 8 = (num8S n).data.toList
  · have h8 : 8 ≤ B.length := by
      have := congrArg List.length hp
      rw [← sz, num8S_size, List.length_take] at this
      omega
    rw [decide_eq_true hp, if_pos rfl, pbsz, if_pos (by omega)]
    have e2 : (⟨B.toArray⟩ : ByteArray).extract 8 B.length = ⟨(B.drop 8).toArray⟩ := by
      apply inj
      rw [pext, List.take_of_length_le (by rw [List.length_drop]; exact Nat.le_refl _)]
    rw [e2]
    have e3 : octet_TakeText.f ⟨(B.drop 8).toArray⟩ 4096 = some (outT (textL (B.drop 8) 4096)) := if_pos ⟨by rw [pbsz, List.length_drop]; omega, by decide, by decide⟩
    rw [bs e3]
    unfold outT
    dsimp only
    have hle := textL_le (B.drop 8) 4096
    by_cases h0 : (textL (B.drop 8) 4096).2.2 = 0
    · rw [if_pos h0]
      have hle := hle h0
      unfold standsB
      generalize (textL (B.drop 8) 4096).2.2 = z at *
      generalize (textL (B.drop 8) 4096).1 = T at *
      obtain ⟨s, hs0⟩ : ∃ s : ByteArray, s = ⟨T.toArray⟩ := ⟨_, rfl⟩
      have hsz : s.size ≤ 4096 := by rw [hs0, pbsz]; omega
      rw [← hs0]
      have hr := recS_size n s
      have h10 := numS_size10 (show s.size < 18446744073709551616 by omega)
      have hnb := need_big n s
      have hne := needN_eq n s
      rw [bs (record_eq n k s hk (by omega)), bs (sectors_eq (recS n s).size (by omega)), ← hne]
      by_cases hmn : needN s ≤ m
      · rw [if_neg (by omega)]
        have w1 : wrap64 (((needN s : Nat) : Int) * 64) = ((64 * needN s : Nat) : Int) := by rw [w64 (by omega) (by omega)]; omega
        have w2 : wrap64 (((64 * needN s : Nat) : Int) - ((recS n s).size : Int)) = ((64 * needN s - (recS n s).size : Nat) : Int) := by rw [w64 (by omega) (by omega)]; omega
        have k1 : (0 : Int) ≤ ((64 * needN s : Nat) : Int) := by omega
        have k2 : ((64 * needN s : Nat) : Int) ≤ (B.length : Int) := by omega
        have k3 : (0 : Int) ≤ ((64 * needN s - (recS n s).size : Nat) : Int) := by omega
        have k4 : 64 * needN s - (recS n s).size ≤ 281474976710656 := by omega
        have k5 : (recS n s).size + (64 * needN s - (recS n s).size) ≤ 9223372036854775807 := by omega
        rw [w1, w2, if_pos k1, if_pos k2, if_pos k3, Int.toNat_natCast, if_pos k4, Option.bind_some, nums_size, List.length_replicate, if_pos k5, Int.toNat_natCast]
        have e5 : ((⟨B.toArray⟩ : ByteArray).extract 0 (64 * needN s)).toList = B.take (64 * needN s) := by rw [tl, pext, List.drop_zero, Nat.sub_zero]
        have e6 : (recS n s ++ strOfNums (List.replicate (64 * needN s - (recS n s).size) 0)).toList = padB n s := by rw [tl, app, zeros_dl]; rfl
        rw [e5, e6]
        by_cases hq : B.take (64 * needN s) = padB n s
        · rw [if_pos hq, if_pos ⟨h0, hmn, hq⟩]
        · rw [if_neg hq, if_neg (fun h => hq h.2.2)]; rfl
      · rw [if_pos (by omega), if_neg (fun h => hmn h.2.1)]; rfl
    · rw [if_neg h0]
      unfold standsB
      rw [if_neg (fun h => h0 h.1)]; rfl
  · rw [decide_eq_false hp, if_neg (by decide), standsB_no B m n hp]; rfl
end Go.Proofs.Ytcbfnfggnocndaa
end

section
namespace Go.Proofs.Ytcbfnfggnocndaa
open Go.RowKit Go.Shelf Go.Proofs.Ytcbfnfggnocndaa.Q Go.Proofs.YtcbfnfggnocndaaW.PrintWords Go.Proofs.YtcbfnfggnocndaaW.PrintLast Go.Proofs.YtcbfnfggnocndaaW.PrintMore Math
def stR (R : List ByteArray) (a m n : Nat) : ByteArray × Nat := standsB (roundB R a m) m n
def found (R : List ByteArray) (at_ first most : Nat) : List ByteArray × Nat := foundP (stR R) R.length at_ first most
theorem each_ring (g : FuncId) (lb : Array Value) (R : List ByteArray) (at_ first most : Nat) (I : List ByteArray → World → Prop) (Rb : Nat) (A : Option Addr) (c : Nat) (w : World)
  (hr : RdS w A R) (hc : R.length ≤ c) (hA : ∀ ad, A = some ad → ad.block ≠ Rb) (hl : 1 ≤ R.length) (hln : R.length ≤ 10000) (hs : ∀ s ∈ R, s.size = 64) (hat : at_ < R.length) (hf : first < 18446744073709551616) (hm : most ≤ 9223372036854775807)
  (hI0 : I [] w) (hIb : ∀ acc W W', I acc W → Below W.heap.size W W' → I acc W')
  (hg : ∀ acc W s (m : Int), acc.length ≤ R.length → I acc W → w.heap.size ≤ W.heap.size → Calls Try.prog g (#[.string s, .int .i64 m] ++ lb) W fun e W' => e = .returned (.tuple #[]) ∧ I (acc ++ [s]) W' ∧ KeepE w.heap.size Rb W W')
  (hen : ∀ args W, (callFunc g args).run Try.prog W = .ok (.enter g args) W) :
  Calls Try.prog 38 #[.slice A R.length c, .int .i64 at_, .int .u64 first, .int .i64 most, .func (.func g) #[] lb] w fun e w' =>
   e = .returned (.tuple #[.int .i64 (found R at_ first most).1.length, .int .i64 (found R at_ first most).2]) ∧ I (found R at_ first most).1 w' ∧ KeepE w.heap.size Rb w w' :=
 each_calls A c R at_ first most g lb (stR R) I Rb w hr hc hA hl hln hat hf hm (fun a m n ha hm _ => ⟨9, stands_V R a m n 9 (Nat.le_refl _) hl hln hs ha hm⟩) (fun a m n => standsB_le _ m n) hI0 hIb hg hen
theorem texts1_enters : ∀ args W, (callFunc 45 args).run Try.prog W = .ok (.enter 45 args) W := enters_of Try.func45 (by kernel_rfl) rfl
set_option maxHeartbeats 4000000 in
set_option maxRecDepth 1000000 in
theorem texts_main (A0 : Option Addr) (c0 : Nat) (l0 : List ByteArray) (A1 : Option Addr) (c1 : Nat) (l1 : List S88) (fr mn at_ first many : Nat) (used : Int) (w : World) (h0 : Kd.C Kd.string w A0 l0.length l0) (g0 : l0.length ≤ c0) (h1 : Kd.C k88 w A1 l1.length l1) (g1 : l1.length ≤ c1) (hok : DiskOk l0 l1)
  (hm : 1 ≤ mn) (hfm : fr + mn ≤ l0.length) (hmn : mn ≤ 10000) (hs : ∀ s ∈ ringL l0 l1 fr mn, s.size = 64) (hat : at_ < mn) (hf : first < 18446744073709551616) (hmy : many ≤ 9223372036854775807) :
  Calls Try.prog 24 #[.agg #[.slice A0 l0.length c0, .slice A1 l1.length c1, .bool false], .agg #[.int .i64 fr, .int .i64 mn], .agg #[.int .i64 at_, .int .i64 used, .int .u64 first, .int .i64 many]] w fun e w' =>
   ∃ v, e = .returned (.tuple #[v, .int .i64 0]) ∧ w'.ownsRow w.heap.size 9 1 v (found (ringL l0 l1 fr mn) at_ first many).1.length ((found (ringL l0 l1 fr mn) at_ first many).1.map Value.string) ∧ Below w.heap.size w w' := by
 have hrl := ringL_len l0 l1 fr mn hfm
 obtain ⟨W1, hW1⟩ : ∃ W1, W1 = (((w.alloc (.cells #[.slice A0 l0.length c0, .slice A1 l1.length c1, .bool false] 25)).alloc (.cells #[.int .i64 fr, .int .i64 mn] 27)).alloc (.cells #[.int .i64 at_, .int .i64 used, .int .u64 first, .int .i64 many] 30)).alloc (.cells #[.slice none 0 0] 22) := ⟨_, rfl⟩
 have hx0 := Bx2.new w (.slice A0 l0.length c0) (.slice A1 l1.length c1) (.bool false) fr mn
 obtain ⟨W2, hW2⟩ : ∃ W2, W2 = (w.alloc (.cells #[.slice A0 l0.length c0, .slice A1 l1.length c1, .bool false] 25)).alloc (.cells #[.int .i64 fr, .int .i64 mn] 27) := ⟨_, rfl⟩
 have hz2 : W2.heap.size = w.heap.size + 2 := by rw [hW2, World.size_alloc, World.size_alloc]
 rw [← hW2] at hx0 hW1
 have hl0 : BxL w (W2.alloc (.cells #[.int .i64 at_, .int .i64 used, .int .u64 first, .int .i64 many] 30)) at_ used first many := ⟨by rw [← hz2]; exact heap_alloc_new W2 _⟩
 have b3 := (Below.refl W2.heap.size W2).alloc (Nat.le_refl _) (.cells #[.int .i64 at_, .int .i64 used, .int .u64 first, .int .i64 many] 30)
 obtain ⟨W3, hW3⟩ : ∃ W3, W3 = W2.alloc (.cells #[.int .i64 at_, .int .i64 used, .int .u64 first, .int .i64 many] 30) := ⟨_, rfl⟩
 have hz3 : W3.heap.size = w.heap.size + 3 := by rw [hW3, World.size_alloc, hz2]
 rw [← hW3] at hl0 b3 hW1
 have b4 := (Below.refl W3.heap.size W3).alloc (Nat.le_refl _) (.cells #[.slice none 0 0] 22)
 have hc0 : One (W3.alloc (.cells #[.slice none 0 0] 22)) (w.heap.size + 3) (.slice none 0 0) 22 := by unfold One; rw [← hz3]; exact heap_alloc_new W3 _
 have hz1 : W1.heap.size = w.heap.size + 4 := by rw [hW1, World.size_alloc, hz3]
 rw [← hW1] at b4 hc0
 have hx := (hx0.step b3).step b4
 have hl := hl0.step b4
 have HXD : Hid (Bx2 w W1.drew _ _ _ _ _) := Lib.hid ⟨hx.d, hx.r, below_drew hx.b⟩
 have HLD : Hid (BxL w W1.drew _ _ _ _) := Lib.hid ⟨hl.l⟩
 have HCD : Hid (One W1.drew (w.heap.size + 3) (.slice none 0 0) 22) := Lib.hid hc0
 have hring := ring_calls A0 c0 l0 A1 c1 l1 false fr mn W1.drew (Kd.C_below h0 (below_drew hx.b)) g0 (Kd.C_below h1 (below_drew hx.b)) g1 hok hm hfm
 have HRING := Lib.hid hring
 have heach : ∀ (A3 : Option Addr) (c3 : Nat) (w3 : World), RdS w3 A3 (ringL l0 l1 fr mn) → (ringL l0 l1 fr mn).length ≤ c3 → (∀ ad, A3 = some ad → W1.drew.heap.size ≤ ad.block) → Below W1.drew.heap.size W1.drew w3 → One w3 (w.heap.size + 3) (.slice none 0 0) 22 → _ :=
  fun A3 c3 w3 hr hc hA hb ho => each_ring 45 #[.pointer (some ⟨w.heap.size + 3, 0, none⟩)] (ringL l0 l1 fr mn) at_ first many (Coll w3.heap.size (w.heap.size + 3)) (w.heap.size + 3) A3 c3 w3 hr hc
   (fun ad h => by have := hA ad h; have e : W1.drew.heap.size = W1.heap.size := rfl; omega) (by omega) (by omega) hs (by omega) hf hmy ⟨⟨_, ho, World.ownsRow_nil _ _ _ _⟩, ho.lt, Nat.le_refl _⟩ (fun _ _ _ h hb => h.below hb)
   (fun acc W s m hl hI _ => collect_calls _ _ acc W s m hI (by omega)) texts1_enters
 have HEACH := Lib.hid heach
 have HW1 := Lib.hid hW1; have HW2 := Lib.hid hW2; have HW3 := Lib.hid hW3
 clear h0 h1 hx0 hW1 hl0 b3 hW2 hW3 b4 hc0 hx hl hring heach hz1 hz2 hz3 hok hs hrl
 go_enter Try.func24, Try.ntmps24
 go_wp2_with fail
 rw [← HW2.out, ← HW3.out, ← HW1.out]
 refine start_ (n := 11) (S := fun w' => w'.cell? ⟨w.heap.size, 0, none⟩ = some (.slice A0 l0.length c0) ∧ w'.cell? ⟨w.heap.size, 1, none⟩ = some (.slice A1 l1.length c1) ∧ w'.cell? ⟨w.heap.size, 2, none⟩ = some (.bool false) ∧ w'.cell? ⟨w.heap.size + 1, 0, none⟩ = some (.int .i64 (fr : Int)) ∧ w'.cell? ⟨w.heap.size + 1, 1, none⟩ = some (.int .i64 (mn : Int)) ∧ w'.cell? ⟨w.heap.size + 2, 0, none⟩ = some (.int .i64 (at_ : Int)) ∧ w'.cell? ⟨w.heap.size + 2, 2, none⟩ = some (.int .u64 (first : Int)) ∧ w'.cell? ⟨w.heap.size + 2, 3, none⟩ = some (.int .i64 (many : Int))) (ds := []) #[false, false, false, false, false, false, false, false, false, false, false] (by kernel_rfl) rfl rfl ⟨HXD.out.c0, HXD.out.c1, HXD.out.c2, HXD.out.r0, HXD.out.r1, HLD.out.l0, HLD.out.l2, HLD.out.l3⟩ (fun hHeld => ?_)
 refine pure_ (i := 3) (N := some 14) (v := ?_) (a' := ?_) #[false, false, false, true, false, false, false, false, false, false, false] rfl rfl (by kernel_rfl) (fun _ _ _ h => h) (Or.inl ⟨by rfl, ?_⟩) ?_ ?_
 (rotate_left; · (intro w'; go_simp; with_reducible rfl))
 (rotate_left; · (simp only [Act.put, zqk, zql, zqm, i64_w, i32_w]; rfl))
 refine pure_ (i := 5) (N := some 16) (v := ?_) (a' := ?_) #[false, false, false, true, false, true, false, false, false, false, false] rfl rfl (by kernel_rfl) (fun _ _ _ h => h) (Or.inl ⟨by rfl, ?_⟩) ?_ ?_
 (rotate_left; · (intro w'; go_simp; with_reducible rfl))
 (rotate_left; · (simp only [Act.put, zqk, zql, zqm, i64_w, i32_w]; rfl))
 refine pure_ (i := 7) (N := some 18) (v := ?_) (a' := ?_) #[false, false, false, true, false, true, false, true, false, false, false] rfl rfl (by kernel_rfl) (fun _ _ _ h => h) (Or.inl ⟨by rfl, ?_⟩) ?_ ?_
 (rotate_left; · (intro w'; go_simp; with_reducible rfl))
 (rotate_left; · (simp only [Act.put, zqk, zql, zqm, i64_w, i32_w]; rfl))
 refine pure_ (i := 9) (N := some 20) (v := ?_) (a' := ?_) #[false, false, false, true, false, true, false, true, false, true, false] rfl rfl (by kernel_rfl) (fun _ _ _ h => h) (Or.inl ⟨by rfl, ?_⟩) ?_ ?_
 (rotate_left; · (intro w'; go_simp; with_reducible rfl))
 (rotate_left; · (simp only [Act.put, zqk, zql, zqm, i64_w, i32_w]; rfl))
 refine take_ (i := 0) (N := some 11) (v := ?_) (a' := ?_) #[true, false, false, true, false, true, false, true, false, true, false] rfl rfl (by kernel_rfl) (fun _ _ _ h => h) (Or.inl ⟨by rfl, ?_⟩) hHeld ?_ ?_
 rotate_left
 ·rintro w' ⟨s0, s1, s2, s3, s4, s5, s6, s7⟩
  go_simp
  with_reducible rfl
 (rotate_left; · (simp only [Act.put, zqk, zql, zqm, i64_w, i32_w]; rfl))
 refine take_ (i := 1) (N := some 12) (v := ?_) (a' := ?_) #[true, true, false, true, false, true, false, true, false, true, false] rfl rfl (by kernel_rfl) (fun _ _ _ h => h) (Or.inl ⟨by rfl, ?_⟩) hHeld ?_ ?_
 rotate_left
 ·rintro w' ⟨s0, s1, s2, s3, s4, s5, s6, s7⟩
  go_simp
  with_reducible rfl
 (rotate_left; · (simp only [Act.put, zqk, zql, zqm, i64_w, i32_w]; rfl))
 refine take_ (i := 4) (N := some 15) (v := ?_) (a' := ?_) #[true, true, false, true, true, true, false, true, false, true, false] rfl rfl (by kernel_rfl) (fun _ _ _ h => h) (Or.inl ⟨by rfl, ?_⟩) hHeld ?_ ?_
 rotate_left
 ·rintro w' ⟨s0, s1, s2, s3, s4, s5, s6, s7⟩
  go_simp
  with_reducible rfl
 (rotate_left; · (simp only [Act.put, zqk, zql, zqm, i64_w, i32_w]; rfl))
 refine take_ (i := 6) (N := some 17) (v := ?_) (a' := ?_) #[true, true, false, true, true, true, true, true, false, true, false] rfl rfl (by kernel_rfl) (fun _ _ _ h => h) (Or.inl ⟨by rfl, ?_⟩) hHeld ?_ ?_
 rotate_left
 ·rintro w' ⟨s0, s1, s2, s3, s4, s5, s6, s7⟩
  go_simp
  with_reducible rfl
 (rotate_left; · (simp only [Act.put, zqk, zql, zqm, i64_w, i32_w]; rfl))
 refine take_ (i := 8) (N := some 19) (v := ?_) (a' := ?_) #[true, true, false, true, true, true, true, true, true, true, false] rfl rfl (by kernel_rfl) (fun _ _ _ h => h) (Or.inl ⟨by rfl, ?_⟩) hHeld ?_ ?_
 rotate_left
 ·rintro w' ⟨s0, s1, s2, s3, s4, s5, s6, s7⟩
  go_simp
  with_reducible rfl
 (rotate_left; · (simp only [Act.put, zqk, zql, zqm, i64_w, i32_w]; rfl))
 refine one_ (i := 2) (N := some 13) #[true, true, true, true, true, true, true, true, true, true, false] rfl rfl (by kernel_rfl) (by decide) (fun K hK => ?_)
 refine goes_ Try.func39 (by kernel_rfl) rfl #[.agg #[.slice A0 l0.length c0, .slice A1 l1.length c1, .bool false], .agg #[.int .i64 fr, .int .i64 mn]] (by rfl) rfl rfl (by simp only [List.map_toArray, List.map_cons, List.map_nil]; rfl) ?_
 with_reducible refine (HRING.out).mono ?_
 rintro e w3 ⟨A3, c3, rfl, hr3, hc3, hA3, hb3⟩
 refine ⟨_, rfl, ?_⟩
 have HX3 := Lib.hid (HXD.out.step hb3)
 have HL3 := Lib.hid (HLD.out.step hb3)
 have HC3 := Lib.hid (HCD.out.keep hb3 HCD.out.lt)
 have HR3 := Lib.hid hr3
 have HA3 := Lib.hid hA3
 have HB3 := Lib.hid hb3
 clear hr3 hA3 hb3
 refine hK.out _ _ ⟨HX3.out.c0, HX3.out.c1, HX3.out.c2, HX3.out.r0, HX3.out.r1, HL3.out.l0, HL3.out.l2, HL3.out.l3⟩ (fun hHeld => ?_)
 clear hK K
 refine norm_ (a' := ?_) ?_ ?_
 rotate_left
 ·show Act.put _ (some 13) _ = _
  simp only [Act.put, zqk, zql, zqm, i64_w, i32_w]
  rfl
 refine one_ (i := 10) (N := some 21) #[true, true, true, true, true, true, true, true, true, true, true] rfl rfl (by kernel_rfl) (by decide) (fun K hK => ?_)
 refine goes_ Try.func38 (by kernel_rfl) rfl #[.slice A3 (ringL l0 l1 fr mn).length c3, .int .i64 at_, .int .u64 first, .int .i64 many, .func (.func 45) #[] #[.pointer (some ⟨w.heap.size + 3, 0, none⟩)]] (by rfl) rfl rfl (by simp only [List.map_toArray, List.map_cons, List.map_nil]; rfl) ?_
 with_reducible refine ((HEACH.out A3 c3 w3 HR3.out hc3 HA3.out HB3.out HC3.out)).mono ?_
 rintro e w4 ⟨rfl, hi4, hk4⟩
 refine ⟨_, rfl, ?_⟩
 have HC4 := Lib.hid hi4
 have HX4 := Lib.hid (HX3.out.keep hk4 (by have := HC3.out.lt; omega) (by omega))
 have HL4 := Lib.hid (HL3.out.keep hk4 (by have := HC3.out.lt; omega) (by omega))
 clear hi4 hk4
 refine hK.out _ _ ⟨HX4.out.c0, HX4.out.c1, HX4.out.c2, HX4.out.r0, HX4.out.r1, HL4.out.l0, HL4.out.l2, HL4.out.l3⟩ (fun hHeld => ?_)
 clear hK K
 refine norm_ (a' := ?_) ?_ ?_
 rotate_left
 ·show Act.put _ (some 21) _ = _
  simp only [Act.put, zqk, zql, zqm, i64_w, i32_w]
  rfl
 refine done_ (by kernel_rfl) ?_
 obtain ⟨v, hv1, hv2⟩ := HC4.out.v
 have hvc : w4.cell? ⟨w.heap.size + 3, 0, none⟩ = some v := by rw [blk_cell hv1]; rfl
 have HV := Lib.hid hv2
 clear hv1 hv2
 go_wp2_with fail
 go_ret2
 exact ⟨_, rfl, own_weaken HV.out (by have := HX3.out.b.size; omega), HX4.out.b⟩
def RedOk (l0 : List ByteArray) (l1 : List S88) (fr mn at_ first : Int) : Prop :=
 DiskOk l0 l1 ∧ 1 ≤ mn ∧ mn ≤ 10000 ∧ 0 ≤ fr ∧ fr + mn ≤ (l0.length : Int) ∧ 0 ≤ at_ ∧ at_ < mn ∧ 0 ≤ first ∧ first < 18446744073709551616 ∧ ∀ s ∈ ringL l0 l1 fr.toNat mn.toNat, s.size = 64
instance (l0 : List ByteArray) (l1 : List S88) (fr mn at_ first : Int) : Decidable (RedOk l0 l1 fr mn at_ first) := by unfold RedOk; infer_instance
def foundD (l0 : List ByteArray) (l1 : List S88) (fr mn at_ first many : Int) : List ByteArray × Nat := found (ringL l0 l1 fr.toNat mn.toNat) at_.toNat first.toNat many.toNat
def redo_Texts.f (l0_0 : List ByteArray) (l0_1 : List S88) (a0_2 : Bool) (a1_0 a1_1 a2_0 a2_1 a2_2 a2_3 : Int) : Option (List ByteArray × Int) :=
 if a0_2 = false ∧ RedOk l0_0 l0_1 a1_0 a1_1 a2_0 a2_2 ∧ 0 ≤ a2_3 ∧ a2_3 ≤ 9223372036854775807 then some ((foundD l0_0 l0_1 a1_0 a1_1 a2_0 a2_2 a2_3).1, 0) else none
theorem redo_Texts.calls (A0_0 : Option Addr) (c0_0 : Nat) (l0_0 : List ByteArray) (A0_1 : Option Addr) (c0_1 : Nat) (l0_1 : List S88) (a0_2 : Bool) (a1_0 a1_1 a2_0 a2_1 a2_2 a2_3 : Int) (r1 : List ByteArray) (r2 : Int) (w : World)
  (hr0_0 : Kd.C Kd.string w A0_0 l0_0.length l0_0) (hc0_0 : l0_0.length ≤ c0_0) (hr0_1 : Kd.C k88 w A0_1 l0_1.length l0_1) (hc0_1 : l0_1.length ≤ c0_1) (h : redo_Texts.f l0_0 l0_1 a0_2 a1_0 a1_1 a2_0 a2_1 a2_2 a2_3 = some (r1, r2)) :
  Calls Try.prog 24 #[.agg #[.slice A0_0 l0_0.length c0_0, .slice A0_1 l0_1.length c0_1, .bool a0_2], .agg #[.int .i64 a1_0, .int .i64 a1_1], .agg #[.int .i64 a2_0, .int .i64 a2_1, .int .u64 a2_2, .int .i64 a2_3]] w fun e w' =>
   ∃ v0_, e = .returned (.tuple #[v0_, .int .i64 r2]) ∧ Kd.R Kd.string 9 w' w.heap.size (fun _ => True) v0_ r1 ∧ Below w.heap.size w w' := by
 unfold redo_Texts.f at h
 split at h
 ·rename_i hh
  obtain ⟨rfl, ⟨hok, q1, q2, q3, q4, q5, q6, q7, q8, q9⟩, q10, q11⟩ := hh
  obtain ⟨rfl, rfl⟩ := Prod.mk.inj (Option.some.inj h)
  obtain ⟨fr, rfl⟩ := Int.eq_ofNat_of_zero_le q3
  obtain ⟨mn, rfl⟩ := Int.eq_ofNat_of_zero_le (show 0 ≤ a1_1 by omega)
  obtain ⟨at_, rfl⟩ := Int.eq_ofNat_of_zero_le q5
  obtain ⟨first, rfl⟩ := Int.eq_ofNat_of_zero_le q7
  obtain ⟨many, rfl⟩ := Int.eq_ofNat_of_zero_le q10
  refine (texts_main A0_0 c0_0 l0_0 A0_1 c0_1 l0_1 fr mn at_ first many a2_1 w hr0_0 hc0_0 hr0_1 hc0_1 hok (by omega) (by omega) (by omega) q9 (by omega) (by omega) (by omega)).mono ?_
  rintro e w' ⟨v, rfl, ho, hb⟩
  exact ⟨v, rfl, Kd.R_of_own ho (fun _ _ => trivial), hb⟩
 ·cases h
end Go.Proofs.Ytcbfnfggnocndaa
end

section
namespace Go.Proofs.Ytcbfnfggnocndaa
open Go.RowKit Go.Shelf Go.Proofs.Ytcbfnfggnocndaa.Q Go.Proofs.YtcbfnfggnocndaaW.PrintWords Go.Proofs.YtcbfnfggnocndaaW.PrintLast Go.Proofs.YtcbfnfggnocndaaW.PrintMore Math
def mayR (n : Nat) (fr mn : Int) : Bool := decide (0 ≤ fr) && (decide (1 ≤ mn) && (decide (mn ≤ (n : Int)) && decide (fr ≤ (n : Int) - mn)))
set_option maxHeartbeats 2000000 in
set_option maxRecDepth 1000000 in
theorem may_calls (A0 : Option Addr) (c0 n0 : Nat) (A1 : Option Addr) (c1 n1 : Nat) (off : Bool) (fr mn : Int) (hn : n0 ≤ 1000000000) (w : World) :
    Calls Try.prog 37 #[.agg #[.slice A0 n0 c0, .slice A1 n1 c1, .bool off], .agg #[.int .i64 fr, .int .i64 mn]] w fun e w' => e = .returned (.bool (mayR n0 fr mn)) ∧ Below w.heap.size w w' := by
  unfold mayR
  have hb := ((Below.refl w.heap.size w).alloc (Nat.le_refl _) (.cells #[.slice A0 n0 c0, .slice A1 n1 c1, .bool off] 25)).alloc (by rw [World.size_alloc]; omega) (.cells #[.int .i64 fr, .int .i64 mn] 27)
  have HB := Lib.hid hb
  clear hb
  by_cases h1 : 0 ≤ fr
  · have d1 : decide (0 ≤ fr) = true := decide_eq_true h1
    by_cases h2 : 1 ≤ mn
    · have d2 : decide (1 ≤ mn) = true := decide_eq_true h2
      by_cases h3 : mn ≤ (n0 : Int)
      · have d3 : decide (mn ≤ (n0 : Int)) = true := decide_eq_true h3
        have hw : wrap64 ((n0 : Int) - mn) = (n0 : Int) - mn := w64 (by omega) (by omega)
        cases d4 : decide (fr ≤ (n0 : Int) - mn)
        all_goals
          rw [d1, d2, d3]
          go_enter Try.func37, Try.ntmps37
          go_wp2_with fail
          first | go_ret | (go_quiet (fail); go_wp2_with fail; go_ret)
          first | exact ⟨rfl, HB.out⟩ | exact ⟨rfl, zqe HB.out _⟩
      · have d3 : decide (mn ≤ (n0 : Int)) = false := decide_eq_false h3
        rw [d1, d2, d3]
        go_enter Try.func37, Try.ntmps37
        go_wp2_with fail
        first | go_ret | (go_quiet (fail); go_wp2_with fail; go_ret)
        first | exact ⟨rfl, HB.out⟩ | exact ⟨rfl, zqe HB.out _⟩
    · have d2 : decide (1 ≤ mn) = false := decide_eq_false h2
      rw [d1, d2]
      go_enter Try.func37, Try.ntmps37
      go_wp2_with fail
      first | go_ret | (go_quiet (fail); go_wp2_with fail; go_ret)
      first | exact ⟨rfl, HB.out⟩ | exact ⟨rfl, zqe HB.out _⟩
  · have d1 : decide (0 ≤ fr) = false := decide_eq_false h1
    rw [d1]
    go_enter Try.func37, Try.ntmps37
    go_wp2_with fail
    first | go_ret | (go_quiet (fail); go_wp2_with fail; go_ret)
    first | exact ⟨rfl, HB.out⟩ | exact ⟨rfl, zqe HB.out _⟩
end Go.Proofs.Ytcbfnfggnocndaa
end

section
namespace Go.Proofs.Ytcbfnfggnocndaa
open Go.RowKit Go.Shelf Go.Proofs.Ytcbfnfggnocndaa.Q Go.Proofs.YtcbfnfggnocndaaW.PrintWords Go.Proofs.YtcbfnfggnocndaaW.PrintLast Go.Proofs.YtcbfnfggnocndaaW.PrintMore Math
theorem bx3_new (w : World) (d0 d1 d2 : Value) (f m a u fi ma : Int) (W : World) (hW : W = ((w.alloc (.cells #[d0, d1, d2] 25)).alloc (.cells #[.int .i64 f, .int .i64 m] 27)).alloc (.cells #[.int .i64 a, .int .i64 u, .int .u64 fi, .int .i64 ma] 30)) :
    Bx2 w W d0 d1 d2 f m ∧ BxL w W a u fi ma ∧ W.heap.size = w.heap.size + 3 := by
  have hx0 := Bx2.new w d0 d1 d2 f m
  obtain ⟨W2, hW2⟩ : ∃ W2, W2 = (w.alloc (.cells #[d0, d1, d2] 25)).alloc (.cells #[.int .i64 f, .int .i64 m] 27) := ⟨_, rfl⟩
  have hz2 : W2.heap.size = w.heap.size + 2 := by rw [hW2, World.size_alloc, World.size_alloc]
  rw [← hW2] at hx0 hW
  have b3 := (Below.refl W2.heap.size W2).alloc (Nat.le_refl _) (.cells #[.int .i64 a, .int .i64 u, .int .u64 fi, .int .i64 ma] 30)
  rw [← hW] at b3
  refine ⟨hx0.step b3, ⟨by rw [← hz2, hW]; exact heap_alloc_new W2 _⟩, by rw [hW, World.size_alloc, hz2]⟩
def rightR (l0 : List ByteArray) (l1 : List S88) (off : Bool) (fr mn at_ used first many : Int) : Bool :=
  if off = true ∨ mayR l0.length fr mn = false ∨ at_ < 0 ∨ mn ≤ at_ ∨ many < 0 then false else (((foundD l0 l1 fr mn at_ first many).1.length : Int) == many) && (((foundD l0 l1 fr mn at_ first many).2 : Int) == used)
end Go.Proofs.Ytcbfnfggnocndaa
end

section
namespace Go.Proofs.Ytcbfnfggnocndaa
open Go.RowKit Go.Shelf Go.Proofs.Ytcbfnfggnocndaa.Q Go.Proofs.YtcbfnfggnocndaaW.PrintWords Go.Proofs.YtcbfnfggnocndaaW.PrintLast Go.Proofs.YtcbfnfggnocndaaW.PrintMore Math
def LogBox (W : World) (b : Nat) (x y z v : Value) : Prop := W.heap[b]? = some (.cells #[x, y, z, v] 30 (0, 0))
theorem LogBox.facts {W : World} {b : Nat} {x y z v : Value} (h : LogBox W b x y z v) :
    W.cell? ⟨b, 0, none⟩ = some x ∧ W.cell? ⟨b, 1, none⟩ = some y ∧ W.cell? ⟨b, 2, none⟩ = some z ∧ W.cell? ⟨b, 3, none⟩ = some v ∧ W.frozen? ⟨b, 0, none⟩ = false ∧ W.frozen? ⟨b, 1, none⟩ = false ∧ W.frozen? ⟨b, 2, none⟩ = false ∧ W.frozen? ⟨b, 3, none⟩ = false := by
  refine ⟨by rw [blk_cell h]; rfl, by rw [blk_cell h]; rfl, by rw [blk_cell h]; rfl, by rw [blk_cell h]; rfl, zqi h 0, zqi h 1, zqi h 2, zqi h 3⟩
end Go.Proofs.Ytcbfnfggnocndaa
end

section
namespace Go.Proofs.Ytcbfnfggnocndaa
open Go.RowKit Go.Shelf Go.Proofs.Ytcbfnfggnocndaa.Q Go.Proofs.YtcbfnfggnocndaaW.PrintWords Go.Proofs.YtcbfnfggnocndaaW.PrintLast Go.Proofs.YtcbfnfggnocndaaW.PrintMore Math
end Go.Proofs.Ytcbfnfggnocndaa
end
