/- A row that is only read, told by what its reading hangs on, does not lie in a block that it does not hang on. -/
import Derived.Test.YtcefnaacnilojaaNetF
set_option linter.unusedVariables false
namespace Go.Proofs.Ytcefnaacnilojaa
open Go.RowKit Go.Proofs.YtcefnaacnilojaaW.PrintWords Go.Proofs.YtcefnaacnilojaaW.PrintLast Go.Proofs.YtcefnaacnilojaaW.PrintMore

theorem px_v_ne {ok : Nat → Prop} {e base n c g : Nat} {W : World} {ad : Addr} {xs : List ByteArray} (h : Kd.V Kd.string e W base ok (.slice (some ad) n c) xs) (hok : ∀ k, ok k → k ≠ g) {i : Int} (h0 : 0 ≤ i) (h1 : i < n) : ad.block ≠ g := by
  intro hb
  have hF := Kd.V_F h
  have hC : Kd.string.C (W.setRow g #[]) (some ad) n xs := hF _ (fun k hk _ => by
    have hne := hok k hk
    simp [World.setRow, Array.getElem?_modify, Ne.symm hne])
  obtain ⟨a', e', hc⟩ := Kd.at_string hC i h0 h1
  cases e'
  have : (W.setRow g #[]).cell? (ad.add i.toNat) = none := by
    have hbl : (ad.add i.toNat).block = g := by rw [← hb]; exact add_block _ _
    have key : (W.setRow g #[]).heap[g]? = (W.heap[g]?).map fun | .cells _ elem frozen => .cells #[] elem frozen | o => o := by
      unfold World.setRow
      simp only [Array.getElem?_modify, if_true]
      congr 1
    simp only [World.cell?, hbl, key]
    cases hg : W.heap[g]? with
    | none => rfl
    | some o => cases o <;> simp
  rw [this] at hc
  cases hc
end Go.Proofs.Ytcefnaacnilojaa
