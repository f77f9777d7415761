/- A region that draws its order, in a round of a range over a function: as anywhere, where it defers nothing. No condition. -/
import Derived.Test.YtmeppeadfhifeaaChunk
namespace Go.Proofs.Ytmeppeadfhifeaa
open Go.RowKit
set_option linter.unusedVariables false
set_option linter.unusedSimpArgs false

theorem uponIn_of {P : Program} {o : Oper} {a : Act} {K : Act → World → Prop} {Q : Exit → Act → World → Prop} (l n : Nat) (hn : 1 ≤ n) (r : Result Next)
    (h : o.upon P a K Q r) : o.uponIn (Fence.wide.inRound l) n P a K Q r := by
  unfold Oper.upon at h
  unfold Oper.uponIn
  split at h
  · exact h
  · exact h
  · exact h
  · exact ⟨fun _ => hn, CallsIn.inRound l (callsIn_wide.2 h)⟩
  · refine ⟨fun _ => hn, ?_⟩
    intro c cs hr
    obtain ⟨v, w', hR, hs⟩ := h c cs
    exact ⟨v, w', hR, stepsIn_wide.2 hs⟩
  · exact h
  · exact h.elim

def NoDefer (ops : Array Oper) : Prop := ∀ (i : Nat) (o : Oper), ops[i]? = some o → ∀ c, o.op ≠ .defer c

theorem wpIn_of {P : Program} {o : Oper} {a : Act} {w : World} {K : Act → World → Prop} {Q : Exit → Act → World → Prop} (l n : Nat) (hn : 1 ≤ n) (hd : ∀ c, o.op ≠ .defer c)
    (h : o.wp P a w K Q) : o.wpIn (Fence.wide.inRound l) n P a w K Q := by
  refine ⟨fun _ _ => trivial, ?_⟩
  rw [Fence.inRound_round, Oper.semAt_some l a.eval o hd]
  exact uponIn_of l n hn _ h

theorem wpOpIn_of {P : Program} {ops : Array Oper} {Q : Exit → Act → World → Prop} (l n : Nat) (hn : 1 ≤ n) (hops : NoDefer ops) (hQ : ¬ LetsOut Q) (i : Nat) (K K' : Act → World → Prop) (hK : ∀ a w, K a w → K' a w) (a : Act) (w : World)
    (h : wpOp P ops Q i K a w) : wpOpIn (Fence.wide.inRound l) n P ops Q i K' a w := by
  unfold wpOp at h
  unfold wpOpIn
  cases ho : ops[i]? with
  | none => rw [ho] at h; exact hK _ _ h
  | some o =>
    rw [ho] at h
    simp only at h ⊢
    split
    · rename_i hw
      rw [if_pos hw] at h
      rcases h with h | ⟨_, h⟩
      · exact wpIn_of l n hn (hops i o ho) (Oper.wp_mono hK h)
      · exact absurd h hQ
    · rename_i hw
      rw [if_neg hw] at h
      exact ⟨fun _ _ => trivial, hK _ _ h⟩

theorem wpAnyIn_of {P : Program} {md : Region.Mode} {ops : Array Oper} {Q : Exit → Act → World → Prop} (l n : Nat) (hn : 1 ≤ n) (hops : NoDefer ops) (hQ : ¬ LetsOut Q) :
    ∀ (fuel : Nat) (listed : Array Bool) (a : Act) (w : World), wpAny P md ops Q fuel listed a w → wpAnyIn (Fence.wide.inRound l) n P md ops Q fuel listed a w
  | 0, _, _, _, h => h
  | fuel + 1, listed, a, w, h => ⟨h.1, fun i hi => wpOpIn_of l n hn hops hQ i _ _ (fun a w hh => wpAnyIn_of l n hn hops hQ fuel _ a w hh) a w (h.2 i hi)⟩

theorem region_round {P : Program} {id : Nat} {lst : List Oper} {Q : Exit → Act → World → Prop} {a : Act} {w : World} (l n : Nat) (hn : 1 ≤ n) (hm : P.follows .mixedOrders = true) (hops : NoDefer lst.toArray) (hQ : ¬ LetsOut Q)
    (h : wpAny P .any lst.toArray Q lst.toArray.size (Array.replicate lst.toArray.size false) a w.drew) : (Code.region id lst.toArray true).wpIn (Fence.wide.inRound l) n P Q a w :=
  wpIn_region_any hm (wpAnyIn_of l n hn hops hQ _ _ _ _ h)
end Go.Proofs.Ytmeppeadfhifeaa
