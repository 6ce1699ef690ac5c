/- The case's length. No conditions. -/
import Derived.Test.YtbplfgghcclgkaaP14s
open Go Go.VM
namespace Go.Proofs.Ytbplfgghcclgkaa
section
variable {β : Type} {PP : β → Prop}
theorem wrap_succ' {i : Nat} (h : i < 9223372036854775807) : wrapI .i64 (addI (ofN i) 1) = ofN (i + 1) := by
  have : addI (ofN i) 1 = ofN (i + 1) := by simp [addI, ofN]
  rw [this]
  exact wrap_in (by simp [ofN]; omega) (by simp [ofN]; omega)
theorem allLongL (X0 : Int → R β) (n : Nat) (f : Nat → V) (hn : n ≤ 9223372036854775807) (hX : ∀ a, All PP (X0 a)) :
    ∀ (k i : Nat) (a : Int), i ≤ n → n - i < k → All PP (Lf28_0_0 X0 n f (ofN n) k a (ofN i))
  | 0, i, a, _, hk => by omega
  | k + 1, i, a, hi, hk => by
    show All PP (Rd28_0_0 (Lf28_0_0 X0 n f (ofN n) k) X0 n f (ofN n) a (ofN i))
    unfold Rd28_0_0
    refine ailt (fun h => ?_) (fun h => hX _)
    have hlt : i < n := by simp only [ofN] at h; omega
    refine aiand (aile (fun _ => ailt (fun _ => ?_) (fun h' => absurd h h')) (fun h' => afail (by simp only [ofN] at h'; omega)))
    rw [wrap_succ' (by omega)]
    exact allLongL X0 n f hn hX k (i + 1) _ (by omega) (by omega)
theorem allLong (X0 : Bool → R β) (n0 n4 : Nat) (f5 : Nat → V) (hn : n4 ≤ 9223372036854775807) (hX : ∀ b, All PP (X0 b)) : All PP (Df28_0 X0 n0 n4 f5) := by
  unfold Df28_0
  exact allLongL _ n4 f5 hn (fun a => hX _) NNo 0 _ (Nat.zero_le _) (by rw [NNo_eq]; unfold NN; omega)
end
end Go.Proofs.Ytbplfgghcclgkaa
