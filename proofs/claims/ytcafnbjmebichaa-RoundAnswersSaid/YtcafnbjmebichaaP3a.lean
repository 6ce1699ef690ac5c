/- Ballots held against each other, values held against each other. No conditions. -/
import Derived.Test.YtcafnbjmebichaaD3sp
import Derived.Test.YtcafnbjmebichaaPM
open Go Go.VM
namespace Go.Proofs.Ytcafnbjmebichaa
set_option maxRecDepth 100000
section
variable {β : Type} {PP : β → Prop}
theorem wrap_succ {i : Nat} (h : i < 9223372036854775807) : wrapI .i64 (addI (ofN i) 1) = ofN (i + 1) := by
  have : addI (ofN i) 1 = ofN (i + 1) := by simp [addI, ofN]
  rw [this]
  exact wrap_in (by simp [ofN]; omega) (by simp [ofN]; omega)
theorem natI_ofN' (i : Nat) : natI (ofN i) = i := by simp [natI, ofN]
/-- the first of three that isn't 0 -/
def or3 (a b c : Int) : Int := if a ≠ 0 then a else if b ≠ 0 then b else c
theorem allOr (X0 : Int → R β) (n : Nat) (f : Nat → V) (hn : n ≤ 1000) (r : Int) (h0 : (∀ i, i < n → intV (f i) = 0) → r = 0) (h1 : ∀ i, i < n → intV (f i) ≠ 0 → (∀ j, j < i → intV (f j) = 0) → r = intV (f i)) (h : All PP (X0 r)) : All PP (Df75_0 X0 n f) := by
  unfold Df75_0
  have main : ∀ (k i : Nat), i ≤ n → n - i < k → (∀ j, j < i → intV (f j) = 0) → All PP (Lf75_0_0 (fun i2 => X0 i2) (X0 0) 0 n f (ofN n) k (ofN i)) := by
    intro k
    induction k with
    | zero => intro i hi hk; omega
    | succ k ih =>
      intro i hi hk hz
      show All PP (Rd75_0_0 (Lf75_0_0 (fun i2 => X0 i2) (X0 0) 0 n f (ofN n) k) (fun i2 => X0 i2) (X0 0) 0 n f (ofN n) (ofN i))
      unfold Rd75_0_0
      refine ailt (fun hlt => ?_) (fun hge => ?_)
      · have hlt' : i < n := by simp only [ofN] at hlt; omega
        refine aiand (aile (fun _ => ailt (fun _ => ?_) (fun h => absurd hlt h)) (fun h => absurd (by simp only [ofN]; omega) h))
        rw [natI_ofN', wrap_succ (by omega)]
        refine ainot (aieq (fun e => ?_) (fun e => ?_))
        · refine ih (i + 1) (by omega) (by omega) (fun j hj => ?_)
          by_cases e' : j = i
          · rw [e']; exact e
          · exact hz j (by omega)
        · have := h1 i hlt' e hz
          rw [← this]; exact h
      · have : r = 0 := h0 fun j hj => hz j (by simp only [ofN] at hge; omega)
        rw [← this]; exact h
  exact main NNo 0 (Nat.zero_le _) (by rw [NNo_eq]; unfold NN; omega) (fun j hj => absurd hj (by omega))
theorem allOr3 (X0 : Int → R β) (f : Nat → V) (h : All PP (X0 (or3 (intV (f 0)) (intV (f 1)) (intV (f 2))))) : All PP (Df75_0 X0 3 f) := by
  refine allOr X0 3 f (by omega) _ (fun hz => ?_) (fun i hi hne hz => ?_) h
  · unfold or3
    rw [if_neg (fun h => h (hz 0 (by omega))), if_neg (fun h => h (hz 1 (by omega))), hz 2 (by omega)]
  · unfold or3
    match i, hi with
    | 0, _ => rw [if_pos hne]
    | 1, _ => rw [if_neg (fun h => h (hz 0 (by omega))), if_pos hne]
    | 2, _ => rw [if_neg (fun h => h (hz 0 (by omega))), if_neg (fun h => h (hz 1 (by omega)))]
/-- one ballot is below another -/
def lessB (a0 a1 a2 b0 b1 b2 : Int) : Bool := decide (a0 < b0 ∨ (a0 = b0 ∧ (a1 < b1 ∨ (a1 = b1 ∧ a2 < b2))))
theorem lessB_true {a0 a1 a2 b0 b1 b2 : Int} (h : a0 < b0 ∨ (a0 = b0 ∧ (a1 < b1 ∨ (a1 = b1 ∧ a2 < b2)))) : lessB a0 a1 a2 b0 b1 b2 = true := decide_eq_true h
theorem lessB_false {a0 a1 a2 b0 b1 b2 : Int} (h : ¬ (a0 < b0 ∨ (a0 = b0 ∧ (a1 < b1 ∨ (a1 = b1 ∧ a2 < b2))))) : lessB a0 a1 a2 b0 b1 b2 = false := decide_eq_false h
theorem allLess (X0 : Bool → R β) (a0 a1 a2 b0 b1 b2 : Int) (h : All PP (X0 (lessB a0 a1 a2 b0 b1 b2))) : All PP (Df55_0 X0 a0 a1 a2 b0 b1 b2) := by
  unfold Df55_0 Df93_0
  repeat' first
    | with_reducible refine ailt (fun _ => ?_) (fun _ => ?_)
    | with_reducible refine aieq (fun _ => ?_) (fun _ => ?_)
    | with_reducible refine ainot ?_
    | with_reducible refine all_bothR ?_ ?_
    | fail
  all_goals first
    | (exact absurd rfl (by assumption))
    | (refine allOr3 _ _ ?_; rw [lessB_true (by omega)] at h; exact h)
    | (refine allOr3 _ _ ?_; rw [lessB_false (by omega)] at h; exact h)
end
end Go.Proofs.Ytcafnbjmebichaa
