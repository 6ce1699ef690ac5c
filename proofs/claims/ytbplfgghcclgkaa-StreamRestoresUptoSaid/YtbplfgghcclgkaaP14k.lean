/- The document's covered: all cells ahead. No conditions. -/
import Derived.Test.YtbplfgghcclgkaaP14j
open Go Go.VM
namespace Go.Proofs.Ytbplfgghcclgkaa
set_option maxRecDepth 100000
section
variable {β : Type} {PP : β → Prop}
theorem allCov14 (X0 : Bool → R β) (X1 : R β) (o : V) (n : Nat) (f : Nat → V) (s : Int) (m : Nat) (pf : Nat → V) (hn : 1 ≤ n) (hn' : n ≤ 3) (hs : 1 ≤ s) (hs' : s ≤ 4) (hm : m = n * s.toNat) (hr : ∀ i, i < n → 1 ≤ intV (f i)) (ht : inI (intV (partV o 2))) (hk : inI (intV (partV o 3)))
    (h0 : coveredV n f s m pf o = true → All PP (X0 true)) (h1 : coveredV n f s m pf o = false → All PP X1) : All PP (Df117_0 X0 X1 (intV (partV o 2)) (intV (partV o 3)) n f s m pf) := by
  have hiff := covered_iff (pf := pf) hn hn' hs hs' hm hr ht.1 ht.2
  unfold Df117_0
  refine allIds _ n f s (intV (partV o 2)) (intV (partV o 3)) hn' hs hs' hr ht hk (fun N ids hids => ?_)
  have fin : ∀ c : Nat, (c = n ↔ aheadP n f s pf o) → All PP (iteR (eqI (ofN c) (ofN n)) (X0 (ltI 0 (ofN c))) X1) := by
    intro c hc
    refine aieq (fun he => ?_) (fun he => ?_)
    · have he : c = n := by simp only [ofN] at he; omega
      have : ltI 0 (ofN c) = true := by rw [ltI_iff]; simp only [ofN]; omega
      rw [this]
      exact h0 (hiff.2 (hc.1 he))
    · refine h1 ?_
      cases hb : coveredV n f s m pf o with
      | false => rfl
      | true => exact absurd (by rw [hc.2 (hiff.1 hb)]) he
  have loop : ∀ (k i c : Nat), i ≤ n → n - i < k → c ≤ i → (c = i ↔ ∀ j, j < i → lessV (intV (partV o 2) / intV (f j)) (intV (partV o 3)) (intV (partV (pf (natI (laneAt (intV (partV o 3)) s j))) 0)) (intV (partV (pf (natI (laneAt (intV (partV o 3)) s j))) 1)) = true) →
      All PP (Lf117_0_0 (fun i13 => iteR (eqI i13 (ofN n)) (X0 (ltI 0 i13)) X1) m pf n ids k (ofN c) (ofN i)) := by
    intro k
    induction k with
    | zero => intro i c hi hk; omega
    | succ k ih =>
      intro i c hi hk' hci hc
      show All PP (Rd117_0_0 (Lf117_0_0 (fun i13 => iteR (eqI i13 (ofN n)) (X0 (ltI 0 i13)) X1) m pf n ids k) _ m pf n ids (ofN c) (ofN i))
      unfold Rd117_0_0
      refine ailt (fun hlt => ?_) (fun hlt => ?_)
      · have hlt' : i < n := by simp only [ofN] at hlt; omega
        have rng : ∀ {x : R β}, All PP x → All PP (iteR (andB (leI 0 (ofN i)) (ltI (ofN i) (ofN n))) x .fail) := fun h =>
          aiand (aile (fun _ => ailt (fun _ => h) (fun h' => absurd hlt h')) (fun h' => absurd (by simp only [ofN]; omega) h'))
        have hl := laneAt_range (key := intV (partV o 3)) hs hs' hlt'
        rw [natI_ofN, hids i hlt', wrap_succ (i := c) (by omega)]
        try rw [wrap_succ (i := i) (by omega)]
        show All PP (iteR _ (iteR (leI 0 (laneAt (intV (partV o 3)) s i)) (iteR _ (iteR (ltI (laneAt (intV (partV o 3)) s i) (ofN m)) (iteR _ (iteR _ (iteR (andB (leI 0 (laneAt (intV (partV o 3)) s i)) (ltI (laneAt (intV (partV o 3)) s i) (ofN m))) (iteR (eqI (intV (partV o 2) / intV (f i)) (intV (partV (pf (natI (laneAt (intV (partV o 3)) s i))) 0))) (iteR (ltI (intV (partV o 3)) (intV (partV (pf (natI (laneAt (intV (partV o 3)) s i))) 1))) _ _) (iteR (ltI (intV (partV o 2) / intV (f i)) (intV (partV (pf (natI (laneAt (intV (partV o 3)) s i))) 0))) _ _)) .fail) .fail) .fail) _) .fail) _) .fail)
        have yes : lessV (intV (partV o 2) / intV (f i)) (intV (partV o 3)) (intV (partV (pf (natI (laneAt (intV (partV o 3)) s i))) 0)) (intV (partV (pf (natI (laneAt (intV (partV o 3)) s i))) 1)) = true → All PP (Lf117_0_0 (fun i13 => iteR (eqI i13 (ofN n)) (X0 (ltI 0 i13)) X1) m pf n ids k (ofN (c + 1)) (ofN (i + 1))) := fun hy =>
          ih (i + 1) (c + 1) (by omega) (by omega) (by omega) ⟨fun he j hj => by
            by_cases e : j = i
            · rw [e]; exact hy
            · exact hc.1 (by omega) j (by omega), fun hall => by have := hc.2 (fun j hj => hall j (by omega)); omega⟩
        have no : lessV (intV (partV o 2) / intV (f i)) (intV (partV o 3)) (intV (partV (pf (natI (laneAt (intV (partV o 3)) s i))) 0)) (intV (partV (pf (natI (laneAt (intV (partV o 3)) s i))) 1)) = false → All PP (Lf117_0_0 (fun i13 => iteR (eqI i13 (ofN n)) (X0 (ltI 0 i13)) X1) m pf n ids k (ofN c) (ofN (i + 1))) := fun hno =>
          ih (i + 1) c (by omega) (by omega) (by omega) ⟨fun he => by omega, fun hall => by have := hall i (by omega); rw [hno] at this; cases this⟩
        refine rng (aile (fun _ => rng (ailt (fun _ => rng (rng (aiand (aile (fun _ => ailt (fun _ => ?_) (fun h' => absurd (by rw [hm]; exact hl.2) h')) (fun h' => absurd hl.1 h'))))) (fun h' => absurd (by rw [hm]; exact hl.2) h'))) (fun h' => absurd hl.1 h'))
        unfold lessV at yes no
        refine aieq (fun he => ailt (fun h' => yes (decide_eq_true (.inr ⟨he, h'⟩))) (fun h' => no (decide_eq_false (by rintro (a | a); omega; exact h' a.2)))) (fun he => ailt (fun h' => yes (decide_eq_true (.inl h'))) (fun h' => no (decide_eq_false (by rintro (a | a); exact h' a; exact he a.1))))
      · have : i = n := by simp only [ofN] at hlt; omega
        subst this
        exact fin c hc
  exact loop NNo 0 0 (Nat.zero_le _) (by rw [NNo_eq]; unfold NN; omega) (Nat.le_refl _) ⟨fun _ j hj => absurd hj (by omega), fun _ => rfl⟩
end
end Go.Proofs.Ytbplfgghcclgkaa
