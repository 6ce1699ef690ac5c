/- The document's cut: the later places. No conditions. -/
import Derived.Test.YtbplfgghcclgkaaP14l
open Go Go.VM
namespace Go.Proofs.Ytbplfgghcclgkaa
set_option maxRecDepth 100000
section
variable {β : Type} {PP : β → Prop}
theorem allPl14 (X0 : (Nat → V) → R β) (n : Nat) (f1 f0 : Nat → V) (hn : n ≤ 1100000) (hX : ∀ f, (∀ j, j < n → etaPl (f j) = maxP (f0 j) (f1 j)) → (∀ j, n ≤ j → f j = f0 j) → All PP (X0 f)) :
    ∀ (k i : Nat) (f : Nat → V), i ≤ n → n - i < k → (∀ j, j < i → etaPl (f j) = maxP (f0 j) (f1 j)) → (∀ j, i ≤ j → f j = f0 j) → All PP (Lf85_0_0 X0 n f1 n k (ofN i) f) := by
  intro k
  induction k with
  | zero => intro i f hi hk; omega
  | succ k ih =>
    intro i f hi hk hf hg
    show All PP (Rd85_0_0 (Lf85_0_0 X0 n f1 n k) X0 n f1 n (ofN i) f)
    generalize Lf85_0_0 X0 n f1 n k = NX at ih ⊢
    unfold Rd85_0_0
    refine ailt (fun hlt => ?_) (fun hlt => ?_)
    · have hlt' : i < n := by simp only [ofN] at hlt; omega
      have rng : ∀ {x : R β}, All PP x → All PP (iteR (andB (leI 0 (ofN i)) (ltI (ofN i) (ofN n))) x .fail) := fun h =>
        aiand (aile (fun _ => ailt (fun _ => h) (fun h' => absurd hlt h')) (fun h' => absurd (by simp only [ofN]; omega) h'))
      have gi : f i = f0 i := hg i (Nat.le_refl i)
      rw [natI_ofN, wrap_succ (by omega)]
      have set : lessP (f0 i) (f1 i) = true → All PP (NX (ofN (i + 1)) (setF f i (.nd 53 [.int .i64 (intV (partV (f1 i) 0)), .int .i64 (intV (partV (f1 i) 1))]))) := fun hl =>
        ih (i + 1) _ (by omega) (by omega) (fun j hj => by
          by_cases e : j = i
          · rw [e, setF_at]; unfold maxP; rw [if_pos hl]; rfl
          · rw [setF_ne _ _ e]; exact hf j (by omega)) (fun j hj => by rw [setF_ne _ _ (by omega)]; exact hg j (by omega))
      have same : lessP (f0 i) (f1 i) = false → All PP (NX (ofN (i + 1)) f) := fun hl =>
        ih (i + 1) f (by omega) (by omega) (fun j hj => by
          by_cases e : j = i
          · rw [e, gi]; unfold maxP; rw [if_neg (by rw [hl]; simp)]
          · exact hf j (by omega)) (fun j hj => hg j (by omega))
      unfold lessP lessV at set same
      rw [gi]
      refine rng (rng (aieq (fun he => ailt (fun h' => rng (rng (set (decide_eq_true (.inr ⟨he, h'⟩))))) (fun h' => same (decide_eq_false (by rintro (a | a); omega; exact h' a.2)))) (fun he => ailt (fun h' => rng (rng (set (decide_eq_true (.inl h'))))) (fun h' => same (decide_eq_false (by rintro (a | a); exact h' a; exact he a.1))))))
    · have : i = n := by simp only [ofN] at hlt; omega
      subst this
      exact hX f hf hg
theorem allCut14 (X0 : Int → Int → (Nat → V) → (Nat → V) → R β) (n0 : Nat) (f1 : Nat → V) (n2 : Nat) (s : Int) (n n8 : Nat) (f10 f g pf : Nat → V) (hn : n ≤ 1100000) (h2 : 1 ≤ n2) (h2' : n2 ≤ 3) (hs : 1 ≤ s) (hs' : s ≤ 4) (hm : n8 = n2 * s.toNat) (hr : ∀ i, i < n2 → 1 ≤ intV (f10 i))
    (ho : ∀ i, i < n → inI (intV (partV (f i) 2)) ∧ inI (intV (partV (f i) 3))) (h0 : n0 ≠ n8 → All PP (X0 0 2 g pf))
    (hX : n0 = n8 → ∀ (c : Nat) g' pf', (∀ j, j < n8 → etaPl (pf' j) = maxP (pf j) (f1 j)) → c + (heldL f g' n).length = (heldL f g n).length → heldL f g' n = (heldL f g n).filter (fun v => !coveredV n2 f10 s n8 pf' v) → All PP (X0 (ofN c) 0 g' pf')) :
    All PP (Df85_0 X0 n0 f1 n2 s n n n8 f10 f g pf) := by
  unfold Df85_0
  have hmul : n2 * s.toNat ≤ 12 := Nat.mul_le_mul h2' (show s.toNat ≤ 4 by omega)
  refine ainot (aieq (fun he => ?_) (fun he => h0 fun e => he (by rw [e])))
  have he : n0 = n8 := by simp only [ofN] at he; omega
  subst he
  refine allPl14 _ n0 f1 pf (by omega) (fun pf' hp _ => ?_) NNo 0 pf (Nat.zero_le _) (by rw [NNo_eq]; unfold NN; omega) (fun j hj => absurd hj (by omega)) (fun j _ => rfl)
  exact allGone14 _ n2 s n n0 f10 f pf' g hn h2 h2' hs hs' hm hr ho (fun c g' hc hl => hX rfl c g' pf' hp hc hl) NNo 0 0 g (Nat.zero_le _) (by rw [NNo_eq]; unfold NN; omega) (Nat.le_refl _) (fun j _ => rfl) rfl rfl
end
end Go.Proofs.Ytbplfgghcclgkaa
