/- What the document's stream begins as; the same places. No conditions. -/
import Derived.Test.YtbplfgghcclgkaaP14g
open Go Go.VM
namespace Go.Proofs.Ytbplfgghcclgkaa
set_option maxRecDepth 100000
section
variable {β : Type} {PP : β → Prop}
theorem allPlacesL (X0 X1 : R β) (n : Nat) (f g : Nat → V) (hn : n ≤ 1073741824) (h : ∀ i, i < n → etaPl (f i) = etaPl (g i)) (h1 : All PP X1) :
    ∀ (k i : Nat), i ≤ n → n - i < k → All PP (Lf48_0_0 X0 X1 n f n g (ofN n) k (ofN i))
  | 0, i, _, hk => by omega
  | k + 1, i, hi, hk => by
    have ih := allPlacesL X0 X1 n f g hn h h1 k
    show All PP (Rd48_0_0 (Lf48_0_0 X0 X1 n f n g (ofN n) k) X0 X1 n f n g (ofN n) (ofN i))
    unfold Rd48_0_0
    refine ailt (fun hl => ?_) (fun _ => h1)
    have hlt : i < n := by simp only [ofN] at hl; omega
    have part : ∀ k, intV (partV (etaPl (f i)) k) = intV (partV (etaPl (g i)) k) := fun k => by rw [h i hlt]
    refine aiand (aile (fun _ => ailt (fun _ => ?_) (fun h' => absurd hl h')) (fun h' => afail (by simp only [ofN] at h'; omega)))
    refine aiand (aile (fun _ => ailt (fun _ => ?_) (fun h' => absurd hl h')) (fun h' => afail (by simp only [ofN] at h'; omega)))
    rw [natI_ofN]
    refine ainot (aiand (aieq (fun _ => aieq (fun _ => ?_) (fun h' => absurd (part 1) h')) (fun h' => absurd (part 0) h')))
    rw [wrap_succ (by omega)]
    exact ih (i + 1) (by omega) (by omega)
theorem allPlaces (X0 X1 : R β) (n : Nat) (f g : Nat → V) (hn : n ≤ 1073741824) (h : ∀ i, i < n → etaPl (f i) = etaPl (g i)) (h1 : All PP X1) : All PP (Df48_0 X0 X1 n f n g) := by
  unfold Df48_0
  refine ainot (aieq (fun _ => ?_) (fun h' => absurd rfl h'))
  exact allPlacesL X0 X1 n f g hn h h1 NNo 0 (Nat.zero_le _) (by rw [NNo_eq]; unfold NN; omega)
theorem allNew14L2 (X0 : Nat → Nat → (Nat → V) → R β) (s n0 : Nat) (hs : s ≤ 4) (hn : n0 ≤ 12) (hX : ∀ N f, (∀ j, j < n0 + s → f j = leastV) → All PP (X0 (n0 + s) N f)) :
    ∀ (k i N : Nat) (f : Nat → V), i ≤ s → s - i < k → (∀ j, j < n0 + i → f j = leastV) → All PP (Lf41_2_0 X0 (ofN s) k (ofN i) (n0 + i) N f)
  | 0, i, N, f, _, hk, _ => by omega
  | k + 1, i, N, f, hi, hk, hf => by
    have ih := allNew14L2 X0 s n0 hs hn hX k
    show All PP (Rd41_2_0 (Lf41_2_0 X0 (ofN s) k) X0 (ofN s) (ofN i) (n0 + i) N f)
    unfold Rd41_2_0
    refine ailt (fun h => ?_) (fun h => ?_)
    · have hlt : i < s := by simp only [ofN] at h; omega
      refine ailen (fun _ => ?_) (fun h' => afail (by simp only [addN] at h'; omega))
      rw [wrap_succ (by omega)]
      refine ih (i + 1) _ _ (by omega) (by omega) (fun j hj => ?_)
      by_cases e : j = n0 + i
      · rw [e, joinF_ge _ _ (Nat.le_refl _), Nat.sub_self]; rfl
      · rw [joinF_lt _ _ (by omega)]; exact hf j (by omega)
    · have : i = s := by simp only [ofN] at h; omega
      subst this
      exact hX N f hf
theorem allNew14 (X0 : R β) (X1 : Nat → Nat → Nat → (Nat → V) → (Nat → V) → Nat → (Nat → V) → R β) (n0 : Nat) (f1 : Nat → V) (i2 i3 : Int) (h0 : ¬ goodNew n0 f1 i2 i3 → All PP X0)
    (h1 : goodNew n0 f1 i2 i3 → ∀ n12 f13 n14 f15, (∀ j, j < n0 → f13 j = .int .i64 (intV (f1 j))) → (∀ j, j < n0 * i2.toNat → f15 j = leastV) → All PP (X1 n0 (n0 * i2.toNat) n12 f13 (constF .junk) n14 f15)) :
    All PP (Df41_0 X0 X1 n0 f1 i2 i3) := by
  unfold Df41_0
  refine ailt (fun h => h0 fun g => by have := g.1; simp only [ofN] at h; omega) (fun ha => ailt (fun h => h0 fun g => by have := g.2.1; simp only [ofN] at h; omega) (fun hb => ?_))
  have ha : 1 ≤ n0 := by simp only [ofN] at ha; omega
  have hb : n0 ≤ 3 := by simp only [ofN] at hb; omega
  refine ailt (fun h => h0 fun g => by have := g.2.2.2.1; omega) (fun hc => ailt (fun h => h0 fun g => by have := g.2.2.2.2.1; omega) (fun hd => ailt (fun h => h0 fun g => by have := g.2.2.2.2.2.1; omega) (fun he => ailt (fun h => h0 fun g => by have := g.2.2.2.2.2.2; omega) (fun hf => ?_))))
  obtain ⟨s, rfl⟩ : ∃ s : Nat, i2 = ofN s := ⟨i2.toNat, by simp only [ofN]; omega⟩
  have hs1 : 1 ≤ s := by simp only [ofN] at hc; omega
  have hs : s ≤ 4 := by simp only [ofN] at hd; omega
  have hts : (ofN s).toNat = s := by simp [ofN]
  rw [hts] at h1
  have loop : ∀ (k i m N : Nat) (f : Nat → V) (M : Nat) (p : Nat → V), i ≤ n0 → n0 - i < k → (∀ j, j < i → f j = .int .i64 (intV (f1 j))) → (∀ j, j < i → 1 ≤ intV (f1 j)) → (∀ j, j < i * s → p j = leastV) →
      All PP (Lf41_0_0 (fun _ _ _ _ _ _ => X0) (fun n10 n11 n12 f13 n14 f15 => X1 n10 n11 n12 f13 (constF .junk) n14 f15) n0 f1 (ofN s) k (ofN i) i (i * s) m f M p) := by
    intro k
    induction k with
    | zero => intro i m N f M p hi hk; omega
    | succ k ih =>
      intro i m N f M p hi hk hf hg hp
      show All PP (Rd41_0_0 (Lf41_0_0 (fun _ _ _ _ _ _ => X0) (fun n10 n11 n12 f13 n14 f15 => X1 n10 n11 n12 f13 (constF .junk) n14 f15) n0 f1 (ofN s) k) _ _ n0 f1 (ofN s) (ofN i) i (i * s) m f M p)
      unfold Rd41_0_0
      refine ailt (fun h => ?_) (fun h => ?_)
      · have hlt : i < n0 := by simp only [ofN] at h; omega
        have rng : ∀ {x : R β}, All PP x → All PP (iteR (andB (leI 0 (ofN i)) (ltI (ofN i) (ofN n0))) x .fail) := fun hx =>
          aiand (aile (fun _ => ailt (fun _ => hx) (fun h' => absurd h h')) (fun h' => absurd (by simp only [ofN]; omega) h'))
        rw [natI_ofN]
        refine rng (ailt (fun hbad => h0 fun g => by have := g.2.2.1 i hlt; omega) (fun hok => rng (ailen (fun _ => ?_) (fun h' => afail (by simp only [addN] at h'; omega)))))
        have his : i * s ≤ 12 := Nat.mul_le_mul (show i ≤ 3 by omega) hs
        have e0 : (i * s) = (i * s) + 0 := rfl
        refine allNew14L2 _ s (i * s) hs his (fun N' p' hp' => ?_) NNo 0 M p (Nat.zero_le _) (by rw [NNo_eq]; unfold NN; omega) (by simpa using hp)
        rw [wrap_succ (by omega)]
        have e1 : i * s + s = (i + 1) * s := (Nat.succ_mul i s).symm
        rw [e1] at hp' ⊢
        refine ih (i + 1) _ 0 _ _ _ (by omega) (by omega) (fun j hj => ?_) (fun j hj => ?_) hp'
        · by_cases e : j = i
          · rw [e, joinF_ge _ _ (Nat.le_refl _), Nat.sub_self]; rfl
          · rw [joinF_lt _ _ (by omega)]; exact hf j (by omega)
        · by_cases e : j = i
          · rw [e]; omega
          · exact hg j (by omega)
      · have : i = n0 := by simp only [ofN] at h; omega
        subst this
        exact h1 ⟨ha, hb, hg, by omega, by omega, by omega, by omega⟩ _ _ _ _ hf hp
  have := loop NNo 0 0 0 (constF .junk) 0 (constF .junk) (Nat.zero_le _) (by rw [NNo_eq]; unfold NN; omega) (fun j hj => absurd hj (by omega)) (fun j hj => absurd hj (by omega)) (fun j hj => absurd hj (by omega))
  rw [Nat.zero_mul] at this
  exact this
end
end Go.Proofs.Ytbplfgghcclgkaa
