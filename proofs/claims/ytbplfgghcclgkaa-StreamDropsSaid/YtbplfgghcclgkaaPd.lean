/- StreamDrops, as a matter of values. No conditions. -/
import Derived.Test.YtbplfgghcclgkaaPi8
open Go Go.VM
namespace Go.Proofs.Ytbplfgghcclgkaa
section
variable {β : Type} {PP : β → Prop}
theorem lst_all {P : V → Prop} {f : Nat → V} {n : Nat} (h : ∀ i, i < n → P (etaOp (f i))) : ∀ v ∈ lst f n, P v := by
  intro v hv
  obtain ⟨j, hj, rfl⟩ := List.mem_map.1 hv
  exact h j (List.mem_range.1 hj)
/-- the samples are put -/
theorem allPuts (X0 : Int → Bool → Int → Nat → Nat → (Nat → V) → R β) (n2 : Nat) (f3 : Nat → V) (h m18 : Int) (hn : n2 ≤ 9223372036854775807) (h2 : h ≤ 64)
    (hr : ∀ i, i < n2 → inI (intV (partV (f3 i) 1)) ∧ inI (intV (partV (f3 i) 2)))
    (hX : ∀ a b c (n : Nat) d g, n ≤ 64 → (∀ v ∈ lst g n, rangeOp v) → All PP (X0 a b c n d g)) :
    ∀ (k j n : Nat) (i15 : Int) (n25 : Nat) (g : Nat → V), j ≤ n2 → n2 - j < k → n ≤ 64 → (∀ v ∈ lst g n, rangeOp v) → All PP (Lf8_0_0 X0 n2 f3 (ofN n2) h 0 m18 k (ofN j) i15 n n25 g)
  | 0, j, n, i15, n25, g, _, hk, _, _ => by omega
  | k + 1, j, n, i15, n25, g, hj, hk, hn', hg => by
    have ih := allPuts X0 n2 f3 h m18 hn h2 hr hX k
    show All PP (Rd8_0_0 (Lf8_0_0 X0 n2 f3 (ofN n2) h 0 m18 k) X0 n2 f3 (ofN n2) h 0 m18 (ofN j) i15 n n25 g)
    unfold Rd8_0_0
    refine ailt (fun hlt => ?_) (fun _ => hX _ _ _ _ _ _ hn' hg)
    have hlt : j < n2 := by simp only [ofN] at hlt; omega
    rw [wrap_succ' (i := j) (by omega), natI_ofN]
    have nxt : ∀ i15 n25, All PP (Lf8_0_0 X0 n2 f3 (ofN n2) h 0 m18 k (ofN (j + 1)) i15 n n25 g) := fun i15 n25 => ih (j + 1) n i15 n25 g (by omega) (by omega) hn' hg
    have put : ∀ i15 n25 a b e, n < 64 → All PP (Lf8_0_0 X0 n2 f3 (ofN n2) h 0 m18 k (ofN (j + 1)) i15 (addN n 1) n25 (joinF g (litF a [.nd 38 [.int .i64 b, .int .i64 1, .int .i64 (intV (partV (f3 j) 1)), .int .i64 (intV (partV (f3 j) 2)), .int .i64 e]]) n)) := fun i15 n25 a b e hlt64 => by
      refine ih (j + 1) (n + 1) i15 n25 _ (by omega) (by omega) (by omega) ?_
      rw [lst_join]
      intro v hv
      rcases List.mem_append.1 hv with hv | hv
      · exact hg v hv
      · rw [List.mem_singleton.1 hv]
        exact hr j hlt
    repeat' first
      | refine ailt (fun _ => ?_) (fun _ => ?_)
      | refine aile (fun _ => ?_) (fun _ => ?_)
      | refine aieq (fun _ => ?_) (fun _ => ?_)
      | refine ailen (fun _ => ?_) (fun _ => ?_)
      | refine ainot ?_
      | refine aiand ?_
    all_goals first
      | exact nxt _ _
      | (exfalso; simp only [ofN, addN] at *; omega)
      | exact put _ _ _ _ _ (by simp only [ofN] at *; omega)
/-- the reference's question: is all of an operation ahead? -/
theorem allAhead (X0 : Bool → Int → Bool → R β) (n0 : Nat) (f1 : Nat → V) (n13 : Nat) (f34 : Nat → V) (hn : n13 ≤ 3) (P : Nat → Bool)
    (hf : ∀ j, j < n13 → 0 ≤ intV (partV (f34 j) 0) ∧ intV (partV (f34 j) 0) < ofN n0 ∧ P j = lessV (intV (partV (partV (f34 j) 1) 0)) (intV (partV (partV (f34 j) 1) 1)) (intV (partV (f1 (natI (intV (partV (f34 j) 0)))) 0)) (intV (partV (f1 (natI (intV (partV (f34 j) 0)))) 1)))
    (hX : ∀ b i c, (b = true ↔ ∀ j, j < n13 → P j = true) → All PP (X0 b i c)) :
    ∀ (k i : Nat) (b : Bool), i ≤ n13 → n13 - i < k → (b = true ↔ ∀ j, j < i → P j = true) → All PP (Lf8_4_0 X0 n0 f1 n13 (ofN n13) f34 k b (ofN i))
  | 0, i, b, _, hk, _ => by omega
  | k + 1, i, b, hi, hk, hb => by
    have ih := allAhead X0 n0 f1 n13 f34 hn P hf hX k
    show All PP (Rd8_4_0 (Lf8_4_0 X0 n0 f1 n13 (ofN n13) f34 k) X0 n0 f1 n13 (ofN n13) f34 b (ofN i))
    unfold Rd8_4_0
    refine ailt (fun h => ?_) (fun h => ?_)
    · have hlt : i < n13 := by simp only [ofN] at h; omega
      obtain ⟨h1, h2, h3⟩ := hf i hlt
      refine aiand (aile (fun _ => ailt (fun _ => ?_) (fun h' => absurd h h')) (fun h' => afail (by simp only [ofN] at h'; omega)))
      rw [natI_ofN, wrap_succ (by omega)]
      have step : ∀ b', (b' = true ↔ b = true ∧ P i = true) → All PP (Lf8_4_0 X0 n0 f1 n13 (ofN n13) f34 k b' (ofN (i + 1))) := by
        intro b' hb'
        refine ih (i + 1) b' (by omega) (by omega) ?_
        rw [hb', hb]
        constructor
        · intro ⟨h4, h5⟩ j hj
          by_cases e : j = i
          · rw [e]; exact h5
          · exact h4 j (by omega)
        · intro h4
          exact ⟨fun j hj => h4 j (by omega), h4 i (by omega)⟩
      refine all_iteR (fun hbt => ?_) (fun hbf => ?_)
      · refine aiand (aile (fun _ => ailt (fun _ => ?_) (fun h' => afail (h' h2))) (fun h' => afail (h' h1)))
        refine aieq (fun he => step _ ?_) (fun hne => step _ ?_)
        · rw [h3, ltI_iff, hbt]
          simp only [lessV, decide_eq_true_eq, true_and]
          omega
        · rw [h3, ltI_iff, hbt]
          simp only [lessV, decide_eq_true_eq, true_and]
          omega
      · exact step false (by rw [hbf]; simp)
    · have : i = n13 := by simp only [ofN] at h; omega
      subst this
      exact hX _ _ _ hb
/-- the samples that stay, by the reference -/
theorem allWant (X0 : Nat → Int → Bool → Nat → (Nat → V) → R β) (n0 : Nat) (f1 : Nat → V) (n9 n12 : Nat) (f13 : Nat → V) (s : Int) (f19 : Nat → V) (hn9 : n9 ≤ 64) (h1 : 1 ≤ n12) (h2 : n12 ≤ 3) (hs : 1 ≤ s) (hs' : s ≤ 4)
    (h0 : n0 = n12 * s.toNat) (hr : ∀ j, j < n12 → 1 ≤ intV (f13 j)) (hg : ∀ v ∈ lst f19 n9, rangeOp v)
    (hX : ∀ (n : Nat) i b m g, lst g n = (lst f19 n9).filter (fun v => !coveredV n12 f13 s n0 f1 v) → All PP (X0 n i b m g)) :
    ∀ (k i n m : Nat) (g : Nat → V), i ≤ n9 → n9 - i < k → n ≤ i → lst g n = (lst f19 i).filter (fun v => !coveredV n12 f13 s n0 f1 v) → All PP (Lf8_2_0 X0 n0 f1 n9 (ofN n9) n12 f13 s f19 k n (ofN i) m g)
  | 0, i, n, m, g, _, hk, _, _ => by omega
  | k + 1, i, n, m, g, hi, hk, hn, hl => by
    have ih := allWant X0 n0 f1 n9 n12 f13 s f19 hn9 h1 h2 hs hs' h0 hr hg hX k
    show All PP (Rd8_2_0 (Lf8_2_0 X0 n0 f1 n9 (ofN n9) n12 f13 s f19 k) X0 n0 f1 n9 (ofN n9) n12 f13 s f19 n (ofN i) m g)
    unfold Rd8_2_0
    refine ailt (fun h => ?_) (fun h => ?_)
    · have hlt : i < n9 := by simp only [ofN] at h; omega
      refine aiand (aile (fun _ => ailt (fun _ => ?_) (fun h' => absurd h h')) (fun h' => afail (by simp only [ofN] at h'; omega)))
      rw [natI_ofN, wrap_succ (by omega)]
      have hro : rangeOp (etaOp (f19 i)) := hg _ (List.mem_map.2 ⟨i, List.mem_range.2 hlt, rfl⟩)
      refine allIds _ n12 f13 s _ _ h2 hs hs' hr hro.1 hro.2 (fun n' f hf => ?_)
      have hlane : ∀ j, j < n12 → 0 ≤ laneAt (intV (partV (f19 i) 3)) s j ∧ laneAt (intV (partV (f19 i) 3)) s j < ofN n0 := fun j hj => by rw [h0]; exact laneAt_range hs hs' hj
      refine allAhead _ n0 f1 n12 f h2 (fun j => lessV (intV (partV (f19 i) 2) / intV (f13 j)) (intV (partV (f19 i) 3)) (intV (partV (f1 (natI (laneAt (intV (partV (f19 i) 3)) s j))) 0)) (intV (partV (f1 (natI (laneAt (intV (partV (f19 i) 3)) s j))) 1)))
        (fun j hj => by rw [hf j hj]; exact ⟨(hlane j hj).1, (hlane j hj).2, rfl⟩) (fun b i' c hb => ?_) NNo 0 true (Nat.zero_le _) (by rw [NNo_eq]; unfold NN; omega) ⟨fun _ j hj => absurd hj (by omega), fun _ => rfl⟩
      have hcov := covered_iff (o := etaOp (f19 i)) (pf := f1) h1 h2 hs hs' h0 hr hro.1.1 hro.1.2
      have hb' : b = true ↔ coveredV n12 f13 s n0 f1 (etaOp (f19 i)) = true := by rw [hb, hcov]; exact Iff.rfl
      refine ainot (all_iteR (fun hbt => ?_) (fun hbf => ?_))
      · refine ih (i + 1) n _ _ (by omega) (by omega) (by omega) ?_
        rw [lst_succ, List.filter_append, List.filter_cons_of_neg (by rw [hb'.1 hbt]; simp), List.filter_nil, List.append_nil]
        exact hl
      · have hcf : coveredV n12 f13 s n0 f1 (etaOp (f19 i)) = false := by
          cases hc : coveredV n12 f13 s n0 f1 (etaOp (f19 i)) with
          | false => rfl
          | true => rw [hb'.2 hc] at hbf; cases hbf
        refine ailen (fun _ => ?_) (fun h' => afail (by simp only [addN] at h'; omega))
        refine ih (i + 1) (n + 1) _ _ (by omega) (by omega) (by omega) ?_
        rw [lst_join, lst_succ, List.filter_append, List.filter_cons_of_pos (by rw [hcf]; rfl), List.filter_nil, hl]
        rfl
    · have : i = n9 := by simp only [ofN] at h; omega
      subst this
      exact hX _ _ _ _ _ hl
theorem maxLeast {c : V} (h0 : inI (intV (partV c 0))) (h1 : inI (intV (partV c 1))) : maxP leastV c = etaPl c := by
  unfold maxP
  split
  · rfl
  · rename_i h
    have h : ¬ (-9223372036854775808 < intV (partV c 0) ∨ -9223372036854775808 = intV (partV c 0) ∧ -9223372036854775808 < intV (partV c 1)) := fun hh => h (decide_eq_true hh)
    have e0 : intV (partV c 0) = -9223372036854775808 := by have := h0.1; omega
    have e1 : intV (partV c 1) = -9223372036854775808 := by have := h1.1; omega
    unfold etaPl
    rw [e0, e1]
    rfl
theorem covered_congr {n m : Nat} {f p q : Nat → V} {s : Int} {o : V} (hn : 1 ≤ n) (hn' : n ≤ 3) (hs : 1 ≤ s) (hs' : s ≤ 4) (hm : m = n * s.toNat) (hr : ∀ i, i < n → 1 ≤ intV (f i)) (ho : rangeOp o)
    (h : ∀ j, j < m → etaPl (p j) = etaPl (q j)) : coveredV n f s m p o = coveredV n f s m q o := by
  have e : aheadP n f s p o ↔ aheadP n f s q o := by
    have hp : ∀ i, i < n → intV (partV (p (natI (laneAt (intV (partV o 3)) s i))) 0) = intV (partV (q (natI (laneAt (intV (partV o 3)) s i))) 0) ∧ intV (partV (p (natI (laneAt (intV (partV o 3)) s i))) 1) = intV (partV (q (natI (laneAt (intV (partV o 3)) s i))) 1) := by
      intro i hi
      have hl := laneAt_range (key := intV (partV o 3)) hs hs' hi
      have := h (natI (laneAt (intV (partV o 3)) s i)) (by simp only [natI, ofN] at *; omega)
      exact ⟨show intV (partV (etaPl (p _)) 0) = intV (partV (etaPl (q _)) 0) by rw [this], show intV (partV (etaPl (p _)) 1) = intV (partV (etaPl (q _)) 1) by rw [this]⟩
    unfold aheadP
    constructor
    · intro hh i hi; rw [← (hp i hi).1, ← (hp i hi).2]; exact hh i hi
    · intro hh i hi; rw [(hp i hi).1, (hp i hi).2]; exact hh i hi
  have a := covered_iff (o := o) (pf := p) hn hn' hs hs' hm hr ho.1.1 ho.1.2
  have b := covered_iff (o := o) (pf := q) hn hn' hs hs' hm hr ho.1.1 ho.1.2
  cases hc : coveredV n f s m q o with
  | true => exact a.2 (e.2 (b.1 hc))
  | false =>
    cases hd : coveredV n f s m p o with
    | false => rfl
    | true => rw [b.2 (e.1 (a.1 hd))] at hc; cases hc
theorem dropsP (X0 X1 : R β) (X2 : Bool → R β) (n0 : Nat) (f1 : Nat → V) (i2 i3 : Int) (n4 : Nat) (f5 : Nat → V) (n6 : Nat) (f7 : Nat → V) (hn4 : n4 ≤ 9223372036854775807)
    (hr : ∀ i, i < n4 → inI (intV (partV (f5 i) 1)) ∧ inI (intV (partV (f5 i) 2))) (hp : ∀ i, i < n6 → inI (intV (partV (f7 i) 0)) ∧ inI (intV (partV (f7 i) 1))) (h0 : All PP X0) (h2 : All PP (X2 true)) :
    All PP (Df8_0 X0 X1 X2 n0 f1 i2 i3 n4 f5 n6 f7) := by
  unfold Df8_0
  refine allLong _ n0 n4 f5 hn4 (fun b => all_iteR (fun _ => h0) (fun _ => ailt (fun _ => h0) (fun h100 => ?_)))
  refine allNew _ _ n0 f1 i2 i3 (fun _ => h0) (fun hgood f5' n6' f12 hf12 => ?_)
  obtain ⟨g1, g2, g3, g4, g5, g6, g7⟩ := hgood
  refine allPuts _ n4 f5 i3 0 hn4 g7 hr (fun a b c n d g hn hg => ?_) NNo 0 0 1 0 _ (Nat.zero_le _) (by rw [NNo_eq]; unfold NN; omega) (Nat.zero_le _) (fun v hv => by simp [lst] at hv)
  refine ailen (fun _ => ?_) (fun h' => afail (by omega))
  have hm : n0 * i2.toNat ≤ 12 := Nat.mul_le_mul g2 (show i2.toNat ≤ 4 by omega)
  have hmul : wrapI .i64 (mulI (ofN n0) i2) = ofN (n0 * i2.toNat) := by
    have e : mulI (ofN n0) i2 = ofN (n0 * i2.toNat) := by
      simp only [mulI, ofN]
      push_cast
      rw [Int.toNat_of_nonneg (by omega)]
    rw [e]
    exact wrap_in (by simp only [ofN]; omega) (by simp only [ofN]; omega)
  rw [hmul]
  refine allCut _ _ n6 f7 n0 i2 n (n0 * i2.toNat) f1 g f12 g2 g4 g5 (by omega) rfl (fun hne => ?_) (fun he n' f fp hle hfp hl => ?_)
  · refine ailen (fun _ => ainot (aieq (fun h' => absurd ?_ hne) (fun _ => ?_))) (fun h' => afail (by omega))
    · simp only [ofN] at h'; omega
    · exact allOps _ _ _ _ _ _ (by omega) rfl h0
  · refine ailen (fun _ => ainot (aieq (fun _ => ?_) (fun h' => absurd (by rw [he]) h'))) (fun h' => afail (by omega))
    have hpe : ∀ j, j < n0 * i2.toNat → etaPl (fp j) = etaPl (f7 j) := fun j hj => by
      rw [hfp j hj, hf12 j hj]
      exact maxLeast (hp j (by omega)).1 (hp j (by omega)).2
    refine allWant _ n6 f7 n n0 f1 i2 g hn g1 g2 g4 g5 he g3 hg (fun n'' i' b' m' g' hl' => ?_) NNo 0 0 0 _ (Nat.zero_le _) (by rw [NNo_eq]; unfold NN; omega) (Nat.le_refl _) rfl
    have hll : lst f n' = lst g' n'' := by
      rw [hl, hl']
      refine List.filter_congr fun v hv => ?_
      have := covered_congr (o := v) g1 g2 g4 g5 rfl g3 (hg v hv) hpe
      rw [this, he]
    refine allOps _ _ _ _ _ _ (by omega) hll ?_
    have e : n' = n'' := by have := congrArg List.length hll; rwa [lst_len, lst_len] at this
    rw [← e, wrap_sub (by simp only [ofN]; omega) (by simp only [ofN]; omega)]
    have : eqI (ofN (n - n')) (ofN n - ofN n') = true := by rw [eqI_iff]; simp only [ofN]; omega
    rw [this]
    exact h2
end
end Go.Proofs.Ytbplfgghcclgkaa
