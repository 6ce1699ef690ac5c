/- What stream.New, Cut and DeleteFunc do, as lists. No conditions. -/
import Derived.Test.YtbplfgghcclgkaaD14sp
import Derived.Test.YtbplfgghcclgkaaPb
open Go Go.VM
namespace Go.Proofs.Ytbplfgghcclgkaa
section
variable {β : Type} {PP : β → Prop}
def etaOp (v : V) : V := .nd 38 [.int .i64 (intV (partV v 0)), .int .i64 (intV (partV v 1)), .int .i64 (intV (partV v 2)), .int .i64 (intV (partV v 3)), .int .i64 (intV (partV v 4))]
def lst (f : Nat → V) (n : Nat) : List V := (List.range n).map fun i => etaOp (f i)
theorem lst_succ (f : Nat → V) (n : Nat) : lst f (n + 1) = lst f n ++ [etaOp (f n)] := by simp [lst, List.range_succ]
theorem lst_len (f : Nat → V) (n : Nat) : (lst f n).length = n := by simp [lst]
theorem lst_congr {f g : Nat → V} {n : Nat} (h : ∀ i, i < n → etaOp (f i) = etaOp (g i)) : lst f n = lst g n := List.map_congr_left fun i hi => h i (List.mem_range.1 hi)
theorem setF_at (f : Nat → V) (i : Nat) (x : V) : setF f i x i = x := by simp [setF, eqN]
theorem setF_ne (f : Nat → V) {i j : Nat} (x : V) (h : j ≠ i) : setF f i x j = f j := by simp [setF, eqN, h]
theorem joinF_lt (f g : Nat → V) {n i : Nat} (h : i < n) : joinF f g n i = f i := by simp [joinF, ltN, h]
theorem joinF_ge (f g : Nat → V) {n i : Nat} (h : n ≤ i) : joinF f g n i = g (i - n) := by
  have : ¬ i < n := by omega
  simp [joinF, ltN, subN, this]
theorem clearF_lt (z : V) (f : Nat → V) {lo n i : Nat} (h : i < lo) : clearF z f lo n i = f i := by
  have : ¬ lo ≤ i := by omega
  simp [clearF, andB, leN, ltN, this]
theorem lst_set (f : Nat → V) (i : Nat) (v : V) : lst (setF f i v) (i + 1) = lst f i ++ [etaOp v] := by
  rw [lst_succ, setF_at]
  congr 1
  exact lst_congr fun j hj => by rw [setF_ne f v (by omega)]
theorem lst_join (f g : Nat → V) (n : Nat) : lst (joinF f g n) (n + 1) = lst f n ++ [etaOp (g 0)] := by
  rw [lst_succ, joinF_ge f g (Nat.le_refl n), Nat.sub_self]
  congr 1
  exact lst_congr fun j hj => by rw [joinF_lt f g hj]
theorem allIndex (X0 : Int → R β) (X1 : R β) (n0 n3 n13 : Nat) (i4 : Int) (f15 f17 f19 : Nat → V) (hn : n0 ≤ 1073741824) (hr : n3 ≤ 1073741824)
    (h0 : ∀ (i : Nat), i < n0 → coveredV n3 f15 i4 n13 f19 (etaOp (f17 i)) = true → (∀ j, j < i → coveredV n3 f15 i4 n13 f19 (etaOp (f17 j)) = false) → All PP (X0 (ofN i)))
    (h1 : (∀ j, j < n0 → coveredV n3 f15 i4 n13 f19 (etaOp (f17 j)) = false) → All PP X1) :
    ∀ (k i : Nat), i ≤ n0 → n0 - i < k → (∀ j, j < i → coveredV n3 f15 i4 n13 f19 (etaOp (f17 j)) = false) → All PP (Lf111_0_0 X0 X1 n0 (ofN n0) n3 i4 n13 f15 f17 f19 k (ofN i))
  | 0, i, hi, hk, _ => by omega
  | k + 1, i, hi, hk, hj => by
    have ih := allIndex X0 X1 n0 n3 n13 i4 f15 f17 f19 hn hr h0 h1 k
    show All PP (Rd111_0_0 (Lf111_0_0 X0 X1 n0 (ofN n0) n3 i4 n13 f15 f17 f19 k) X0 X1 n0 (ofN n0) n3 i4 n13 f15 f17 f19 (ofN i))
    unfold Rd111_0_0
    refine ailt (fun h => ?_) (fun h => ?_)
    · have hlt : i < n0 := by simp only [ofN] at h; omega
      refine aiand (aile (fun _ => ailt (fun _ => ailen (fun _ => ?_) (fun h' => absurd hr h')) (fun h' => absurd h h')) (fun h' => afail (by simp only [ofN] at h'; omega)))
      refine all_iteR (fun hc => ?_) (fun hc => ?_)
      · exact h0 i hlt hc hj
      · rw [wrap_succ (by omega)]
        refine ih (i + 1) (by omega) (by omega) (fun j hj' => ?_)
        by_cases e : j = i
        · rw [e]; exact hc
        · exact hj j (by omega)
    · have : i = n0 := by simp only [ofN] at h; omega
      exact h1 (by rw [← this]; exact hj)
theorem allDelL (X0 : Int → (Nat → V) → R β) (n0 n5 n15 : Nat) (i6 : Int) (f17 f19 f0 : Nat → V) (hn : n0 ≤ 1073741824) (hr : n5 ≤ 1073741824)
    (hX : ∀ (i : Nat) f, i ≤ n0 → lst f i = (lst f0 n0).filter (fun v => !coveredV n5 f17 i6 n15 f19 v) → All PP (X0 (ofN i) f)) :
    ∀ (k i j : Nat) (f : Nat → V), i ≤ j → j ≤ n0 → n0 - j < k → (∀ m, j ≤ m → etaOp (f m) = etaOp (f0 m)) → lst f i = (lst f0 j).filter (fun v => !coveredV n5 f17 i6 n15 f19 v) →
      All PP (Lf74_0_0 X0 n0 n5 i6 n15 f17 f19 k (ofN i) (ofN j) f)
  | 0, i, j, f, _, _, hk, _, _ => by omega
  | k + 1, i, j, f, hij, hj, hk, hf, hl => by
    have ih := allDelL X0 n0 n5 n15 i6 f17 f19 f0 hn hr hX k
    show All PP (Rd74_0_0 (Lf74_0_0 X0 n0 n5 i6 n15 f17 f19 k) X0 n0 n5 i6 n15 f17 f19 (ofN i) (ofN j) f)
    unfold Rd74_0_0
    refine ailt (fun h => ?_) (fun h => ?_)
    · have hlt : j < n0 := by simp only [ofN] at h; omega
      have hs : lst f0 (j + 1) = lst f0 j ++ [etaOp (f j)] := by rw [lst_succ, hf j (Nat.le_refl j)]
      refine aiand (aile (fun _ => ailt (fun _ => ailen (fun _ => ?_) (fun h' => absurd hr h')) (fun h' => absurd h h')) (fun h' => afail (by simp only [ofN] at h'; omega)))
      refine ainot (all_iteR (fun hc => ?_) (fun hc => ?_))
      · rw [wrap_succ (by omega)]
        have hc : coveredV n5 f17 i6 n15 f19 (etaOp (f j)) = true := hc
        refine ih i (j + 1) f (by omega) (by omega) (by omega) (fun m hm => hf m (by omega)) ?_
        rw [hs, List.filter_append, List.filter_cons_of_neg (by rw [hc]; simp), List.filter_nil, List.append_nil]
        exact hl
      · have hc : coveredV n5 f17 i6 n15 f19 (etaOp (f j)) = false := hc
        refine aiand (aile (fun _ => ailt (fun _ => ?_) (fun h' => afail (by simp only [ofN] at h'; omega))) (fun h' => afail (by simp only [ofN] at h'; omega)))
        rw [wrap_succ (by omega), wrap_succ (i := j) (by omega), natI_ofN, natI_ofN]
        refine ih (i + 1) (j + 1) _ (by omega) (by omega) (by omega) (fun m hm => ?_) ?_
        · rw [setF_ne _ _ (by omega)]; exact hf m (by omega)
        · rw [lst_set, hs, List.filter_append, List.filter_cons_of_pos (by show (!coveredV n5 f17 i6 n15 f19 (etaOp (f j))) = true; rw [hc]; rfl), List.filter_nil, hl]
          rfl
    · have : j = n0 := by simp only [ofN] at h; omega
      subst this
      exact hX i f hij hl
theorem allDel (X0 : Nat → (Nat → V) → R β) (n0 n3 n13 : Nat) (i4 : Int) (f2 f15 f17 : Nat → V) (hn : n0 ≤ 1073741824) (hr : n3 ≤ 1073741824)
    (hX : ∀ (n : Nat) f, n ≤ n0 → lst f n = (lst f2 n0).filter (fun v => !coveredV n3 f15 i4 n13 f17 v) → All PP (X0 n f)) : All PP (Df74_0 X0 n0 f2 n3 i4 n13 f15 f17) := by
  unfold Df74_0 Df111_0
  have hall : ∀ m, m ≤ n0 → (∀ j, j < m → coveredV n3 f15 i4 n13 f17 (etaOp (f2 j)) = false) → (lst f2 m).filter (fun v => !coveredV n3 f15 i4 n13 f17 v) = lst f2 m := by
    intro m hm h
    rw [List.filter_eq_self]
    intro v hv
    obtain ⟨j, hj, rfl⟩ := List.mem_map.1 hv
    rw [h j (List.mem_range.1 hj)]; rfl
  refine allIndex _ _ n0 n3 n13 i4 f15 f2 f17 hn hr (fun i hi hc hj => ?_) (fun hj => ?_) NNo 0 (Nat.zero_le _) (by rw [NNo_eq]; unfold NN; omega) (fun j hj => absurd hj (by omega))
  · refine aieq (fun h => absurd h (by simp only [ofN]; omega)) (fun _ => ?_)
    rw [wrap_succ (by omega)]
    refine allDelL _ n0 n3 n13 i4 f15 f17 f2 hn hr (fun i' f' hi' hl' => ?_) NNo i (i + 1) f2 (by omega) (by omega) (by rw [NNo_eq]; unfold NN; omega) (fun _ _ => rfl) ?_
    · refine aiand (aile (fun _ => aile (fun _ => aiand (aile (fun _ => aile (fun _ => ?_) (fun h' => afail (by simp only [ofN] at h'; omega))) (fun h' => afail (by simp only [ofN] at h'; omega)))) (fun h' => afail (by simp only [ofN] at h'; omega))) (fun h' => afail (by simp only [ofN] at h'; omega)))
      rw [natI_ofN]
      refine hX i' _ hi' ?_
      rw [← hl']
      exact lst_congr fun j hj => by rw [clearF_lt _ _ (by omega)]
    · rw [lst_succ, List.filter_append, hall i (by omega) hj, List.filter_cons_of_neg (by rw [hc]; simp)]
      simp
  · refine aieq (fun _ => ?_) (fun h => absurd rfl h)
    exact hX n0 f2 (Nat.le_refl _) (hall n0 (Nat.le_refl _) hj).symm
theorem allMinL (X0 : Int → R β) (n0 : Nat) (f1 : Nat → V) (hn : n0 ≤ 3) (hX : ∀ (v : Int), (∃ j, j < n0 ∧ v = intV (f1 j)) → (∀ j, j < n0 → v ≤ intV (f1 j)) → All PP (X0 v)) :
    ∀ (k i : Nat) (v : Int), i ≤ n0 → n0 - i < k → (∃ j, j < n0 ∧ v = intV (f1 j)) → (∀ j, j < i → v ≤ intV (f1 j)) → All PP (Lf68_0_0 X0 n0 f1 k v (ofN i))
  | 0, i, v, _, hk, _, _ => by omega
  | k + 1, i, v, hi, hk, he, hj => by
    show All PP (Rd68_0_0 (Lf68_0_0 X0 n0 f1 k) X0 n0 f1 v (ofN i))
    unfold Rd68_0_0
    refine ailt (fun h => ?_) (fun h => ?_)
    · have hlt : i < n0 := by simp only [ofN] at h; omega
      refine aiand (aile (fun _ => ailt (fun _ => ?_) (fun h' => absurd h h')) (fun h' => afail (by simp only [ofN] at h'; omega)))
      rw [wrap_succ (by omega), natI_ofN]
      refine allMinL X0 n0 f1 hn hX k (i + 1) _ (by omega) (by omega) ?_ (fun j hj' => ?_)
      · unfold minI
        split
        · exact ⟨i, hlt, rfl⟩
        · exact he
      · have h1 : minI v (intV (f1 i)) ≤ v ∧ minI v (intV (f1 i)) ≤ intV (f1 i) := by unfold minI; split <;> omega
        by_cases e : j = i
        · rw [e]; exact h1.2
        · have := hj j (by omega); omega
    · have : i = n0 := by simp only [ofN] at h; omega
      subst this
      exact hX _ he hj
def leastV : V := .nd 53 [.int .i64 (-9223372036854775808), .int .i64 (-9223372036854775808)]
theorem allNewL (X0 : Nat → Nat → (Nat → V) → R β) (m : Nat) (hm : m ≤ 12) (hX : ∀ n f, (∀ j, j < m → f j = leastV) → All PP (X0 m n f)) :
    ∀ (k i n : Nat) (f : Nat → V), i ≤ m → m - i < k → (∀ j, j < i → f j = leastV) → All PP (Lf29_0_0 X0 (ofN m) k (ofN i) i n f)
  | 0, i, n, f, _, hk, _ => by omega
  | k + 1, i, n, f, hi, hk, hf => by
    show All PP (Rd29_0_0 (Lf29_0_0 X0 (ofN m) k) X0 (ofN m) (ofN i) i n f)
    unfold Rd29_0_0
    refine ailt (fun h => ?_) (fun h => ?_)
    · have hlt : i < m := by simp only [ofN] at h; omega
      refine ailen (fun _ => ?_) (fun h' => afail (by simp only [addN] at h'; omega))
      rw [wrap_succ (by omega)]
      refine allNewL X0 m hm hX k (i + 1) _ _ (by omega) (by omega) (fun j hj => ?_)
      by_cases e : j = i
      · rw [e, joinF_ge _ _ (Nat.le_refl i), Nat.sub_self]; rfl
      · rw [joinF_lt _ _ (by omega)]; exact hf j (by omega)
    · have : i = m := by simp only [ofN] at h; omega
      subst this
      exact hX _ _ hf
def goodNew (n0 : Nat) (f1 : Nat → V) (i2 i3 : Int) : Prop := 1 ≤ n0 ∧ n0 ≤ 3 ∧ (∀ j, j < n0 → 1 ≤ intV (f1 j)) ∧ 1 ≤ i2 ∧ i2 ≤ 4 ∧ 1 ≤ i3 ∧ i3 ≤ 64
theorem allNew (X0 : R β) (X1 : Nat → (Nat → V) → Nat → (Nat → V) → R β) (n0 : Nat) (f1 : Nat → V) (i2 i3 : Int) (h0 : ¬ goodNew n0 f1 i2 i3 → All PP X0)
    (h1 : goodNew n0 f1 i2 i3 → ∀ f5 n6 f7, (∀ j, j < n0 * i2.toNat → f7 j = leastV) → All PP (X1 (n0 * i2.toNat) f5 n6 f7)) : All PP (Df29_0 X0 X1 n0 f1 i2 i3) := by
  unfold Df29_0
  refine ailt (fun h => h0 fun g => by have := g.1; simp only [ofN] at h; omega) (fun ha => ailt (fun h => h0 fun g => by have := g.2.1; simp only [ofN] at h; omega) (fun hb => ?_))
  have ha : 1 ≤ n0 := by simp only [ofN] at ha; omega
  have hb : n0 ≤ 3 := by simp only [ofN] at hb; omega
  unfold Df68_0
  refine ailt (fun h => afail (by simp only [ofN] at h; omega)) (fun _ => aiand (aile (fun _ => ailt (fun _ => ?_) (fun h => afail (by simp only [ofN] at h; omega))) (fun h => afail (by omega))))
  have hz : ∀ j, j < 1 → intV (f1 (natI 0)) ≤ intV (f1 j) := fun j hj => by
    have : j = 0 := by omega
    rw [this]; exact Int.le_refl _
  refine allMinL _ n0 f1 hb (fun v he hv => ?_) NNo 1 _ ha (by rw [NNo_eq]; unfold NN; omega) ⟨0, by omega, rfl⟩ hz
  refine ailt (fun h => h0 fun g => ?_) (fun hc => ?_)
  · obtain ⟨j, hj, rfl⟩ := he
    have := g.2.2.1 j hj
    omega
  refine ailt (fun h => h0 fun g => by have := g.2.2.2.1; omega) (fun hd => ailt (fun h => h0 fun g => by have := g.2.2.2.2.1; omega) (fun he' => ailt (fun h => h0 fun g => by have := g.2.2.2.2.2.1; omega) (fun hf => ailt (fun h => h0 fun g => by have := g.2.2.2.2.2.2; omega) (fun hg => ?_))))
  refine ailen (fun _ => ?_) (fun h => afail (by omega))
  have hm : n0 * i2.toNat ≤ 12 := Nat.mul_le_mul hb (show i2.toNat ≤ 4 by omega)
  have hmul : wrapI .i64 (mulI (ofN n0) i2) = ofN (n0 * i2.toNat) := by
    have e : mulI (ofN n0) i2 = ofN (n0 * i2.toNat) := by
      simp only [mulI, ofN]
      push_cast
      rw [Int.toNat_of_nonneg (by omega)]
    rw [e]
    exact wrap_in (by simp only [ofN]; omega) (by simp only [ofN]; omega)
  rw [hmul]
  refine allNewL _ _ hm (fun n f hf' => ?_) NNo 0 0 _ (Nat.zero_le _) (by rw [NNo_eq]; unfold NN; omega) (fun j hj => absurd hj (by omega))
  exact h1 ⟨ha, hb, fun j hj => by have := hv j hj; omega, by omega, by omega, by omega, by omega⟩ _ _ _ hf'
def etaPl (v : V) : V := .nd 53 [.int .i64 (intV (partV v 0)), .int .i64 (intV (partV v 1))]
def lessP (a b : V) : Bool := lessV (intV (partV a 0)) (intV (partV a 1)) (intV (partV b 0)) (intV (partV b 1))
def maxP (a b : V) : V := if lessP a b then etaPl b else etaPl a
theorem allCutL (X0 : (Nat → V) → R β) (n0 n14 : Nat) (f1 f0 : Nat → V) (hn : n0 ≤ 1073741824) (hm : n0 ≤ n14) (hX : ∀ f, (∀ j, j < n0 → etaPl (f j) = maxP (f0 j) (f1 j)) → (∀ j, n0 ≤ j → f j = f0 j) → All PP (X0 f)) :
    ∀ (k i : Nat) (f : Nat → V), i ≤ n0 → n0 - i < k → (∀ j, j < i → etaPl (f j) = maxP (f0 j) (f1 j)) → (∀ j, i ≤ j → f j = f0 j) → All PP (Lf33_0_0 X0 n0 f1 (ofN n0) n14 k (ofN i) f)
  | 0, i, f, _, hk, _, _ => by omega
  | k + 1, i, f, hi, hk, hf, hg => by
    show All PP (Rd33_0_0 (Lf33_0_0 X0 n0 f1 (ofN n0) n14 k) X0 n0 f1 (ofN n0) n14 (ofN i) f)
    unfold Rd33_0_0
    refine ailt (fun h => ?_) (fun h => ?_)
    · have hlt : i < n0 := by simp only [ofN] at h; omega
      refine aiand (aile (fun _ => ailt (fun _ => ?_) (fun h' => absurd h h')) (fun h' => afail (by simp only [ofN] at h'; omega)))
      refine aiand (aile (fun _ => ailt (fun _ => ?_) (fun h' => afail (by simp only [ofN] at h'; omega))) (fun h' => afail (by simp only [ofN] at h'; omega)))
      rw [wrap_succ (by omega), natI_ofN]
      refine all_iteR (fun hc => ?_) (fun hc => ?_)
      · refine aiand (aile (fun _ => ailt (fun _ => ?_) (fun h' => afail (by simp only [ofN] at h'; omega))) (fun h' => afail (by simp only [ofN] at h'; omega)))
        refine allCutL X0 n0 n14 f1 f0 hn hm hX k (i + 1) _ (by omega) (by omega) (fun j hj => ?_) (fun j hj => ?_)
        · by_cases e : j = i
          · rw [e, setF_at]
            rw [hg i (Nat.le_refl i)] at hc
            have hc : lessP (f0 i) (f1 i) = true := hc
            unfold maxP
            rw [if_pos hc]
            rfl
          · rw [setF_ne _ _ e]; exact hf j (by omega)
        · rw [setF_ne _ _ (by omega)]; exact hg j (by omega)
      · refine allCutL X0 n0 n14 f1 f0 hn hm hX k (i + 1) f (by omega) (by omega) (fun j hj => ?_) (fun j hj => hg j (by omega))
        by_cases e : j = i
        · rw [e, hg i (Nat.le_refl i)]
          rw [hg i (Nat.le_refl i)] at hc
          have hc : lessP (f0 i) (f1 i) = false := hc
          unfold maxP
          rw [if_neg (by rw [hc]; simp)]
        · exact hf j (by omega)
    · have : i = n0 := by simp only [ofN] at h; omega
      subst this
      exact hX _ hf hg
theorem allCut (X0 : R β) (X1 : Int → Nat → (Nat → V) → (Nat → V) → R β) (n0 : Nat) (f1 : Nat → V) (n2 : Nat) (i3 : Int) (n11 n12 : Nat) (f14 f16 f18 : Nat → V)
    (h2 : n2 ≤ 3) (h3 : 1 ≤ i3) (h3' : i3 ≤ 4) (hn : n11 ≤ 1073741824) (h12 : n12 = n2 * i3.toNat) (h0 : n0 ≠ n12 → All PP X0)
    (h1 : n0 = n12 → ∀ (n : Nat) f fp, n ≤ n11 → (∀ j, j < n12 → etaPl (fp j) = maxP (f18 j) (f1 j)) → lst f n = (lst f16 n11).filter (fun v => !coveredV n2 f14 i3 n12 fp v) → All PP (X1 (ofN (n11 - n)) n f fp)) :
    All PP (Df33_0 X0 X1 n0 f1 n2 i3 n11 n12 f14 f16 f18) := by
  unfold Df33_0
  have hm : n2 * i3.toNat ≤ 12 := Nat.mul_le_mul h2 (show i3.toNat ≤ 4 by omega)
  have hmul : wrapI .i64 (mulI (ofN n2) i3) = ofN n12 := by
    have e : mulI (ofN n2) i3 = ofN (n2 * i3.toNat) := by
      simp only [mulI, ofN]
      push_cast
      rw [Int.toNat_of_nonneg (by omega)]
    rw [e, h12]
    exact wrap_in (by simp only [ofN]; omega) (by simp only [ofN]; omega)
  rw [hmul]
  refine ainot (aieq (fun h => ?_) (fun h => h0 fun e => h (by rw [e])))
  have h : n0 = n12 := by simp only [ofN] at h; omega
  refine allCutL _ n0 n12 f1 f18 (by omega) (by omega) (fun fp hf _ => ?_) NNo 0 f18 (Nat.zero_le _) (by rw [NNo_eq]; unfold NN; omega) (fun j hj => absurd hj (by omega)) (fun j _ => rfl)
  refine allDel _ n11 n2 n12 i3 f16 f14 fp hn (by omega) (fun n f hle hl => ?_)
  have e : wrapI .i64 (subI (ofN n11) (ofN n)) = ofN (n11 - n) := by
    rw [wrap_sub (by simp only [ofN]; omega) (by simp only [ofN]; omega)]
    simp only [ofN]; omega
  rw [e]
  exact h1 h n f fp hle (by rw [← h]; exact hf) hl
end
end Go.Proofs.Ytbplfgghcclgkaa
