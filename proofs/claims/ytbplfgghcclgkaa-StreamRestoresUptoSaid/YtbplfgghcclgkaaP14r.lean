/- What Replay does, as lists. No conditions. -/
import Derived.Test.YtbplfgghcclgkaaP14m
open Go Go.VM
namespace Go.Proofs.Ytbplfgghcclgkaa
section
variable {β : Type} {PP : β → Prop}
theorem allIndex1 (X0 : Int → R β) (X1 : R β) (n0 : Nat) (f : Nat → V) (fr : Int) (hn : n0 ≤ 1073741824)
    (h0 : ∀ i : Nat, i < n0 → sq (f i) < fr → (∀ j, j < i → ¬ sq (f j) < fr) → All PP (X0 (ofN i))) (h1 : (∀ j, j < n0 → ¬ sq (f j) < fr) → All PP X1) :
    ∀ (k i : Nat), i ≤ n0 → n0 - i < k → (∀ j, j < i → ¬ sq (f j) < fr) → All PP (Lf111_0_1 X0 X1 n0 f (ofN n0) fr k (ofN i))
  | 0, i, hi, hk, _ => by omega
  | k + 1, i, hi, hk, hj => by
    have ih := allIndex1 X0 X1 n0 f fr hn h0 h1 k
    show All PP (Rd111_0_1 (Lf111_0_1 X0 X1 n0 f (ofN n0) fr k) X0 X1 n0 f (ofN n0) fr (ofN i))
    unfold Rd111_0_1
    refine ailt (fun h => ?_) (fun h => ?_)
    · have hlt : i < n0 := by simp only [ofN] at h; omega
      refine aiand (aile (fun _ => ailt (fun _ => ?_) (fun h' => absurd h h')) (fun h' => afail (by simp only [ofN] at h'; omega)))
      rw [natI_ofN]
      refine ailt (fun hc => h0 i hlt hc hj) (fun hc => ?_)
      rw [wrap_succ (by omega)]
      refine ih (i + 1) (by omega) (by omega) (fun j hj' => ?_)
      by_cases e : j = i
      · rw [e]; exact hc
      · exact hj j (by omega)
    · have : i = n0 := by simp only [ofN] at h; omega
      exact h1 (by rw [← this]; exact hj)
def keep (fr : Int) (v : V) : Bool := decide (fr ≤ sq v)
theorem allDelL1 (X0 : Int → (Nat → V) → R β) (n0 : Nat) (fr : Int) (f0 : Nat → V) (hn : n0 ≤ 1073741824)
    (hX : ∀ (i : Nat) f, i ≤ n0 → lst f i = (lst f0 n0).filter (keep fr) → All PP (X0 (ofN i) f)) :
    ∀ (k i j : Nat) (f : Nat → V), i ≤ j → j ≤ n0 → n0 - j < k → (∀ m, j ≤ m → etaOp (f m) = etaOp (f0 m)) → lst f i = (lst f0 j).filter (keep fr) →
      All PP (Lf74_0_1 X0 n0 fr k (ofN i) (ofN j) f)
  | 0, i, j, f, _, _, hk, _, _ => by omega
  | k + 1, i, j, f, hij, hj, hk, hf, hl => by
    have ih := allDelL1 X0 n0 fr f0 hn hX k
    show All PP (Rd74_0_1 (Lf74_0_1 X0 n0 fr k) X0 n0 fr (ofN i) (ofN j) f)
    unfold Rd74_0_1
    refine ailt (fun h => ?_) (fun h => ?_)
    · have hlt : j < n0 := by simp only [ofN] at h; omega
      have hs : lst f0 (j + 1) = lst f0 j ++ [etaOp (f j)] := by rw [lst_succ, hf j (Nat.le_refl j)]
      refine aiand (aile (fun _ => ailt (fun _ => ?_) (fun h' => absurd h h')) (fun h' => afail (by simp only [ofN] at h'; omega)))
      rw [natI_ofN, natI_ofN]
      refine ainot (ailt (fun hc => ?_) (fun hc => ?_))
      · have hc : sq (f j) < fr := hc
        rw [wrap_succ (i := j) (by omega)]
        refine ih i (j + 1) f (by omega) (by omega) (by omega) (fun m hm => hf m (by omega)) ?_
        rw [hs, List.filter_append, List.filter_cons_of_neg (by unfold keep; rw [sq_eta]; simp; omega), List.filter_nil, List.append_nil]
        exact hl
      · have hc : ¬ sq (f j) < fr := hc
        refine aiand (aile (fun _ => ailt (fun _ => ?_) (fun h' => afail (by simp only [ofN] at h'; omega))) (fun h' => afail (by simp only [ofN] at h'; omega)))
        rw [wrap_succ (by omega), wrap_succ (i := j) (by omega)]
        refine ih (i + 1) (j + 1) _ (by omega) (by omega) (by omega) (fun m hm => ?_) ?_
        · rw [setF_ne _ _ (by omega)]; exact hf m (by omega)
        · rw [lst_set, hs, List.filter_append, List.filter_cons_of_pos (by unfold keep; rw [sq_eta]; simp; omega), List.filter_nil, hl]
          rfl
    · have : j = n0 := by simp only [ofN] at h; omega
      subst this
      exact hX i f hij hl
theorem allDel1 (X0 : Nat → (Nat → V) → R β) (n0 : Nat) (fr : Int) (f : Nat → V) (hn : n0 ≤ 1073741824)
    (hX : ∀ (n : Nat) g, n ≤ n0 → lst g n = (lst f n0).filter (keep fr) → All PP (X0 n g)) : All PP (Df74_1 X0 n0 fr f) := by
  unfold Df74_1 Df111_1
  have hall : ∀ m, m ≤ n0 → (∀ j, j < m → ¬ sq (f j) < fr) → (lst f m).filter (keep fr) = lst f m := by
    intro m hm h
    rw [List.filter_eq_self]
    intro v hv
    obtain ⟨j, hj, rfl⟩ := lst_mem.1 hv
    have := h j hj
    unfold keep
    rw [sq_eta]
    simp; omega
  refine allIndex1 _ _ n0 f fr hn (fun i hi hc hj => ?_) (fun hj => ?_) NNo 0 (Nat.zero_le _) (by rw [NNo_eq]; unfold NN; omega) (fun j hj => absurd hj (by omega))
  · refine aieq (fun h => absurd h (by simp only [ofN]; omega)) (fun _ => ?_)
    rw [wrap_succ (by omega)]
    refine allDelL1 _ n0 fr f hn (fun i' f' hi' hl' => ?_) NNo i (i + 1) f (by omega) (by omega) (by rw [NNo_eq]; unfold NN; omega) (fun _ _ => rfl) ?_
    · refine aiand (aile (fun _ => aile (fun _ => aiand (aile (fun _ => aile (fun _ => ?_) (fun h' => afail (by simp only [ofN] at h'; omega))) (fun h' => afail (by simp only [ofN] at h'; omega)))) (fun h' => afail (by simp only [ofN] at h'; omega))) (fun h' => afail (by simp only [ofN] at h'; omega)))
      rw [natI_ofN]
      refine hX i' _ hi' ?_
      rw [← hl']
      exact lst_congr fun j hj => by rw [clearF_lt _ _ (by omega)]
    · rw [lst_succ, List.filter_append, hall i (by omega) hj, List.filter_cons_of_neg (by unfold keep; rw [sq_eta]; simp; omega)]
      simp
  · refine aieq (fun _ => ?_) (fun h => absurd rfl h)
    exact hX n0 f (Nat.le_refl _) (hall n0 (Nat.le_refl _) hj).symm
theorem lst_take (f : Nat → V) {m n : Nat} (h : m ≤ n) : lst f m = (lst f n).take m := by
  simp only [lst, ← List.map_take, List.take_range, Nat.min_eq_left h]
end
end Go.Proofs.Ytbplfgghcclgkaa
