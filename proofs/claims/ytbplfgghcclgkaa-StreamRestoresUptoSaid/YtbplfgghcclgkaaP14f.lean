/- What the document's stream does, as lists: its last mark, what it holds. No conditions. -/
import Derived.Test.YtbplfgghcclgkaaP14a
open Go Go.VM
namespace Go.Proofs.Ytbplfgghcclgkaa
set_option maxRecDepth 100000
section
variable {β : Type} {PP : β → Prop}
def lastM (f : Nat → V) : Nat → Nat
  | 0 => 0
  | n + 1 => if kd (f n) = 2 then n + 1 else lastM f n
theorem lastM_le (f : Nat → V) : ∀ n, lastM f n ≤ n
  | 0 => Nat.le_refl _
  | n + 1 => by unfold lastM; split; exact Nat.le_refl _; exact Nat.le_succ_of_le (lastM_le f n)
theorem lastM_kd (f : Nat → V) : ∀ n, 0 < lastM f n → kd (f (lastM f n - 1)) = 2
  | 0, h => absurd h (by simp [lastM])
  | n + 1, h => by
    unfold lastM at h ⊢
    split
    · rename_i hk; exact hk
    · rename_i hk; rw [if_neg hk] at h; exact lastM_kd f n h
theorem allLast (X0 : Int → Int → Int → Int → Int → R β) (X1 : R β) (n : Nat) (f : Nat → V) (hn : n ≤ 1100000)
    (h0 : ∀ j, lastM f n = j + 1 → All PP (X0 (sq (f j)) (kd (f j)) (tm (f j)) (intV (partV (f j) 3)) (intV (partV (f j) 4)))) (h1 : lastM f n = 0 → All PP X1) : All PP (Df87_0 X0 X1 n f) := by
  unfold Df87_0
  have loop : ∀ (k j : Nat), j ≤ n → j < k → lastM f n = lastM f j → All PP (Lf87_0_0 (fun i15 i16 i17 i18 i19 => X0 i15 i16 i17 i18 i19) X1 n f k ((j : Int) - 1)) := by
    intro k
    induction k with
    | zero => intro j _ h; omega
    | succ k ih =>
      intro j hj hk hl
      show All PP (Rd87_0_0 (Lf87_0_0 (fun i15 i16 i17 i18 i19 => X0 i15 i16 i17 i18 i19) X1 n f k) _ X1 n f ((j : Int) - 1))
      unfold Rd87_0_0
      cases j with
      | zero => exact aile (fun h => absurd h (by omega)) (fun _ => h1 (by rw [hl]; rfl))
      | succ j =>
        have e : ((j + 1 : Nat) : Int) - 1 = ofN j := by simp only [ofN]; omega
        rw [e]
        refine aile (fun _ => ?_) (fun h => absurd (by simp only [ofN]; omega) h)
        have rng : ∀ {x : R β}, All PP x → All PP (iteR (andB (leI 0 (ofN j)) (ltI (ofN j) (ofN n))) x .fail) := fun h =>
          aiand (aile (fun _ => ailt (fun _ => h) (fun h' => absurd (by simp only [ofN]; omega) h')) (fun h' => absurd (by simp only [ofN]; omega) h'))
        rw [natI_ofN]
        refine rng (aieq (fun hk2 => rng ?_) (fun hk2 => ?_))
        · exact h0 j (by rw [hl]; unfold lastM; exact if_pos hk2)
        · have e2 : wrapI .i64 (subI (ofN j) 1) = (j : Int) - 1 := wrap_sub (by simp only [ofN]; omega) (by simp only [ofN]; omega)
          rw [e2]
          exact ih j (by omega) (by omega) (by rw [hl]; show (if kd (f j) = 2 then j + 1 else lastM f j) = _; exact if_neg hk2)
  have e : wrapI .i64 (subI (ofN n) 1) = (n : Int) - 1 := wrap_sub (by simp only [ofN]; omega) (by simp only [ofN]; omega)
  rw [e]
  exact loop NNo n (Nat.le_refl _) (by rw [NNo_eq]; unfold NN; omega) rfl
def heldL (f g : Nat → V) : Nat → List V
  | 0 => []
  | n + 1 => heldL f g n ++ (if kd (f n) = 1 ∧ boolV (g n) = false then [etaOp (f n)] else [])
theorem heldL_len (f g : Nat → V) : ∀ n, (heldL f g n).length ≤ n
  | 0 => Nat.le_refl _
  | n + 1 => by
    have := heldL_len f g n
    unfold heldL
    split <;> simp <;> omega
theorem allHeld (X0 : Nat → Nat → (Nat → V) → R β) (n : Nat) (f g : Nat → V) (hn : n ≤ 1100000) (hX : ∀ m N h, lst h m = heldL f g n → All PP (X0 m N h)) : All PP (Df88_0 X0 n n f g) := by
  unfold Df88_0
  have loop : ∀ (k j m N : Nat) (h : Nat → V), j ≤ n → n - j < k → m ≤ j → lst h m = heldL f g j → All PP (Lf88_0_0 (fun n15 n16 f17 => X0 n15 n16 f17) n n f g k m (ofN j) N h) := by
    intro k
    induction k with
    | zero => intro j m N h hj hk; omega
    | succ k ih =>
      intro j m N h hj hk hm hl
      show All PP (Rd88_0_0 (Lf88_0_0 (fun n15 n16 f17 => X0 n15 n16 f17) n n f g k) _ n n f g m (ofN j) N h)
      unfold Rd88_0_0
      refine ailt (fun hlt => ?_) (fun hlt => ?_)
      · have hlt' : j < n := by simp only [ofN] at hlt; omega
        have rng : ∀ {x : R β}, All PP x → All PP (iteR (andB (leI 0 (ofN j)) (ltI (ofN j) (ofN n))) x .fail) := fun h =>
          aiand (aile (fun _ => ailt (fun _ => h) (fun h' => absurd hlt h')) (fun h' => absurd (by simp only [ofN]; omega) h'))
        rw [natI_ofN, wrap_succ (by omega)]
        refine rng (aieq (fun hk1 => rng (ainot (all_iteR (fun hg => ?_) (fun hg => rng (ailen (fun _ => ?_) (fun h' => afail (by simp only [addN] at h'; omega))))))) (fun hk1 => ?_))
        · exact ih (j + 1) m N h (by omega) (by omega) (by omega) (by rw [hl]; show _ = heldL f g j ++ _; rw [if_neg (by rw [hg]; simp), List.append_nil])
        · refine ih (j + 1) (m + 1) _ _ (by omega) (by omega) (by omega) ?_
          show lst _ (m + 1) = heldL f g j ++ _
          rw [if_pos ⟨hk1, hg⟩, ← hl]
          exact lst_join _ _ _
        · exact ih (j + 1) m N h (by omega) (by omega) (by omega) (by rw [hl]; show _ = heldL f g j ++ _; rw [if_neg (fun h' => hk1 h'.1), List.append_nil])
      · have : j = n := by simp only [ofN] at hlt; omega
        subst this
        exact hX m N h hl
  exact loop NNo 0 0 0 _ (Nat.zero_le _) (by rw [NNo_eq]; unfold NN; omega) (Nat.le_refl _) rfl
end
end Go.Proofs.Ytbplfgghcclgkaa
