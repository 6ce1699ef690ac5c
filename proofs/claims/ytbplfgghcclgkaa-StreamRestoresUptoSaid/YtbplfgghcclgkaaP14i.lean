/- What the document's replay gathers. No conditions. -/
import Derived.Test.YtbplfgghcclgkaaP14h
open Go Go.VM
namespace Go.Proofs.Ytbplfgghcclgkaa
set_option maxRecDepth 100000
section
variable {β : Type} {PP : β → Prop}
abbrev replC (fr ms : Int) (v : V) (b : Bool) : Prop := fr ≤ sq v ∧ ((kd v = 2 ∧ sq v = ms) ∨ (kd v = 1 ∧ b = false))
def replL (fr ms : Int) (f g : Nat → V) : Nat → List V
  | 0 => []
  | n + 1 => replL fr ms f g n ++ (if replC fr ms (f n) (boolV (g n)) then [etaOp (f n)] else [])
theorem allRepl14L (X0 : Nat → Nat → (Nat → V) → R β) (fr ms : Int) (n : Nat) (f g : Nat → V) (hn : n ≤ 1100000) (hX : ∀ m N h, lst h m = replL fr ms f g n → m ≤ n → All PP (X0 m N h)) :
    ∀ (k j m N : Nat) (h : Nat → V), j ≤ n → n - j < k → m ≤ j → lst h m = replL fr ms f g j → All PP (Lf86_0_0 X0 fr n n f g ms k m (ofN j) N h) := by
  intro k
  induction k with
  | zero => intro j m N h hj hk; omega
  | succ k ih =>
    intro j m N h hj hk hm hl
    show All PP (Rd86_0_0 (Lf86_0_0 X0 fr n n f g ms k) X0 fr n n f g ms m (ofN j) N h)
    generalize Lf86_0_0 X0 fr n n f g ms k = NX at ih ⊢
    unfold Rd86_0_0
    refine ailt (fun hlt => ?_) (fun hlt => ?_)
    · have hlt' : j < n := by simp only [ofN] at hlt; omega
      have rng : ∀ {x : R β}, All PP x → All PP (iteR (andB (leI 0 (ofN j)) (ltI (ofN j) (ofN n))) x .fail) := fun h =>
        aiand (aile (fun _ => ailt (fun _ => h) (fun h' => absurd hlt h')) (fun h' => absurd (by simp only [ofN]; omega) h'))
      rw [natI_ofN, wrap_succ (by omega)]
      have same : ¬ replC fr ms (f j) (boolV (g j)) → All PP (NX m (ofN (j + 1)) N h) := fun hc =>
        ih (j + 1) m N h (by omega) (by omega) (by omega) (by rw [hl]; show _ = replL fr ms f g j ++ _; rw [if_neg hc, List.append_nil])
      have app : replC fr ms (f j) (boolV (g j)) → All PP (iteR (leN (addN m 1) 1073741824) (NX (addN m 1) (ofN (j + 1)) (addN m 1) (joinF h (litF (.nd 38 [.int .i64 0, .int .i64 0, .int .i64 0, .int .i64 0, .int .i64 0]) [.nd 38 [.int .i64 (intV (partV (f j) 0)), .int .i64 (intV (partV (f j) 1)), .int .i64 (intV (partV (f j) 2)), .int .i64 (intV (partV (f j) 3)), .int .i64 (intV (partV (f j) 4))]]) m)) (.fail)) := fun hc => by
        refine ailen (fun _ => ?_) (fun h' => afail (by simp only [addN] at h'; omega))
        refine ih (j + 1) (m + 1) _ _ (by omega) (by omega) (by omega) ?_
        show lst _ (m + 1) = replL fr ms f g j ++ _
        rw [if_pos hc, ← hl]
        exact lst_join _ _ _
      refine rng (aile (fun hf => aieq (fun h2 => aieq (fun hs => app ⟨hf, .inl ⟨h2, hs⟩⟩) (fun hs => aieq (fun h1 => absurd h1 (by omega)) (fun h1 => same fun hc => ?_))) (fun h2 => aieq (fun h1 => rng (ainot (all_iteR (fun hb => same fun hc => ?_) (fun hb => app ⟨hf, .inr ⟨h1, hb⟩⟩)))) (fun h1 => same fun hc => ?_))) (fun hf => same fun hc => hf hc.1))
      · rcases hc.2 with a | a
        · exact hs a.2
        · exact h1 a.1
      · rcases hc.2 with a | a
        · exact h2 a.1
        · rw [a.2] at hb; cases hb
      · rcases hc.2 with a | a
        · exact h2 a.1
        · exact h1 a.1
    · have : j = n := by simp only [ofN] at hlt; omega
      subst this
      exact hX m N h hl hm
theorem allRepl14 (X0 : Nat → Int → Nat → (Nat → V) → R β) (fr most nx : Int) (n : Nat) (f g : Nat → V) (hn : n ≤ 1100000) (hx1 : 1 ≤ nx) (hx2 : nx ≤ 9223372036854775807)
    (h : ∀ ms, (lastM f n = 0 → ms = 0) → (∀ j, lastM f n = j + 1 → ms = sq (f j)) →
      (∀ m N h', lst h' m = replL fr ms f g n → (m = 0 ∨ (m : Int) ≤ most) → All PP (X0 m (nx - 1) N h')) ∧
      (∀ m, (replL fr ms f g n).length = m → 0 < m → most < m → most < 1 → ∀ N h', All PP (X0 0 (if wrapI .i64 (subI fr 1) < nx - 1 then wrapI .i64 (subI fr 1) else nx - 1) N h')) ∧
      (∀ q : Nat, most = q → 1 ≤ q → q < (replL fr ms f g n).length → ∀ N h' v, lst h' q = (replL fr ms f g n).take q → (replL fr ms f g n)[q - 1]? = some v → All PP (X0 q (sq v) N h'))) : All PP (Df86_0 X0 fr most nx n n f g) := by
  unfold Df86_0
  have e1 : wrapI .i64 (subI nx 1) = nx - 1 := wrap_sub (by omega) (by omega)
  rw [e1]
  have fin : ∀ ms, (lastM f n = 0 → ms = 0) → (∀ j, lastM f n = j + 1 → ms = sq (f j)) → ∀ m N (h' : Nat → V), lst h' m = replL fr ms f g n → m ≤ n →
      All PP (iteR (eqI (ofN m) 0) (X0 m (nx - 1) N h') (iteR (leI (ofN m) most) (X0 m (nx - 1) N h') (iteR (ltI most 1) (iteR (ltI (wrapI .i64 (subI fr 1)) (nx - 1)) (X0 0 (wrapI .i64 (subI fr 1)) 0 (constF .junk)) (X0 0 (nx - 1) 0 (constF .junk))) (iteR (andB (leI 0 most) (leI most (ofN m))) (iteR (andB (leI 0 (wrapI .i64 (subI most 1))) (ltI (wrapI .i64 (subI most 1)) (ofN m))) (X0 (subN (natI most) 0) (intV (partV (h' (natI (wrapI .i64 (subI most 1)))) 0)) N h') (.fail)) (.fail))))) := by
    intro ms hz hs m N h' hl hmn
    obtain ⟨k1, k2, k3⟩ := h ms hz hs
    have hlen : (replL fr ms f g n).length = m := by rw [← hl, lst_len]
    refine aieq (fun h0 => k1 m N h' hl (.inl (by simp only [ofN] at h0; omega))) (fun h0 => aile (fun hle => k1 m N h' hl (.inr hle)) (fun hle => ?_))
    have h0 : 0 < m := by simp only [ofN] at h0; omega
    have hle : most < m := by simp only [ofN] at hle; omega
    refine ailt (fun hm => ?_) (fun hm => ?_)
    · have := k2 m hlen h0 hle hm 0 (constF .junk)
      exact ailt (fun hc => by rw [if_pos hc] at this; exact this) (fun hc => by rw [if_neg hc] at this; exact this)
    · obtain ⟨q, rfl⟩ : ∃ q : Nat, most = q := ⟨most.toNat, by omega⟩
      have e2 : wrapI .i64 (subI (q : Int) 1) = ofN (q - 1) := by
        rw [wrap_sub (by omega) (by omega)]
        simp only [ofN]; omega
      rw [e2, natI_ofN]
      refine aiand (aile (fun _ => aile (fun _ => aiand (aile (fun _ => ailt (fun _ => ?_) (fun h' => absurd (by simp only [ofN]; omega) h')) (fun h' => absurd (by simp only [ofN]; omega) h'))) (fun h' => absurd (by simp only [ofN]; omega) h')) (fun h' => absurd (by omega) h'))
      have hq : (lst h' m)[q - 1]? = some (etaOp (h' (q - 1))) := by
        simp only [lst, List.getElem?_map]
        rw [List.getElem?_range (by omega)]; rfl
      exact k3 q rfl (by omega) (by omega) N h' (etaOp (h' (q - 1))) (by rw [← hl]; simp only [lst, ← List.map_take, List.take_range, Nat.min_eq_left (show q ≤ m by omega)]) (by rw [← hl]; exact hq)
  refine allLast _ _ n f hn (fun j hj => ?_) (fun hz => ?_)
  · exact allRepl14L _ fr (sq (f j)) n f g hn (fun m N h' hl hm => fin _ (fun h' => by omega) (fun j' hj' => by rw [show j' = j by omega]) m N h' hl hm) NNo 0 0 0 _ (Nat.zero_le _) (by rw [NNo_eq]; unfold NN; omega) (Nat.le_refl _) rfl
  · exact allRepl14L _ fr 0 n f g hn (fun m N h' hl hm => fin _ (fun _ => rfl) (fun j' hj' => by omega) m N h' hl hm) NNo 0 0 0 _ (Nat.zero_le _) (by rw [NNo_eq]; unfold NN; omega) (Nat.le_refl _) rfl
end
end Go.Proofs.Ytbplfgghcclgkaa
