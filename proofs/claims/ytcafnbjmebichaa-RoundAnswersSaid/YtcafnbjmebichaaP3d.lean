/- A round's list of registers, in the keepers' order. No conditions. -/
import Derived.Test.YtcafnbjmebichaaP3c
open Go Go.VM
namespace Go.Proofs.Ytcafnbjmebichaa
set_option maxRecDepth 100000
section
variable {β : Type} {PP : β → Prop}
theorem keyOk {x y : R β} {a : Int} (h1 : -9223372036854775808 ≤ a) (h2 : a ≤ 9223372036854775807) (h : All PP x) : All PP (iteR (andB (andB (leI (Int.negSucc 9223372036854775807) a) (leI a (Int.ofNat 9223372036854775807))) true) x y) := by
  refine aiand (aiand (aile (fun _ => aile (fun _ => aitrue h) (fun h' => absurd (show a ≤ 9223372036854775807 from h2) h')) (fun h' => absurd (show (-9223372036854775808 : Int) ≤ a from h1) h')))
theorem allListP (X0 : Nat → Nat → (Nat → V) → R β) (n c : Nat) (L : Ents) (has : Nat → V) (hn : n ≤ 1000) (hM : MapRel n c L has)
    (hX : ∀ N g, (∀ i k, (selL has n)[i]? = some k → likeR (g i) (getK (.int .i64 (ofN k)) L)) → All PP (X0 (selL has n).length N g)) :
    All PP (Lf13_0_0 X0 L.length (ofN L.length) L (rowI (sortI (keysI L))) NNo 0 0 0 (constF .junk)) := by
  have hlen := hM.len
  have hl := selL_len has n
  have main : ∀ (k i N : Nat) (g : Nat → V), i ≤ (selL has n).length → (selL has n).length - i < k → (∀ j q, j < i → (selL has n)[j]? = some q → likeR (g j) (getK (.int .i64 (ofN q)) L)) →
      All PP (Lf13_0_0 X0 L.length (ofN L.length) L (rowI (sortI (keysI L))) k i (ofN i) N g) := by
    intro k
    induction k with
    | zero => intro i N g hi hk; omega
    | succ k ih =>
      intro i N g hi hk hg
      show All PP (Rd13_0_0 (Lf13_0_0 X0 L.length (ofN L.length) L (rowI (sortI (keysI L))) k) X0 L.length (ofN L.length) L (rowI (sortI (keysI L))) i (ofN i) N g)
      unfold Rd13_0_0
      refine ailt (fun hlt => ?_) (fun hge => ?_)
      · have hlt' : i < (selL has n).length := by simp only [ofN] at hlt; omega
        obtain ⟨q, hq⟩ : ∃ q, (selL has n)[i]? = some q := ⟨_, List.getElem?_eq_getElem hlt'⟩
        obtain ⟨hqn, hqb⟩ := selL_mem.1 (List.mem_of_getElem? hq)
        refine aiand (aile (fun _ => ailt (fun _ => ?_) (fun h => absurd hlt h)) (fun h => absurd (by simp only [ofN]; omega) h))
        have hkey : intV (rowI (sortI (keysI L)) i) = ofN q := by
          rw [hM.keys]
          show ((selL has n).map ofN).getD i 0 = ofN q
          rw [List.getD_eq_getElem?_getD, List.getElem?_map, hq]
          rfl
        rw [natI_ofN', wrap_succ (by omega), hkey]
        refine keyOk (by simp only [ofN]; omega) (by simp only [ofN]; omega) ?_
        rw [hM.has hqn, hqb]
        refine aitrue (ailen (fun _ => ?_) (fun h => absurd (by simp only [addN]; omega) h))
        refine ih (i + 1) _ _ (by omega) (by omega) (fun j p hj hp => ?_)
        by_cases e : j < i
        · rw [joinF_lt e]
          exact hg j p e hp
        · have : j = i := by omega
          subst this
          rw [hq] at hp
          cases hp
          rw [joinF_ge (Nat.le_refl _), Nat.sub_self]
          exact ⟨rfl, rfl, rfl, rfl, fun _ _ => rfl⟩
      · have : i = (selL has n).length := by simp only [ofN] at hge; omega
        subst this
        exact hX N g fun j q hq => hg j q (List.getElem?_eq_some_iff.1 hq).1 hq
  exact main NNo 0 0 _ (Nat.zero_le _) (by rw [NNo_eq]; unfold NN; omega) (fun j q hj => absurd hj (by omega))
/-- slices.Contains, of one -/
theorem allIn1 (X0 : Int → R β) (a x : Int) (h1 : x = a → All PP (X0 0)) (h0 : x ≠ a → All PP (X0 (-1))) : All PP (Df120_0 X0 1 (litF (.int .i64 0) [.int .i64 a]) x) := by
  unfold Df120_0
  rw [NNo_eq]
  obtain ⟨k, hk⟩ : ∃ k, NN = k + 2 := ⟨NN - 2, by unfold NN; omega⟩
  rw [hk]
  show All PP (Rd120_0_0 _ _ _ _ _ _ _ _)
  unfold Rd120_0_0
  refine ailt (fun _ => aiand (aile (fun _ => ailt (fun _ => aieq (fun e => h1 e) (fun e => ?_)) (fun h => absurd (by decide) h)) (fun h => absurd (by decide) h))) (fun h => absurd (by decide) h)
  show All PP (Rd120_0_0 _ _ _ _ _ _ _ _)
  unfold Rd120_0_0
  exact ailt (fun h => absurd h (by decide)) (fun _ => h0 e)
/-- .., of two -/
theorem allIn2 (X0 : Int → R β) (a b x : Int) (h1 : x = a ∨ x = b → ∀ i, 0 ≤ i → All PP (X0 i)) (h0 : ¬ (x = a ∨ x = b) → All PP (X0 (-1))) : All PP (Df120_0 X0 2 (litF (.int .i64 0) [.int .i64 a, .int .i64 b]) x) := by
  unfold Df120_0
  rw [NNo_eq]
  obtain ⟨k, hk⟩ : ∃ k, NN = k + 3 := ⟨NN - 3, by unfold NN; omega⟩
  rw [hk]
  show All PP (Rd120_0_0 _ _ _ _ _ _ _ _)
  unfold Rd120_0_0
  refine ailt (fun _ => aiand (aile (fun _ => ailt (fun _ => aieq (fun e => h1 (.inl e) _ (by decide)) (fun e => ?_)) (fun h => absurd (by decide) h)) (fun h => absurd (by decide) h))) (fun h => absurd (by decide) h)
  show All PP (Rd120_0_0 _ _ _ _ _ _ _ _)
  unfold Rd120_0_0
  refine ailt (fun _ => aiand (aile (fun _ => ailt (fun _ => aieq (fun e' => h1 (.inr e') _ (by decide)) (fun e' => ?_)) (fun h => absurd (by decide) h)) (fun h => absurd (by decide) h))) (fun h => absurd (by decide) h)
  show All PP (Rd120_0_0 _ _ _ _ _ _ _ _)
  unfold Rd120_0_0
  exact ailt (fun h => absurd h (by decide)) (fun _ => h0 fun h => h.elim e e')
end
end Go.Proofs.Ytcafnbjmebichaa
