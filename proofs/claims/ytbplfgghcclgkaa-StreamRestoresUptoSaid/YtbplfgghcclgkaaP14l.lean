/- The document's cut: what is dropped. No conditions. -/
import Derived.Test.YtbplfgghcclgkaaP14k
open Go Go.VM
namespace Go.Proofs.Ytbplfgghcclgkaa
set_option maxRecDepth 100000
section
variable {β : Type} {PP : β → Prop}
theorem heldL_congr {f g g' : Nat → V} : ∀ n, (∀ j, j < n → boolV (g j) = boolV (g' j)) → heldL f g n = heldL f g' n
  | 0, _ => rfl
  | n + 1, h => by
    unfold heldL
    rw [heldL_congr n (fun j hj => h j (by omega)), h n (by omega)]
theorem allGone14 (X0 : Int → (Nat → V) → R β) (n2 : Nat) (s : Int) (n n8 : Nat) (f10 f pf : Nat → V) (g : Nat → V) (hn : n ≤ 1100000) (h2 : 1 ≤ n2) (h2' : n2 ≤ 3) (hs : 1 ≤ s) (hs' : s ≤ 4) (hm : n8 = n2 * s.toNat) (hr : ∀ i, i < n2 → 1 ≤ intV (f10 i))
    (ho : ∀ i, i < n → inI (intV (partV (f i) 2)) ∧ inI (intV (partV (f i) 3)))
    (hX : ∀ (c : Nat) g', c + (heldL f g' n).length = (heldL f g n).length → heldL f g' n = (heldL f g n).filter (fun v => !coveredV n2 f10 s n8 pf v) → All PP (X0 (ofN c) g')) :
    ∀ (k i c : Nat) (g' : Nat → V), i ≤ n → n - i < k → c ≤ i → (∀ j, i ≤ j → g' j = g j) → c + (heldL f g' i).length = (heldL f g i).length → heldL f g' i = (heldL f g i).filter (fun v => !coveredV n2 f10 s n8 pf v) →
      All PP (Lf85_2_0 X0 n2 s n n n8 f10 f pf k (ofN c) (ofN i) g') := by
  intro k
  induction k with
  | zero => intro i c g' hi hk; omega
  | succ k ih =>
    intro i c g' hi hk hci hg hc hl
    show All PP (Rd85_2_0 (Lf85_2_0 X0 n2 s n n n8 f10 f pf k) X0 n2 s n n n8 f10 f pf (ofN c) (ofN i) g')
    generalize Lf85_2_0 X0 n2 s n n n8 f10 f pf k = NX at ih ⊢
    unfold Rd85_2_0
    refine ailt (fun hlt => ?_) (fun hlt => ?_)
    · have hlt' : i < n := by simp only [ofN] at hlt; omega
      have rng : ∀ {x : R β}, All PP x → All PP (iteR (andB (leI 0 (ofN i)) (ltI (ofN i) (ofN n))) x .fail) := fun h =>
        aiand (aile (fun _ => ailt (fun _ => h) (fun h' => absurd hlt h')) (fun h' => absurd (by simp only [ofN]; omega) h'))
      have gi : g' i = g i := hg i (Nat.le_refl i)
      rw [natI_ofN, wrap_succ (i := c) (by omega)]
      try rw [wrap_succ (i := i) (by omega)]
      have skip : ¬ (kd (f i) = 1 ∧ boolV (g i) = false) → All PP (NX (ofN c) (ofN (i + 1)) g') := fun hno =>
        ih (i + 1) c g' (by omega) (by omega) (by omega) (fun j hj => hg j (by omega)) (by
          show c + (heldL f g' i ++ _).length = (heldL f g i ++ _).length
          rw [gi, if_neg hno, List.append_nil, List.append_nil]; exact hc) (by
          show heldL f g' i ++ _ = (heldL f g i ++ _).filter _
          rw [gi, if_neg hno, List.append_nil, List.append_nil]; exact hl)
      refine rng (aieq (fun hk1 => rng (ainot (all_iteR (fun hb => skip fun h => by rw [← gi, hb] at h; exact absurd h.2 (by simp)) (fun hb => rng ?_)))) (fun hk1 => skip fun h => hk1 h.1))
      have hb' : boolV (g i) = false := by rw [← gi]; exact hb
      have hk1 : kd (f i) = 1 := hk1
      have no : coveredV n2 f10 s n8 pf (etaOp (f i)) = false → All PP (NX (ofN c) (ofN (i + 1)) g') := fun hcov =>
        ih (i + 1) c g' (by omega) (by omega) (by omega) (fun j hj => hg j (by omega)) (by
          show c + (heldL f g' i ++ _).length = (heldL f g i ++ _).length
          rw [gi, if_pos ⟨hk1, hb'⟩, List.length_append, List.length_append]; omega) (by
          show heldL f g' i ++ _ = (heldL f g i ++ _).filter _
          rw [gi, if_pos ⟨hk1, hb'⟩, List.filter_append, List.filter_cons_of_pos (by rw [hcov]; rfl), List.filter_nil, hl])
      refine allCov14 _ _ (etaOp (f i)) n2 f10 s n8 pf h2 h2' hs hs' hm hr (ho i hlt').1 (ho i hlt').2 (fun hcov => aitrue (rng ?_)) no
      have cg : heldL f (setF g' i (.bool true)) i = heldL f g' i := heldL_congr i fun j hj => by rw [setF_ne _ _ (by omega)]
      have hset : boolV (setF g' i (.bool true) i) = true := by rw [setF_at]; rfl
      refine ih (i + 1) (c + 1) _ (by omega) (by omega) (by omega) (fun j hj => by rw [setF_ne _ _ (by omega)]; exact hg j (by omega)) ?_ ?_
      · show c + 1 + (heldL f (setF g' i (.bool true)) i ++ _).length = (heldL f g i ++ _).length
        rw [cg, hset, if_neg (by simp), if_pos ⟨hk1, hb'⟩, List.append_nil, List.length_append, List.length_singleton]; omega
      · show heldL f (setF g' i (.bool true)) i ++ _ = (heldL f g i ++ _).filter _
        rw [cg, hset, if_neg (by simp), if_pos ⟨hk1, hb'⟩, List.append_nil, List.filter_append, List.filter_cons_of_neg (by rw [hcov]; simp), List.filter_nil, List.append_nil, hl]
    · have : i = n := by simp only [ofN] at hlt; omega
      subst this
      exact hX c g' hc hl
end
end Go.Proofs.Ytbplfgghcclgkaa
