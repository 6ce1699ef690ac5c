/- A cut by both streams: they answer the same, and hold the same behind it. No conditions. -/
import Derived.Test.YtbplfgghcclgkaaP14u
open Go Go.VM
namespace Go.Proofs.Ytbplfgghcclgkaa
set_option maxRecDepth 100000
section
variable {β : Type} {PP : β → Prop}
theorem covered_congr {n n' m : Nat} {f f' pf pf' : Nat → V} {s : Int} {o : V} (hn : 1 ≤ n) (hn' : n ≤ 3) (hs : 1 ≤ s) (hs' : s ≤ 4) (hm : m = n * s.toNat) (hr : ∀ i, i < n → 1 ≤ intV (f i)) (e : n' = n) (hf : ∀ i, i < n → intV (f' i) = intV (f i))
    (hp : ∀ j, j < m → etaPl (pf j) = etaPl (pf' j)) (ht : inI (intV (partV o 2))) : coveredV n f s m pf o = coveredV n' f' s m pf' o := by
  subst e
  have h1 := covered_iff (f := f) (pf := pf) (o := o) hn hn' hs hs' hm hr ht.1 ht.2
  have h2 := covered_iff (f := f') (pf := pf') (o := o) hn hn' hs hs' hm (fun i hi => by rw [hf i hi]; exact hr i hi) ht.1 ht.2
  have h3 : aheadP n' f s pf o ↔ aheadP n' f' s pf' o := by
    unfold aheadP
    refine forall_congr' fun i => forall_congr' fun hi => ?_
    have hl := laneAt_range (key := intV (partV o 3)) hs hs' hi
    have hj : natI (laneAt (intV (partV o 3)) s i) < m := by
      rw [hm]
      unfold natI
      have := hl.2
      simp only [ofN] at this
      omega
    have part : ∀ k, intV (partV (etaPl (pf (natI (laneAt (intV (partV o 3)) s i)))) k) = intV (partV (etaPl (pf' (natI (laneAt (intV (partV o 3)) s i)))) k) := fun k => by rw [hp _ hj]
    have p0 : intV (partV (pf (natI (laneAt (intV (partV o 3)) s i))) 0) = intV (partV (pf' (natI (laneAt (intV (partV o 3)) s i))) 0) := part 0
    have p1 : intV (partV (pf (natI (laneAt (intV (partV o 3)) s i))) 1) = intV (partV (pf' (natI (laneAt (intV (partV o 3)) s i))) 1) := part 1
    rw [p0, p1, hf i hi]
  cases a : coveredV n' f s m pf o with
  | true => exact (h2.2 (h3.1 (h1.1 a))).symm
  | false =>
    cases b : coveredV n' f' s m pf' o with
    | false => rfl
    | true => rw [h1.2 (h3.2 (h2.1 b))] at a; cases a
theorem allOver (X0 : (Nat → V) → R β) (n : Nat) (hn : n ≤ 1073741824) (h0 : ∀ f, All PP (X0 f)) : ∀ (k i : Nat) (f : Nat → V), i ≤ n → n - i < k → All PP (Lf43_1_0 X0 n (ofN n) k (ofN i) f)
  | 0, i, f, _, hk => by omega
  | k + 1, i, f, hi, hk => by
    have ih := allOver X0 n hn h0 k
    show All PP (Rd43_1_0 (Lf43_1_0 X0 n (ofN n) k) X0 n (ofN n) (ofN i) f)
    unfold Rd43_1_0
    refine ailt (fun hl => ?_) (fun _ => h0 f)
    have hlt : i < n := by simp only [ofN] at hl; omega
    refine aiand (aile (fun _ => ailt (fun _ => ?_) (fun h' => absurd hl h')) (fun h' => absurd (by simp only [ofN]; omega) h'))
    rw [wrap_succ (by omega)]
    exact ih (i + 1) _ (by omega) (by omega)
variable {nx ms mk mt my mv : Int} {n m N : Nat} {f pl f8 g q : Nat → V}
theorem allJ19 (X0 X1 : (Nat → V) → R β) (n0 : Nat) (i : Int) (b : Bool) (k : Nat) (e i6 : Int) (f9 fp : Nat → V) (hn : n0 ≤ 1073741824) (hp : ∀ j, j < n0 → etaPl (fp j) = etaPl (f9 j)) (hb : (b = true ∧ k = 67 ∧ e = 2 ∧ i6 = 2) ∨ (b = false ∧ i6 = 0)) (h1 : ∀ f', All PP (X1 f')) :
    All PP (Jf43_19_0 X0 X1 n0 i b k e i i6 n0 f9 fp) := by
  unfold Jf43_19_0
  have fin : All PP (Df48_0 (Lf43_1_0 X0 n0 (ofN n0) NNo 0 fp) (Lf43_1_0 X1 n0 (ofN n0) NNo 0 fp) n0 fp n0 f9) :=
    allPlaces _ _ n0 fp f9 hn hp (allOver X1 n0 hn h1 NNo 0 fp (Nat.zero_le _) (by rw [NNo_eq]; unfold NN; omega))
  refine aieq (fun _ => ?_) (fun h => absurd rfl h)
  rcases hb with ⟨rfl, rfl, rfl, rfl⟩ | ⟨rfl, rfl⟩
  · exact aifalse (aitrue (aifalse (aifalse (aitrue fin))))
  · exact aitrue (aitrue fin)
theorem allCuts (X0 : Nat → (Nat → V) → (Nat → V) → (Nat → V) → (Nat → V) → R β) (X1 : Nat → (Nat → V) → (Nat → V) → (Nat → V) → (Nat → V) → R β)
    (n9 r : Nat) (s : Int) (f9 fr fr' : Nat → V) (hS : Side nx ms mk mt my mv (lst f n) m pl N f8 g q) (hN : N ≤ 1100000) (h9 : n9 ≤ 1073741824) (hr1 : 1 ≤ r) (hr3 : r ≤ 3) (hs : 1 ≤ s) (hs' : s ≤ 4) (hm : m = r * s.toNat) (hg : ∀ i, i < r → 1 ≤ intV (fr i)) (hf : ∀ i, i < r → intV (fr' i) = intV (fr i))
    (h1 : ∀ n' f' p' g' q', Side nx ms mk mt my mv (lst f' n') m p' N f8 g' q' → n' ≤ n → All PP (X1 n' f' p' g' q')) :
    All PP (Df33_0 (Jf43_18_0 (fun f515 f516 _ => X0 n f pl f515 f516) (fun f518 f519 _ => X1 n f pl f518 f519) (addN 0 n9) 0 true 67 2 r s N N m fr' f8 g q n9 f9 (joinF (litF (.nd 53 [.int .i64 0, .int .i64 0]) []) f9 0))
      (fun i521 n522 f523 f524 => Jf43_18_0 (fun f525 f526 _ => X0 n522 f523 f524 f525 f526) (fun f528 f529 _ => X1 n522 f523 f524 f528 f529) (addN 0 n9) i521 false 0 (Int.ofNat 0) r s N N m fr' f8 g q n9 f9 (joinF (litF (.nd 53 [.int .i64 0, .int .i64 0]) []) f9 0))
      (addN 0 n9) (joinF (litF (.nd 53 [.int .i64 0, .int .i64 0]) []) f9 0) r s n m fr f pl) := by
  have e9 : addN 0 n9 = n9 := by simp [addN]
  have ej : ∀ j, joinF (litF (.nd 53 [.int .i64 0, .int .i64 0]) []) f9 0 j = f9 j := fun j => by rw [joinF_ge _ _ (Nat.zero_le j), Nat.sub_zero]
  rw [e9]
  have hsm := hS.small
  have hlen : (heldL f8 g N).length = n := by rw [← hS.held, lst_len]
  have ho : ∀ i, i < N → inI (intV (partV (f8 i) 2)) ∧ inI (intV (partV (f8 i) 3)) := fun i hi => (hS.num i hi).2.2
  refine allCut _ _ n9 _ r s n m fr f pl hr3 hs hs' (by omega) hm (fun hne => ?_) (fun he n' f' fp hn' hfp hl => ?_)
  · unfold Jf43_18_0
    refine allCut14 _ n9 f9 r s N m fr' f8 g q hN hr1 hr3 hs hs' hm (fun i hi => by rw [hf i hi]; exact hg i hi) ho (fun _ => ?_) (fun he => absurd he hne)
    exact allJ19 _ _ n9 0 true 67 2 2 f9 _ h9 (fun j _ => by rw [ej]) (.inl ⟨rfl, rfl, rfl, rfl⟩) (fun _ => h1 n f pl g q hS (Nat.le_refl _))
  · unfold Jf43_18_0
    refine allCut14 _ n9 f9 r s N m fr' f8 g q hN hr1 hr3 hs hs' hm (fun i hi => by rw [hf i hi]; exact hg i hi) ho (fun hne => absurd he hne) (fun _ c g' q' hq' hc hl' => ?_)
    have hpl : ∀ j, j < m → etaPl (fp j) = etaPl (q' j) := fun j hj => by
      rw [hfp j hj, hq' j hj, ej]
      have hp := hS.place j hj
      have part : ∀ k, intV (partV (etaPl (pl j)) k) = intV (partV (etaPl (q j)) k) := fun k => by rw [hp]
      have p0 : intV (partV (pl j) 0) = intV (partV (q j) 0) := part 0
      have p1 : intV (partV (pl j) 1) = intV (partV (q j) 1) := part 1
      unfold maxP lessP
      rw [p0, p1, hp]
    have hsame : heldL f8 g' N = (heldL f8 g N).filter (fun v => !coveredV r fr s m fp v) := by
      rw [hl']
      refine List.filter_congr fun v hv => ?_
      obtain ⟨i, hi, rfl⟩ := heldL_mem hv
      rw [covered_congr (o := etaOp (f8 i)) (f := fr) (f' := fr') (pf := fp) (pf' := q') (n' := r) hr1 hr3 hs hs' hm hg rfl hf hpl (show inI (intV (partV (f8 i) 2)) from (ho i hi).1)]
    have hcount : ofN c = ofN (n - n') := by
      have e1 : (heldL f8 g' N).length = n' := by rw [hsame, ← hS.held, ← hl, lst_len]
      have : c = n - n' := by omega
      rw [this]
    rw [hcount]
    refine allJ19 _ _ n9 _ false 0 (Int.ofNat 0) 0 f9 _ h9 (fun j _ => by rw [ej]) (.inr ⟨rfl, rfl⟩) (fun _ => h1 n' f' fp g' q' (hS.cut hl hsame hpl) hn')
end
end Go.Proofs.Ytbplfgghcclgkaa
