/- StreamPlays, the whole law. No conditions. -/
import Derived.Test.YtbplfgghcclgkaaP12w
import Derived.Test.YtbplfgghcclgkaaP12y
open Go Go.VM
namespace Go.Proofs.Ytbplfgghcclgkaa
set_option maxRecDepth 100000
section
variable {β : Type} {PP : β → Prop} {nx ms mk mt my mv : Int} {n m N : Nat} {f pl f8 g q : Nat → V}
/-- a call, and what both show behind it -/
theorem allRound (X0 X1 : Int → Int → Int → Int → Int → Int → Nat → (Nat → V) → (Nat → V) → (Nat → V) → (Nat → V) → R β) (X2 X3 : Int → Nat → (Nat → V) → R β) (X4 X5 : Int → Nat → Int → Nat → Nat → (Nat → V) → (Nat → V) → (Nat → V) → R β)
    (X6 X7 : Int → Int → Int → Int → Int → Int → Int → Nat → Nat → (Nat → V) → (Nat → V) → R β)
    (kind t ky vl o0 o1 o2 o3 o4 : Int) (n9 : Nat) (f9 : Nat → V) (r : Nat) (s hold : Int) (fr fr' : Nat → V)
    (hS : Side nx ms mk mt my mv (lst f n) m pl N f8 g q) (hN : N ≤ 1099999) (ht : inI t) (hky : inI ky) (h2 : inI o2) (h3' : inI o3)
    (h9 : n9 ≤ 1073741824) (hr1 : 1 ≤ r) (hr3 : r ≤ 3) (hs : 1 ≤ s) (hs' : s ≤ 4) (hm : m = r * s.toNat) (hg : ∀ i, i < r → 1 ≤ intV (fr i)) (hf : ∀ i, i < r → intV (fr' i) = intV (fr i))
    (h1 : ∀ n' f' p' g' q', Side nx ms mk mt my mv (lst f' n') m p' N f8 g' q' → All PP (X1 nx ms mk mt my mv n' f' p' g' q'))
    (h3 : ∀ f' f8' g', Side (nx + 1) ms mk mt my mv (lst f' (n + 1)) m pl (N + 1) f8' g' q → All PP (X5 (nx + 1) (n + 1) (nx + 1) (N + 1) (N + 1) f' f8' g'))
    (h5 : ∀ mt' f8' g', Side (nx + 1) nx 2 mt' 0 0 (lst f n) m pl (N + 1) f8' g' q → All PP (X7 (nx + 1) nx 2 mt' 0 0 (nx + 1) (N + 1) (N + 1) f8' g')) :
    All PP (Jf12_19_0 X0 X1 X2 X3 X4 X5 X6 X7 r s hold nx ms mk mt my mv n m r s hold nx N N m kind t ky vl o0 o1 o2 o3 o4 n9 f9 fr f pl fr' f8 g q) := by
  unfold Jf12_19_0
  have hsm := hS.small
  have hmul : r * s.toNat ≤ 12 := Nat.mul_le_mul hr3 (show s.toNat ≤ 4 by omega)
  refine allPlay _ _ _ _ _ _ _ kind t ky vl o0 o1 o2 o3 o4 n9 f9 r s hold fr fr' hS (by omega) ht hky h2 h3' h9 hr1 hr3 hs hs' hm hg hf (fun n' f' p' g' q' h hn' => ?_) (fun f' f8' g' h => ?_) ?_ (fun mt' f8' g' h => ?_)
  · exact allSame _ _ nx ms mt n' m N f' p' f8 g' q' (by omega) (by omega) (by omega) h.relS h.place (h1 n' f' p' g' q' h)
  · exact allSame _ _ (nx + 1) ms mt (n + 1) m (N + 1) f' pl f8' g' q (by omega) (by omega) (by omega) h.relS h.place (h3 f' f8' g' h)
  · exact ainot (aitrue (allSame _ _ nx ms mt n m N f pl f8 g q (by omega) (by omega) (by omega) hS.relS hS.place (h1 n f pl g q hS)))
  · exact allSame _ _ (nx + 1) nx mt' n m (N + 1) f pl f8' g' q (by omega) (by omega) (by omega) h.relS h.place (h5 mt' f8' g' h)
/-- a clone's cut: whatever it does -/
theorem allClone (X0 : Nat → (Nat → V) → (Nat → V) → Nat → (Nat → V) → R β) (r n m : Nat) (s : Int) (fr f pl : Nat → V) (hr3 : r ≤ 3) (hs : 1 ≤ s) (hs' : s ≤ 4) (hm : m = r * s.toNat) (hn : n ≤ 1073741824) (h : ∀ a b c d e, All PP (X0 a b c d e)) :
    All PP (Jf12_17_0 X0 m r s n m fr f pl) := by
  unfold Jf12_17_0
  have hmul : r * s.toNat ≤ 12 := Nat.mul_le_mul hr3 (show s.toNat ≤ 4 by omega)
  refine aiand (aiand (aile (fun _ => aile (fun _ => aile (fun _ => ?_) (fun h => absurd (by simp only [ofN]; omega) h)) (fun h => absurd (Int.le_refl _) h)) (fun h => absurd (by simp only [ofN]; omega) h)))
  exact allCut _ _ _ _ r s n m fr f pl hr3 hs hs' hn hm (fun _ => h _ _ _ _ _) (fun _ _ _ _ _ _ _ => h _ _ _ _ _)
/-- the script -/
theorem lfP (X0 : Int → Int → Int → Int → Int → Int → Nat → Int → Nat → Nat → Int → Int → Int → Int → Int → Int → Int → Int → Int → Nat → (Nat → V) → Nat → (Nat → V) → Nat → (Nat → V) → Nat → (Nat → V) → Nat → (Nat → V) → (Nat → V) → R β) (X1 : Int → Int → Int → Int → Int → Int → Nat → Int → Nat → Nat → Int → Int → Int → Int → Int → Int → Int → Int → Int → Nat → (Nat → V) → Nat → (Nat → V) → Nat → (Nat → V) → Nat → (Nat → V) → (Nat → V) → (Nat → V) → R β) (X2 : Int → Int → Int → Int → Int → Int → Nat → Int → Nat → Nat → Int → Int → Int → Int → Int → Int → Int → Int → Int → Nat → (Nat → V) → Nat → (Nat → V) → (Nat → V) → (Nat → V) → (Nat → V) → (Nat → V) → R β) (X3 : Int → Int → Int → Int → Int → Int → Nat → Int → Nat → Nat → Int → Int → Int → Int → Int → Int → Int → Int → Int → Nat → (Nat → V) → Nat → (Nat → V) → Nat → (Nat → V) → (Nat → V) → (Nat → V) → (Nat → V) → R β) (X4 : R β)
    (n0 : Nat) (f1 : Nat → V) (r : Nat) (s hold : Int) (fr fr' : Nat → V) (hn0 : n0 ≤ 1048576) (hc : ∀ j, j < n0 → inI (intV (partV (f1 j) 1)) ∧ inI (intV (partV (f1 j) 2)) ∧ inI (intV (partV (partV (f1 j) 4) 2)) ∧ inI (intV (partV (partV (f1 j) 4) 3)) ∧ viewN (partV (f1 j) 5) ≤ 1048576)
    (hr1 : 1 ≤ r) (hr3 : r ≤ 3) (hs : 1 ≤ s) (hs' : s ≤ 4) (hm : m = r * s.toNat) (hg : ∀ i, i < r → 1 ≤ intV (fr i)) (hf : ∀ i, i < r → intV (fr' i) = intV (fr i)) (h4 : All PP X4) :
    ∀ (k j : Nat) (nx ms mk mt my mv : Int) (n a b c d N : Nat) (f pl f8 g q : Nat → V), j ≤ n0 → n0 - j < k → Side nx ms mk mt my mv (lst f n) m pl N f8 g q → N ≤ j →
      All PP (Lf12_0_0 X0 X1 X2 X3 (fun _ _ _ _ _ _ _ _ _ _ _ _ _ _ _ _ _ _ _ => X4) n0 f1 (ofN n0) r s hold m r s hold m fr fr' k (ofN j) nx ms mk mt my mv n nx N N a f b pl c f8 d g q)
  | 0, j, nx, ms, mk, mt, my, mv, n, a, b, c, d, N, f, pl, f8, g, q, _, hk, _, _ => by omega
  | k + 1, j, nx, ms, mk, mt, my, mv, n, a, b, c, d, N, f, pl, f8, g, q, hj, hk, hS, hNj => by
    have ih := lfP X0 X1 X2 X3 X4 n0 f1 r s hold fr fr' hn0 hc hr1 hr3 hs hs' hm hg hf h4 k
    show All PP (Rd12_0_0 (Lf12_0_0 X0 X1 X2 X3 (fun _ _ _ _ _ _ _ _ _ _ _ _ _ _ _ _ _ _ _ => X4) n0 f1 (ofN n0) r s hold m r s hold m fr fr' k) X0 X1 X2 X3 (fun _ _ _ _ _ _ _ _ _ _ _ _ _ _ _ _ _ _ _ => X4) n0 f1 (ofN n0) r s hold m r s hold m fr fr' (ofN j) nx ms mk mt my mv n nx N N a f b pl c f8 d g q)
    generalize Lf12_0_0 X0 X1 X2 X3 (fun _ _ _ _ _ _ _ _ _ _ _ _ _ _ _ _ _ _ _ => X4) n0 f1 (ofN n0) r s hold m r s hold m fr fr' k = NX at ih ⊢
    unfold Rd12_0_0
    refine ailt (fun hlt => ?_) (fun _ => h4)
    have hlt' : j < n0 := by simp only [ofN] at hlt; omega
    obtain ⟨c1, c2, c3, c4, c5⟩ := hc j hlt'
    have hsm := hS.small
    have hmul : r * s.toNat ≤ 12 := Nat.mul_le_mul hr3 (show s.toNat ≤ 4 by omega)
    refine aiand (aile (fun _ => ailt (fun _ => ?_) (fun h => absurd hlt h)) (fun h => absurd (by simp only [ofN]; omega) h))
    refine ailen (fun _ => ailen (fun _ => ?_) (fun h => absurd (by omega) h)) (fun h => absurd (by omega) h)
    rw [wrap_succ (by omega), natI_ofN]
    have round : ∀ (Y0 : Int → Int → Int → Int → Int → Int → Nat → (Nat → V) → (Nat → V) → (Nat → V) → (Nat → V) → R β) (Y2 : Int → Nat → (Nat → V) → R β) (Y4 : Int → Nat → Int → Nat → Nat → (Nat → V) → (Nat → V) → (Nat → V) → R β) (Y6 : Int → Int → Int → Int → Int → Int → Int → Nat → Nat → (Nat → V) → (Nat → V) → R β) (a b : Nat) (Y3 : Int → Nat → (Nat → V) → R β),
        All PP (Jf12_19_0 Y0 (fun i i1 i2 i3 i4 i5 n' f' p' g' q' => NX (ofN (j + 1)) i i1 i2 i3 i4 i5 n' nx N N a f' b p' c f8 d g' q') Y2 Y3 Y4 (fun i n' i' n1 n2 f' f1' f2' => NX (ofN (j + 1)) i ms mk mt my mv n' i' n1 n2 n' f' b pl n1 f1' n2 f2' q) Y6 (fun i i1 i2 i3 i4 i5 i' n1 n2 f1' f2' => NX (ofN (j + 1)) i i1 i2 i3 i4 i5 n i' n1 n2 a f b pl n1 f1' n2 f2' q)
          r s hold nx ms mk mt my mv n m r s hold nx N N m (intV (partV (f1 j) 0)) (intV (partV (f1 j) 1)) (intV (partV (f1 j) 2)) (intV (partV (f1 j) 3)) (intV (partV (partV (f1 j) 4) 0)) (intV (partV (partV (f1 j) 4) 1)) (intV (partV (partV (f1 j) 4) 2)) (intV (partV (partV (f1 j) 4) 3)) (intV (partV (partV (f1 j) 4) 4)) (viewN (partV (f1 j) 5)) (viewF (partV (f1 j) 5)) fr f pl fr' f8 g q) := fun Y0 Y2 Y4 Y6 a b Y3 =>
      allRound _ _ _ _ _ _ _ _ _ _ _ _ _ _ _ _ _ _ _ r s hold fr fr' hS (by omega) c1 c2 c3 c4 (by omega) hr1 hr3 hs hs' hm hg hf
        (fun n' f' p' g' q' h => ih (j + 1) nx ms mk mt my mv n' a b c d N f' p' f8 g' q' (by omega) (by omega) h (by omega))
        (fun f' f8' g' h => ih (j + 1) (nx + 1) ms mk mt my mv (n + 1) _ b _ _ (N + 1) f' pl f8' g' q (by omega) (by omega) h (by omega))
        (fun mt' f8' g' h => ih (j + 1) (nx + 1) nx 2 mt' 0 0 n a b _ _ (N + 1) f pl f8' g' q (by omega) (by omega) h (by omega))
    have clone : ∀ (Z : R β), All PP Z → All PP (Jf12_17_0 (fun _ _ _ _ _ => Z) m r s n m fr f pl) := fun Z hZ => allClone _ r n m s fr f pl hr3 hs hs' hm (by omega) (fun _ _ _ _ _ => hZ)
    refine aieq (fun _ => ?_) (fun _ => round _ _ _ _ n m _)
    refine ainot (aieq (fun _ => ?_) (fun h => absurd rfl h))
    refine ailt (fun _ => ailt (fun _ => ?_) (fun _ => ?_)) (fun _ => ?_)
    all_goals exact clone _ (round _ _ _ _ a b _)
/-- StreamPlays -/
theorem playsP (X0 X1 : R β) (n0 : Nat) (f1 : Nat → V) (i2 i3 : Int) (n4 : Nat) (f5 : Nat → V) (hn4 : n4 ≤ 1048576) (hc : ∀ j, j < n4 → inI (intV (partV (f5 j) 1)) ∧ inI (intV (partV (f5 j) 2)) ∧ inI (intV (partV (partV (f5 j) 4) 2)) ∧ inI (intV (partV (partV (f5 j) 4) 3)) ∧ viewN (partV (f5 j) 5) ≤ 1048576) (h0 : All PP X0) :
    All PP (Df12_0 X0 X1 n0 f1 i2 i3 n4 f5) := by
  unfold Df12_0
  refine allLong _ n0 n4 f5 (by omega) (fun b => all_iteR (fun _ => h0) (fun _ => ?_))
  refine allNew _ _ n0 f1 i2 i3 (fun hb => allNew14 _ _ n0 f1 i2 i3 (fun _ => h0) (fun hg => absurd hg hb)) (fun hgood f15 n16 f17 hp => ?_)
  refine allNew14 _ _ n0 f1 i2 i3 (fun hb => absurd hgood hb) (fun _ n12 f13 n14 f24 hr hq => ?_)
  obtain ⟨g1, g2, g3, g4, g5, g6, g7⟩ := hgood
  refine lfP _ _ _ _ X0 n4 f5 n0 i2 i3 f1 f13 hn4 hc g1 g2 g4 g5 rfl g3 (fun i hi => by rw [hr i hi]; rfl) h0 NNo 0 1 0 0 0 0 0 0 0 n16 0 0 0 f15 f17 (constF .junk) (constF .junk) f24 (Nat.zero_le _) (by rw [NNo_eq]; unfold NN; omega) ?_ (Nat.le_refl _)
  exact ⟨rfl, fun i hi => absurd hi (by omega), rfl, .inl ⟨rfl, rfl⟩, ⟨List.Pairwise.nil, fun v hv => (by cases hv), fun v hv => (by cases hv), .inl rfl⟩, fun j hj => by rw [hp j hj, hq j hj], fun v hv => (by cases hv), fun h => absurd h (by decide)⟩
end
end Go.Proofs.Ytbplfgghcclgkaa
