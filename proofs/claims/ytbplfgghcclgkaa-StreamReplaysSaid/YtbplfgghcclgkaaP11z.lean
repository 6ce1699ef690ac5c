/- StreamReplays, the whole law. No conditions. -/
import Derived.Test.YtbplfgghcclgkaaP11h
import Derived.Test.YtbplfgghcclgkaaP11l
open Go Go.VM
namespace Go.Proofs.Ytbplfgghcclgkaa
set_option maxRecDepth 100000
section
variable {β : Type} {PP : β → Prop}
theorem lf0 (X0 : Int → Int → Int → Int → Int → Int → Nat → Nat → (Nat → V) → (Nat → V) → R β) (n1 : Nat) (f2 : Nat → V) (n5 : Nat) (s h : Int) (n15 : Nat) (f17 : Nat → V)
    (hn1 : n1 ≤ 140737488351232) (h5 : n5 ≤ 3) (hs : 1 ≤ s) (hs' : s ≤ 4) (hh : h ≤ 64) (h15 : n15 = n5 * s.toNat)
    (hX : ∀ nx ms mk mt my mv (n : Nat) N f p, SInv nx ms mk (lst f n) → (n : Int) ≤ h → 1 ≤ nx → nx ≤ 1 + (n1 : Int) → All PP (X0 nx ms mk mt my mv n N f p)) :
    ∀ (k j : Nat) (nx ms mk mt my mv : Int) (n N : Nat) (f p : Nat → V), j ≤ n1 → n1 - j < k → SInv nx ms mk (lst f n) → (n : Int) ≤ h → 1 ≤ nx → nx ≤ 1 + (j : Int) →
      All PP (Lf11_0_0 X0 n1 f2 (ofN n1) n5 s h n15 f17 k (ofN j) nx ms mk mt my mv n N f p)
  | 0, j, nx, ms, mk, mt, my, mv, n, N, f, p, _, hk, _, _, _, _ => by omega
  | k + 1, j, nx, ms, mk, mt, my, mv, n, N, f, p, hj, hk, hi, hn, hx1, hx2 => by
    have ih := lf0 X0 n1 f2 n5 s h n15 f17 hn1 h5 hs hs' hh h15 hX k
    show All PP (Rd11_0_0 (Lf11_0_0 X0 n1 f2 (ofN n1) n5 s h n15 f17 k) X0 n1 f2 (ofN n1) n5 s h n15 f17 (ofN j) nx ms mk mt my mv n N f p)
    generalize Lf11_0_0 X0 n1 f2 (ofN n1) n5 s h n15 f17 k = NX at ih ⊢
    unfold Rd11_0_0
    refine ailt (fun hlt => ?_) (fun hlt => ?_)
    · have hlt : j < n1 := by simp only [ofN] at hlt; omega
      rw [wrap_succ' (i := j) (by omega), natI_ofN]
      have hw : wrapI .i64 (addI nx 1) = nx + 1 := wrap_add (by omega) (by omega)
      rw [hw]
      have b0 : leI 0 (ofN j) = true := leI_zero j
      have b1 : ltI (ofN j) (ofN n1) = true := by rw [ltI_ofN]; simpa using hlt
      rw [b0, b1]
      refine aiand (aitrue (aitrue ?_))
      generalize intV (partV (f2 j) 0) = kk
      generalize intV (partV (f2 j) 1) = tt
      generalize intV (partV (f2 j) 2) = ky
      generalize intV (partV (f2 j) 3) = vl
      have nxt : ∀ nx ms mk mt my mv (n : Nat) N f p, SInv nx ms mk (lst f n) → (n : Int) ≤ h → 1 ≤ nx → nx ≤ 1 + ((j + 1 : Nat) : Int) → All PP (NX (ofN (j + 1)) nx ms mk mt my mv n N f p) :=
        fun nx ms mk mt my mv n N f p a1 a2 a3 a4 => ih (j + 1) nx ms mk mt my mv n N f p (by omega) (by omega) a1 a2 a3 a4
      have same : All PP (NX (ofN (j + 1)) nx ms mk mt my mv n N f p) := nxt _ _ _ _ _ _ _ _ _ _ hi hn hx1 (by omega)
      have add : ¬ h ≤ ofN n → All PP (NX (ofN (j + 1)) (nx + 1) ms mk mt my mv (addN n 1) (addN n 1) (joinF f (litF (.nd 38 [.int .i64 0, .int .i64 0, .int .i64 0, .int .i64 0, .int .i64 0]) [.nd 38 [.int .i64 nx, .int .i64 1, .int .i64 tt, .int .i64 ky, .int .i64 vl]]) n) p) := fun hc => by
        have hc : (n : Int) < h := by simp only [ofN] at hc; omega
        refine nxt _ _ _ _ _ _ (n + 1) _ _ _ ?_ (by omega) (by omega) (by omega)
        rw [lst_join]
        exact hi.add hx1 rfl rfl rfl
      have mark : All PP (NX (ofN (j + 1)) (nx + 1) nx 2 tt 0 0 n N f p) := nxt _ _ _ _ _ _ _ _ _ _ (hi.marked hx1) hn (by omega) (by omega)
      have cut : ∀ n0 f1, All PP (Df33_0 (NX (ofN (j + 1)) nx ms mk mt my mv n N f p) (fun _ n23 f24 f25 => NX (ofN (j + 1)) nx ms mk mt my mv n23 N f24 f25) n0 f1 n5 s n n15 f17 f p) := fun n0 f1 =>
        allCut _ _ n0 f1 n5 s n n15 f17 f p h5 hs hs' (by omega) h15 (fun _ => same) (fun _ n' f' fp hle _ hl => nxt _ _ _ _ _ _ _ _ _ _ (by rw [hl]; exact hi.cut _) (by omega) hx1 (by omega))
      repeat' first
        | with_reducible refine ailt (fun _ => ?_) (fun _ => ?_)
        | with_reducible refine aieq (fun _ => ?_) (fun _ => ?_)
        | with_reducible refine aile (fun _ => ?_) (fun _ => ?_)
        | with_reducible refine ailen (fun _ => ?_) (fun _ => ?_)
        | with_reducible refine ainot ?_
        | fail
      all_goals first
        | exact same
        | exact add (by assumption)
        | exact mark
        | exact cut _ _
        | (refine afail ?_; simp only [addN, ofN] at *; omega)
    · have : j = n1 := by simp only [ofN] at hlt; omega
      subst this
      exact hX _ _ _ _ _ _ _ _ _ _ hi hn hx1 hx2
theorem replaysP (X0 X1 : R β) (n0 : Nat) (f1 : Nat → V) (i2 i3 : Int) (n4 : Nat) (f5 : Nat → V) (i6 : Int) (hn4 : n4 ≤ 140737488351232) (h0 : All PP X0) : All PP (Df11_0 X0 X1 n0 f1 i2 i3 n4 f5 i6) := by
  unfold Df11_0
  refine allLong _ n0 n4 f5 (by omega) (fun b => all_iteR (fun _ => h0) (fun _ => ?_))
  refine allNew _ _ n0 f1 i2 i3 (fun _ => h0) (fun hgood f5' n6' f12 hf12 => ?_)
  obtain ⟨g1, g2, g3, g4, g5, g6, g7⟩ := hgood
  obtain ⟨k1, k2⟩ := keep_range (m := 16) (by omega) (by omega) i6
  generalize wrapI .i64 (addI 1 (wrapI .i64 (tmodI (wrapI .u64 i6) 16))) = most at k1 k2
  obtain ⟨m, rfl⟩ : ∃ m : Nat, most = (m : Int) := ⟨most.toNat, by omega⟩
  refine lf0 _ n4 f5 n0 i2 i3 (n0 * i2.toNat) f1 hn4 g2 g4 g5 g7 rfl (fun nx ms mk mt my mv n N f p hS hn hx1 hx2 => ?_) NNo 0 1 0 0 0 0 0 0 0 _ _ (Nat.zero_le _) (by rw [NNo_eq]; unfold NN; omega) ⟨List.Pairwise.nil, fun v hv => (by cases hv), fun v hv => (by cases hv), .inl rfl⟩ (by simp; omega) (by omega) (by simp)
  have hA := hS.all (mt := mt) (my := my) (mv := mv)
  have hlen := hA.len
  rw [lst_len] at hlen
  refine lf3 _ _ m nx ms mk mt my mv n f hS (by omega) (by omega) (by omega) hx1 (by omega) (fun g h r hr => ?_) NNo 0 0 1 0 _ (by omega) (by rw [NNo_eq]; unfold NN; omega) (Int.le_refl _) hx1 ?_ (fun _ => Nat.le_refl _)
  · have hg : g ≤ 1000 := by
      have := congrArg List.length hr
      rw [lst_len] at this
      omega
    refine ainot (aieq (fun _ => ?_) (fun h' => absurd rfl h'))
    have last : ∀ (n' : Nat) (h' : Nat) (r' : Nat → V), lst r' n' = lst f n → n' ≤ g → All PP (iteR (notB false) (iteR (leN n 1073741824) (Df34_0 X1 X0 n' r' n f) (.fail)) (X1)) := fun n' h' r' hl hle =>
      ainot (aifalse (ailen (fun _ => allOps X1 X0 n' n r' f (by omega) hl h0) (fun h' => afail (by omega))))
    refine aieq (fun hz => ?_) (fun hz => ?_)
    · subst hz
      have hA0 : AInv nx 0 0 (lst f n) (withM 0 mk mt my mv (lst f n)) := ⟨hA.rise, hA.ops, hA.eta, hA.held, fun v hv hk => absurd (hA.marks v hv hk).1 (by omega), fun h' => absurd h' (by omega), hA.len⟩
      exact lf5 _ _ g r hA0 hr hg last NNo 0 false 0 0 _ (Nat.zero_le _) (by rw [NNo_eq]; unfold NN; omega) (Nat.le_refl _) rfl ⟨fun h' => (by cases h'), fun h' => absurd h'.1 (by omega)⟩
    · have hpos : 0 < ms := by
        rcases hS.mark with h' | h'
        · exact absurd h' hz
        · exact h'.1
      exact lf5 _ _ g r hA hr hg last NNo 0 true 0 0 _ (Nat.zero_le _) (by rw [NNo_eq]; unfold NN; omega) (Nat.le_refl _) rfl ⟨fun _ => ⟨hpos, fun i hi => absurd hi (by omega)⟩, fun _ => rfl⟩
  · have : (withM ms mk mt my mv (lst f n)).filter (fun v => decide (sq v < 1)) = [] := List.filter_eq_nil_iff.2 fun v hv => by have := (hA.ops v hv).1; simp; omega
    rw [this]; rfl
end
end Go.Proofs.Ytbplfgghcclgkaa
