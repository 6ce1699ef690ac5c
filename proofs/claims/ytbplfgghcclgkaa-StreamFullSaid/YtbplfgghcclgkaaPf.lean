/- StreamFull, as a matter of values: the loops' rounds by what they keep. No conditions. -/
import Derived.Test.YtbplfgghcclgkaaPs
open Go Go.VM
namespace Go.Proofs.Ytbplfgghcclgkaa
section
variable {β : Type} {PP : β → Prop}
theorem lfA (X0 : Int → Int → Int → Int → Bool → Int → Nat → Nat → (Nat → V) → R β) (X1 : Int → Int → Int → Bool → Int → Nat → Nat → (Nat → V) → R β) (X2 : Int → Int → Int → Bool → Int → Nat → Nat → (Nat → V) → R β) (X3 : Int → Int → Bool → Int → Nat → Nat → (Nat → V) → R β)
    (h : Int) (m : Nat) (f : Nat → V) (i13 : Int) (hm : m ≤ 200) (h1 : 1 ≤ h) (h2 : h ≤ 64) (hX : ∀ (n : Nat) a b c d g, (n : Int) ≤ h → All PP (X3 (ofN n) a b c n d g)) :
    ∀ (k j n : Nat) (i10 : Int) (n20 : Nat) (g : Nat → V), j ≤ m → m - j < k → (n : Int) ≤ h → All PP (Lf9_0_0 X0 X1 X2 X3 h m f (ofN m) h 0 i13 k (ofN n) (ofN j) i10 n n20 g)
  | 0, j, n, i10, n20, g, _, hk, _ => by omega
  | k + 1, j, n, i10, n20, g, hj, hk, hn => by
    have ih := lfA X0 X1 X2 X3 h m f i13 hm h1 h2 hX k
    show All PP (Rd9_0_0 (Lf9_0_0 X0 X1 X2 X3 h m f (ofN m) h 0 i13 k) X0 X1 X2 X3 h m f (ofN m) h 0 i13 (ofN n) (ofN j) i10 n n20 g)
    unfold Rd9_0_0
    repeat' first
      | refine ailt (fun _ => ?_) (fun _ => ?_)
      | refine aile (fun _ => ?_) (fun _ => ?_)
      | refine aieq (fun _ => ?_) (fun _ => ?_)
      | refine ailen (fun _ => ?_) (fun _ => ?_)
      | refine ainot ?_
      | refine aiand ?_
      | refine aieqb ?_
      | refine aifalse ?_
    all_goals first
      | (exfalso; simp only [ofN, natI, addN] at *; omega)
      | exact hX _ _ _ _ _ _ hn
      | (rw [wrap_succ (by omega)]; refine ih _ _ _ _ _ ?_ ?_ ?_ <;> (simp only [ofN] at *) <;> omega)
      | (rw [wrap_succ (by omega), wrap_succ (i := j) (by omega)]; refine ih _ _ _ _ _ ?_ ?_ ?_ <;> (simp only [ofN, addN] at *) <;> omega)
theorem lfC (X0 : Int → Int → Bool → Int → Nat → Nat → (Nat → V) → R β) (X1 : Int → Bool → Int → Nat → Nat → (Nat → V) → R β) (X2 : Int → Bool → Int → Nat → Nat → (Nat → V) → R β)
    (h : Int) (q n : Nat) (h2 : h ≤ 64) (hq : q ≤ 64) (hn : (n : Int) ≤ h) (hX : ∀ a b c d g, All PP (X2 a b c n d g)) :
    ∀ (k j p : Nat) (i7 : Int) (n17 : Nat) (g : Nat → V), j ≤ q → p + (q - j) = n → q - j < k → All PP (Lf9_2_0 X0 X1 X2 (ofN q) h 0 0 k (ofN j) i7 p n17 g)
  | 0, j, p, i7, n17, g, _, _, hk => by omega
  | k + 1, j, p, i7, n17, g, hj, hp, hk => by
    have ih := lfC X0 X1 X2 h q n h2 hq hn hX k
    show All PP (Rd9_2_0 (Lf9_2_0 X0 X1 X2 (ofN q) h 0 0 k) X0 X1 X2 (ofN q) h 0 0 (ofN j) i7 p n17 g)
    unfold Rd9_2_0
    repeat' first
      | refine ailt (fun _ => ?_) (fun _ => ?_)
      | refine aile (fun _ => ?_) (fun _ => ?_)
      | refine aieq (fun _ => ?_) (fun _ => ?_)
      | refine ailen (fun _ => ?_) (fun _ => ?_)
      | refine ainot ?_
      | refine aiand ?_
      | refine aieqb ?_
      | refine aifalse ?_
    all_goals first
      | (exfalso; simp only [ofN, natI, addN] at *; omega)
      | (rw [wrap_succ (by omega)]; refine ih _ _ _ _ _ ?_ ?_ ?_ <;> (simp only [ofN, addN] at *) <;> omega)
      | (have e : p = n := by simp only [ofN] at *; omega
         rw [e]; exact hX _ _ _ _ _)
theorem fullP (X0 X1 : R β) (X2 : Bool → R β) (i0 : Int) (n1 : Nat) (f2 : Nat → V) (i3 : Int) (h0 : All PP X0) (h2 : All PP (X2 true)) : All PP (Df9_0 X0 X1 X2 i0 n1 f2 i3) := by
  unfold Df9_0
  have hh := keep_range (m := 64) (by omega) (by omega) i0
  generalize wrapI .i64 (addI 1 (wrapI .i64 (tmodI (wrapI .u64 i0) 64))) = h at hh ⊢
  refine ailt (fun _ => h0) (fun h200 => ?_)
  have h200 : n1 ≤ 200 := by simp only [ofN] at h200; omega
  have hres : ∀ j, j < 1 → 1 ≤ intV (litF (.int .i64 0) [.int .i64 10] j) := fun j hj => by
    have : j = 0 := by omega
    rw [this]; decide
  refine allNew _ _ 1 _ 1 h (fun hb => absurd ⟨Nat.le_refl 1, by omega, hres, by omega, by omega, hh.1, hh.2⟩ hb) (fun _ f5 n6 f7 _ => ?_)
  refine lfA _ _ _ _ h n1 f2 0 h200 hh.1 hh.2 (fun n a b c d g hn => ?_) NNo 0 0 1 0 f5 (Nat.zero_le _) (by rw [NNo_eq]; unfold NN; omega) (by simp; omega)
  refine allCut _ _ 1 _ 1 1 n (1 * (1 : Int).toNat) _ g f7 (by omega) (by omega) (by omega) (by omega) rfl (fun hne => absurd rfl hne) (fun _ n' f fp hle _ _ => ?_)
  refine ailt (fun h' => False.elim (by simp only [ofN] at h'; omega)) (fun _ => ailt (fun h' => False.elim (by simp only [ofN] at h'; omega)) (fun _ => ?_))
  refine lfC _ _ _ h (n - n') n hh.2 (by omega) hn (fun a b c d g => ?_) NNo 0 n' c d f (Nat.zero_le _) (by omega) (by rw [NNo_eq]; unfold NN; omega)
  have hq : eqI (ofN n) (ofN n) = true := eqI_refl _
  have h1 : n ≤ 1073741824 := by omega
  rw [hq]
  refine aile (fun h' => aieqb (aieq (fun _ => aieq (fun _ => ailen (fun _ => h2) (fun h => absurd h1 h)) (fun hne => absurd ?_ hne)) (fun hne => absurd rfl hne))) (fun h' => aieqb (aifalse (aieq (fun he => absurd ?_ h') (fun _ => ailen (fun _ => h2) (fun h => absurd h1 h)))))
  · simp only [ofN] at *; omega
  · simp only [ofN] at *; omega
end
end Go.Proofs.Ytbplfgghcclgkaa
