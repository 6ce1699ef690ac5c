/- StreamRises, as a matter of values. No conditions. -/
import Derived.Test.YtbplfgghcclgkaaPl10
open Go Go.VM
namespace Go.Proofs.Ytbplfgghcclgkaa
section
variable {β : Type} {PP : β → Prop}
/-- what the law knows of the last mark -/
def invM (mk : Int) (b : Bool) (sq tm : Int) : Prop := (b = true ∧ 0 < sq ∧ mk = tm) ∨ (b = false ∧ sq = 0)
theorem all32 {X0 X1 : R β} {mk : Int} {b : Bool} {sq tm : Int} (h : invM mk b sq tm) (h1 : All PP X1) : All PP (Jf10_32_0 X0 X1 mk b sq tm) := by
  unfold Jf10_32_0
  rcases h with ⟨rfl, hs, rfl⟩ | ⟨rfl, rfl⟩
  · refine aieq (fun h => absurd h (by omega)) (fun _ => ainot (aieqb (aitrue (aitrue (aitrue (ainot (aieq (fun _ => h1) (fun h => absurd rfl h))))))))
  · refine aieq (fun _ => ainot (aieqb (aifalse (aifalse (aifalse h1))))) (fun h => absurd rfl h)
theorem all30 {X0 X1 X2 : R β} {mk : Int} {b : Bool} {sq tm k t : Int} (h1 : k = 1 → invM t true sq tm ∧ All PP X1) (h2 : k ≠ 1 → invM mk b sq tm ∧ All PP X2) : All PP (Jf10_30_0 X0 X1 X2 mk b sq tm k t) := by
  unfold Jf10_30_0
  exact aieq (fun h => all32 (h1 h).1 (h1 h).2) (fun h => all32 (h2 h).1 (h2 h).2)
theorem wrap_ne {i : Int} (h1 : 1 ≤ i) (h2 : i ≤ 9223372036854775807) : i ≠ wrapI .i64 (addI i 1) := by
  rw [wrap_i64]; simp only [addI]; omega
/-- an operation that was made is put -/
theorem all28 (X0 : Int → Int → Int → Int → Int → Int → R β) (X1 : Int → Int → Int → Int → Int → Int → Nat → (Nat → V) → R β) (X2 X3 X4 : Int → Int → Int → Int → Int → Int → Nat → Nat → (Nat → V) → R β) (X5 : Int → Nat → (Nat → V) → R β)
    {mk : Int} {b : Bool} {nx sq kd tm ky vl : Int} {n : Nat} {k t kd' tm' ky' vl' : Int} {m : Nat} {f : Nat → V} (hi : invM mk b sq tm) (h1 : 1 ≤ nx) (h2 : nx ≤ 9223372036854775807) (hn : n ≤ 64) (he : ¬ (0 < sq ∧ tm' < tm))
    (hk : (kd' = 1 ∧ k ≠ 1) ∨ (kd' = 2 ∧ ky' = 0 ∧ vl' = 0 ∧ k = 1 ∧ t = tm'))
    (h3 : k = 1 → All PP (X3 (wrapI .i64 (addI nx 1)) nx kd' tm' ky' vl' n m f)) (h4 : k ≠ 1 → ∀ g, All PP (X4 (wrapI .i64 (addI nx 1)) sq kd tm ky vl (n + 1) (n + 1) g)) :
    All PP (Jf10_28_0 X0 X1 X2 X3 X4 X5 mk b nx nx sq kd tm ky vl n k t nx kd' tm' ky' vl' m f) := by
  have hw := wrap_ne h1 h2
  have s3 : k = 1 → invM t true nx tm' := fun h => by
    rcases hk with hk | hk
    · exact absurd h hk.2
    · exact .inl ⟨rfl, by omega, hk.2.2.2.2⟩
  have ha : addN n 1 ≤ 1073741824 := by simp only [addN]; omega
  unfold Jf10_28_0
  refine ainot (aieq (fun _ => ?_) (fun h => absurd rfl h))
  refine ainot (aieq (fun _ => ?_) (fun h => absurd rfl h))
  rcases hk with ⟨rfl, hk⟩ | ⟨rfl, rfl, rfl, hk, rfl⟩
  · refine aieq (fun _ => ?_) (fun h => absurd rfl h)
    have fin : ∀ X2' X3' g, All PP (Jf10_30_0 X2' X3' (X4 (wrapI .i64 (addI nx 1)) sq kd tm ky vl (addN n 1) (addN n 1) g) mk b sq tm k t) := fun X2' X3' g => all30 (fun h => absurd h hk) (fun _ => ⟨hi, h4 hk g⟩)
    refine ailt (fun hs => ailt (fun ht => absurd ⟨hs, ht⟩ he) (fun _ => ?_)) (fun _ => ?_)
    · exact ailen (fun _ => ainot (aieq (fun _ => ainot (aieq (fun h => absurd h hw) (fun _ => fin _ _ _))) (fun h => absurd rfl h))) (fun h => absurd ha h)
    · exact ailen (fun _ => ainot (aieq (fun _ => ainot (aieq (fun h => absurd h hw) (fun _ => fin _ _ _))) (fun h => absurd rfl h))) (fun h => absurd ha h)
  · refine aieq (fun h => absurd h (by omega)) (fun _ => aieq (fun _ => ?_) (fun h => absurd rfl h))
    have fin : ∀ X2' X4', All PP (Jf10_30_0 X2' (X3 (wrapI .i64 (addI nx 1)) nx 2 t 0 0 n m f) X4' mk b nx t k t) := fun X2' X4' => all30 (fun h => ⟨s3 h, h3 h⟩) (fun h => absurd hk h)
    refine ailt (fun hs => ailt (fun ht => absurd ⟨hs, ht⟩ he) (fun _ => ?_)) (fun _ => ?_)
    · exact ainot (aieq (fun _ => ainot (aieq (fun _ => ainot (aieq (fun _ => ainot (aieq (fun h => absurd h hw) (fun _ => fin _ _))) (fun h => absurd rfl h))) (fun h => absurd rfl h))) (fun h => absurd rfl h))
    · exact ainot (aieq (fun _ => ainot (aieq (fun _ => ainot (aieq (fun _ => ainot (aieq (fun h => absurd h hw) (fun _ => fin _ _))) (fun h => absurd rfl h))) (fun h => absurd rfl h))) (fun h => absurd rfl h))
theorem all25 (X0 : Int → Int → Int → Int → Int → Int → R β) (X1 : R β) (X2 : Int → Int → Int → Int → Int → Int → Nat → (Nat → V) → R β) (X3 X4 X5 : Int → Int → Int → Int → Int → Int → Nat → Nat → (Nat → V) → R β) (X6 : Int → Nat → (Nat → V) → R β)
    {mk : Int} {b e : Bool} {nx sq kd tm ky vl : Int} {n : Nat} {k t sq' kd' tm' ky' vl' : Int} {m : Nat} {f : Nat → V} (h1 : e = true → All PP X1)
    (h0 : e = false → sq' = nx ∧ invM mk b sq tm ∧ 1 ≤ nx ∧ nx ≤ 9223372036854775807 ∧ n ≤ 64 ∧ ¬ (0 < sq ∧ tm' < tm) ∧ ((kd' = 1 ∧ k ≠ 1) ∨ (kd' = 2 ∧ ky' = 0 ∧ vl' = 0 ∧ k = 1 ∧ t = tm')) ∧
      (k = 1 → All PP (X4 (wrapI .i64 (addI nx 1)) nx kd' tm' ky' vl' n m f)) ∧ (k ≠ 1 → ∀ g, All PP (X5 (wrapI .i64 (addI nx 1)) sq kd tm ky vl (n + 1) (n + 1) g))) :
    All PP (Jf10_25_0 X0 X1 X2 X3 X4 X5 X6 mk b nx e nx sq kd tm ky vl n k t sq' kd' tm' ky' vl' m f) := by
  unfold Jf10_25_0
  cases e with
  | true => exact ainot (ainot (aior (aitrue (ainot (aieq (fun _ => h1 rfl) (fun h => absurd rfl h))))))
  | false =>
    obtain ⟨rfl, a1, a2, a3, a4, a5, a6, a7, a8⟩ := h0 rfl
    exact ainot (ainot (aior (aifalse (aifalse (all28 _ _ _ _ _ _ a1 a2 a3 a4 a5 a6 a7 a8)))))
theorem lfR (X0 : Int → Int → Int → Int → Int → Int → Nat → Nat → (Nat → V) → (Nat → V) → Int → Int → Int → Int → Int → Int → Int → Int → Int → Nat → (Nat → V) → Int → Int → Int → Int → Int → R β) (X1 X2 X3 X4 X5) (n2 : Nat) (f3 : Nat → V) (n12 : Nat) (s h : Int) (n22 : Nat) (f24 : Nat → V)
    (hn2 : n2 ≤ 9223372036854775807) (h12 : n12 ≤ 3) (hs : 1 ≤ s) (hs' : s ≤ 4) (hh : h ≤ 64) (h22 : n22 = n12 * s.toNat)
    (hX : ∀ a b c d e g (n : Nat) m f p, (n : Int) ≤ h → All PP (X5 a b c d e g n m f p : R β)) :
    ∀ (k : Nat) (mk : Int) (b : Bool) (j : Nat) (nx sq kd tm ky vl : Int) (n m : Nat) (f p : Nat → V), j ≤ n2 → n2 - j < k → invM mk b sq tm → (n : Int) ≤ h → (j < n2 → 1 ≤ nx ∧ nx ≤ 1 + j) →
      All PP (Lf10_0_0 X0 X1 X2 X3 X4 X5 n2 f3 (ofN n2) n12 s h n22 f24 k mk b (ofN j) nx sq kd tm ky vl n m f p)
  | 0, mk, b, j, nx, sq, kd, tm, ky, vl, n, m, f, p, _, hk, _, _, _ => by omega
  | k + 1, mk, b, j, nx, sq, kd, tm, ky, vl, n, m, f, p, hj, hk, hi, hn, hx => by
    have ih := lfR X0 X1 X2 X3 X4 X5 n2 f3 n12 s h n22 f24 hn2 h12 hs hs' hh h22 hX k
    show All PP (Rd10_0_0 (Lf10_0_0 X0 X1 X2 X3 X4 X5 n2 f3 (ofN n2) n12 s h n22 f24 k) X0 X1 X2 X3 X4 X5 n2 f3 (ofN n2) n12 s h n22 f24 mk b (ofN j) nx sq kd tm ky vl n m f p)
    generalize Lf10_0_0 X0 X1 X2 X3 X4 X5 n2 f3 (ofN n2) n12 s h n22 f24 k = NX at ih ⊢
    unfold Rd10_0_0
    refine ailt (fun hlt => ?_) (fun _ => hX _ _ _ _ _ _ _ _ _ _ hn)
    have hlt : j < n2 := by simp only [ofN] at hlt; omega
    obtain ⟨hx1, hx2⟩ := hx hlt
    rw [wrap_succ' (i := j) (by omega), natI_ofN]
    have nxt : ∀ mk b nx sq kd tm ky vl (n : Nat) m f p, invM mk b sq tm → (n : Int) ≤ h → (j + 1 < n2 → 1 ≤ nx ∧ nx ≤ 1 + ((j + 1 : Nat) : Int)) → All PP (NX mk b (ofN (j + 1)) nx sq kd tm ky vl n m f p) :=
      fun mk b nx sq kd tm ky vl n m f p a1 a2 a3 => ih mk b (j + 1) nx sq kd tm ky vl n m f p (by omega) (by omega) a1 a2 a3
    have same : ∀ (n : Nat) m f p, (n : Int) ≤ h → All PP (NX mk b (ofN (j + 1)) nx sq kd tm ky vl n m f p) := fun n m f p a2 => nxt _ _ _ _ _ _ _ _ _ _ _ _ hi a2 (fun _ => ⟨hx1, by omega⟩)
    have hw : j + 1 < n2 → 1 ≤ wrapI .i64 (addI nx 1) ∧ wrapI .i64 (addI nx 1) ≤ 1 + ((j + 1 : Nat) : Int) := fun h' => by rw [wrap_add (by omega) (by omega)]; omega
    have b0 : leI 0 (ofN j) = true := leI_zero j
    have b1 : ltI (ofN j) (ofN n2) = true := by rw [ltI_ofN]; simpa using hlt
    rw [b0, b1]
    refine aiand (aitrue (aitrue ?_))
    generalize hkk : intV (partV (f3 j) 0) = kk
    generalize intV (partV (f3 j) 1) = tt
    have he0 : ∀ (tm' : Int), sq = 0 → ¬ (0 < sq ∧ tm' < tm) := fun _ h0 h' => by omega
    have hn1 : ¬ h ≤ ofN n → ((n + 1 : Nat) : Int) ≤ h := fun h' => by simp only [ofN] at h'; omega
    rcases hi with ⟨rfl, hsq, rfl⟩ | ⟨rfl, rfl⟩
    · have hi : invM mk true sq mk := .inl ⟨rfl, hsq, rfl⟩
      repeat' first
        | with_reducible refine aitrue ?_
        | with_reducible refine aifalse ?_
        | with_reducible refine ailt (fun _ => ?_) (fun h => absurd (by assumption) h)
        | with_reducible refine ailt (fun h => absurd h (by assumption)) (fun _ => ?_)
        | with_reducible refine ailt (fun _ => ?_) (fun _ => ?_)
        | with_reducible refine aieq (fun _ => ?_) (fun h => absurd (by first | rfl | assumption) h)
        | with_reducible refine aieq (fun h => absurd h (by first | decide | assumption)) (fun _ => ?_)
        | with_reducible refine aieq (fun _ => ?_) (fun _ => ?_)
        | with_reducible refine aile (fun _ => ?_) (fun _ => ?_)
        | with_reducible refine ainot ?_
        | with_reducible refine aiand ?_
        | with_reducible refine aieqb ?_
        | with_reducible exact all25 _ _ _ _ _ _ _ (fun _ => same _ _ _ _ hn) (fun h => Bool.noConfusion h)
        | fail
      all_goals first
        | exact same _ _ _ _ hn
        | (refine all25 _ _ _ _ _ _ _ (fun h => Bool.noConfusion h) (fun _ => ⟨rfl, hi, hx1, by omega, by omega, fun h => by omega, .inl ⟨rfl, by omega⟩, fun h => absurd h (by omega), fun _ g => ?_⟩)
           exact nxt _ _ _ _ _ _ _ _ _ _ _ _ hi (hn1 (by assumption)) hw)
        | (refine all25 _ _ _ _ _ _ _ (fun h => Bool.noConfusion h) (fun _ => ⟨rfl, hi, hx1, by omega, by omega, fun h => by omega, .inr ⟨rfl, rfl, rfl, by omega, rfl⟩, fun _ => ?_, fun h => absurd (by omega) h⟩)
           exact nxt _ _ _ _ _ _ _ _ _ _ _ _ (.inl ⟨rfl, by omega, rfl⟩) hn hw)
        | exact allCut _ _ _ _ _ _ _ _ _ _ _ h12 hs hs' (by omega) h22 (fun _ => all25 _ _ _ _ _ _ _ (fun _ => same _ _ _ _ hn) (fun h => Bool.noConfusion h)) (fun _ n' _ _ hle _ _ => all25 _ _ _ _ _ _ _ (fun _ => same _ _ _ _ (by omega)) (fun h => Bool.noConfusion h))
        | (exfalso; omega)
        | skip
    · have hi : invM mk false 0 tm := .inr ⟨rfl, rfl⟩
      have hz : ¬ (0 : Int) < 0 := by omega
      repeat' first
        | with_reducible refine aitrue ?_
        | with_reducible refine aifalse ?_
        | with_reducible refine ailt (fun _ => ?_) (fun h => absurd (by assumption) h)
        | with_reducible refine ailt (fun h => absurd h (by assumption)) (fun _ => ?_)
        | with_reducible refine ailt (fun _ => ?_) (fun _ => ?_)
        | with_reducible refine aieq (fun _ => ?_) (fun h => absurd (by first | rfl | assumption) h)
        | with_reducible refine aieq (fun h => absurd h (by first | decide | assumption)) (fun _ => ?_)
        | with_reducible refine aieq (fun _ => ?_) (fun _ => ?_)
        | with_reducible refine aile (fun _ => ?_) (fun _ => ?_)
        | with_reducible refine ainot ?_
        | with_reducible refine aiand ?_
        | with_reducible refine aieqb ?_
        | with_reducible exact all25 _ _ _ _ _ _ _ (fun _ => same _ _ _ _ hn) (fun h => Bool.noConfusion h)
        | fail
      all_goals first
        | exact same _ _ _ _ hn
        | (refine all25 _ _ _ _ _ _ _ (fun h => Bool.noConfusion h) (fun _ => ⟨rfl, hi, hx1, by omega, by omega, fun h => by omega, .inl ⟨rfl, by omega⟩, fun h => absurd h (by omega), fun _ g => ?_⟩)
           exact nxt _ _ _ _ _ _ _ _ _ _ _ _ hi (hn1 (by assumption)) hw)
        | (refine all25 _ _ _ _ _ _ _ (fun h => Bool.noConfusion h) (fun _ => ⟨rfl, hi, hx1, by omega, by omega, fun h => by omega, .inr ⟨rfl, rfl, rfl, by omega, rfl⟩, fun _ => ?_, fun h => absurd (by omega) h⟩)
           exact nxt _ _ _ _ _ _ _ _ _ _ _ _ (.inl ⟨rfl, by omega, rfl⟩) hn hw)
        | exact allCut _ _ _ _ _ _ _ _ _ _ _ h12 hs hs' (by omega) h22 (fun _ => all25 _ _ _ _ _ _ _ (fun _ => same _ _ _ _ hn) (fun h => Bool.noConfusion h)) (fun _ n' _ _ hle _ _ => all25 _ _ _ _ _ _ _ (fun _ => same _ _ _ _ (by omega)) (fun h => Bool.noConfusion h))
        | (exfalso; omega)
        | skip
theorem risesP (X0 X1 : R β) (X2 : Bool → R β) (n0 : Nat) (f1 : Nat → V) (i2 i3 : Int) (n4 : Nat) (f5 : Nat → V) (hn4 : n4 ≤ 9223372036854775807) (h0 : All PP X0) (h2 : All PP (X2 true)) : All PP (Df10_0 X0 X1 X2 n0 f1 i2 i3 n4 f5) := by
  unfold Df10_0
  refine allLong _ n0 n4 f5 hn4 (fun b => all_iteR (fun _ => h0) (fun _ => ?_))
  refine allNew _ _ n0 f1 i2 i3 (fun _ => h0) (fun hgood f5' n6' f12 hf12 => ?_)
  obtain ⟨g1, g2, g3, g4, g5, g6, g7⟩ := hgood
  refine lfR _ _ _ _ _ _ n4 f5 n0 i2 i3 (n0 * i2.toNat) f1 hn4 g2 g4 g5 g7 rfl (fun a b c d e g n m f p hn => ?_) NNo 0 false 0 1 0 0 0 0 0 0 0 _ _ (Nat.zero_le _) (by rw [NNo_eq]; unfold NN; omega) (.inr ⟨rfl, rfl⟩) (by simp; omega) (fun _ => ⟨by omega, by omega⟩)
  have e : leI (ofN n) i3 = true := by rw [leI_iff]; exact hn
  refine ailen (fun _ => ?_) (fun h => afail (by omega))
  rw [e]
  exact h2
end
end Go.Proofs.Ytbplfgghcclgkaa
