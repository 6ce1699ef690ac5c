/- A round shows what the document's has. No conditions. -/
import Derived.Test.YtcafnbjmebichaaP3f
open Go Go.VM
namespace Go.Proofs.Ytcafnbjmebichaa
set_option maxRecDepth 100000
section
variable {β : Type} {PP : β → Prop}
theorem allOver47 (X0 : (Nat → V) → R β) (n : Nat) (hn : n ≤ 1000000) (h : ∀ f, All PP (X0 f)) : ∀ (k i : Nat) (f : Nat → V), i ≤ n → n - i < k → All PP (Lf47_0_0 X0 n (ofN n) k (ofN i) f)
  | 0, i, f, _, hk => by omega
  | k + 1, i, f, hi, hk => by
    have ih := allOver47 X0 n hn h k
    show All PP (Rd47_0_0 (Lf47_0_0 X0 n (ofN n) k) X0 n (ofN n) (ofN i) f)
    unfold Rd47_0_0
    refine ailt (fun hl => ?_) (fun _ => h f)
    have hlt : i < n := by simp only [ofN] at hl; omega
    refine aiand (aile (fun _ => ailt (fun _ => ?_) (fun h' => absurd hl h')) (fun h' => absurd (by simp only [ofN]; omega) h'))
    rw [wrap_succ (by omega)]
    exact ih (i + 1) _ (by omega) (by omega)
/-- errors alike: none, or a number -/
def likeE (b : Bool) (t : Nat) (i e : Int) : Prop := (b = false ∧ e = 0) ∨ (b = true ∧ t = 48 ∧ i = e ∧ e ≠ 0)
theorem allSame11 (X0 : R β) (X1 : Bool → R β) (r0 r1 r2 st : Int) (n8 : Nat) (b : Bool) (t : Nat) (i : Int) (m0 m1 m2 : Int) (n28 : Nat) (f29 : Nat → V) (e : Int) (f43 : Nat → V) (hn : n8 ≤ 1000000) (hs : sameI n8 f43 n28 f29) (he : st = 3 → likeE b t i e) (h : All PP (X1 true)) :
    All PP (Df47_0 X0 X1 r0 r1 r2 st n8 b t i m0 m1 m2 r0 r1 r2 st n28 f29 e m0 m1 m2 f43) := by
  unfold Df47_0
  have tail : All PP (iteR (leN n8 1073741824) (Df25_0 X0 (Lf47_0_0 (fun _ => iteR (eqI st st) (iteR (andB (eqI r0 r0) (andB (eqI r1 r1) (eqI r2 r2))) (X1 (andB (eqI m0 m0) (andB (eqI m1 m1) (eqI m2 m2)))) X0) X0) n8 (ofN n8) NNo 0 f43) n8 f43 n28 f29) .fail) := by
    refine ailen (fun _ => allInts _ _ _ _ _ _ (by omega) (fun h' => absurd hs h') (fun _ => ?_)) (fun h' => absurd (by omega) h')
    refine allOver47 _ n8 hn (fun _ => ?_) NNo 0 f43 (Nat.zero_le _) (by rw [NNo_eq]; unfold NN; omega)
    rw [eqI_self, eqI_self, eqI_self, eqI_self, eqI_self, eqI_self, eqI_self]
    exact h
  refine ainot (aieq (fun h3 => ?_) (fun h3 => ainot (aieq (fun h' => absurd h' h3) (fun _ => aieq (fun h' => absurd h' h3) (fun _ => tail)))))
  have he := he h3
  refine ailen (fun _ => ?_) (fun h' => absurd (by omega) h')
  have hb : Nat.beq t t = true := Nat.beq_refl t
  have hbb : eqB b b = true := by cases b <;> rfl
  rw [hb, hbb, eqI_self]
  refine aiand (aiand (aitrue (aiand (aitrue (aitrue (aitrue ?_))))))
  refine ainot (aieq (fun _ => aieq (fun _ => allInts _ _ _ _ _ _ (by omega) (fun h' => absurd hs h') (fun _ => ?_)) (fun h' => absurd h3 h')) (fun h' => absurd h3 h'))
  rcases he with ⟨rfl, rfl⟩ | ⟨rfl, rfl, rfl, hne⟩
  · exact ainot (aior (aifalse (aifalse (ainot (aieq (fun _ => tail) (fun h' => absurd rfl h'))))))
  · exact ainot (aior (aitrue (aitrue (ainot (aitrue (aieq (fun h' => absurd h' hne) (fun _ => ainot (aieq (fun _ => tail) (fun h' => absurd rfl h')))))))))
/-- behind a call: the same answer, and what is shown -/
theorem allJ32 (X0 X1 : R β) (b0 b1 : Bool) (r0 r1 r2 st : Int) (n8 : Nat) (b : Bool) (t : Nat) (i : Int) (m0 m1 m2 : Int) (n28 : Nat) (f29 : Nat → V) (e : Int) (f43 : Nat → V) (hb : b0 = b1) (hn : n8 ≤ 1000000) (hs : sameI n8 f43 n28 f29) (he : st = 3 → likeE b t i e) (h : All PP X1) :
    All PP (Jf10_32_0 X0 X1 b0 b1 r0 r1 r2 st n8 b t i m0 m1 m2 r0 r1 r2 st n28 f29 e m0 m1 m2 f43) := by
  unfold Jf10_32_0
  subst hb
  have hbb : eqB b0 b0 = true := by cases b0 <;> rfl
  rw [hbb]
  refine ainot (aitrue (allSame11 _ _ r0 r1 r2 st n8 b t i m0 m1 m2 n28 f29 e f43 hn hs he ?_))
  exact ainot (aitrue h)
theorem allOver3 (X0 : (Nat → V) → R β) (n : Nat) (hn : n ≤ 1000000) (h : ∀ f, All PP (X0 f)) : ∀ (k i : Nat) (f : Nat → V), i ≤ n → n - i < k → All PP (Lf10_3_0 X0 (ofN n) n k (ofN i) f)
  | 0, i, f, _, hk => by omega
  | k + 1, i, f, hi, hk => by
    have ih := allOver3 X0 n hn h k
    show All PP (Rd10_3_0 (Lf10_3_0 X0 (ofN n) n k) X0 (ofN n) n (ofN i) f)
    unfold Rd10_3_0
    refine ailt (fun hl => ?_) (fun _ => h f)
    have hlt : i < n := by simp only [ofN] at hl; omega
    refine aiand (aile (fun _ => ailt (fun _ => ?_) (fun h' => absurd hl h')) (fun h' => absurd (by simp only [ofN]; omega) h'))
    rw [wrap_succ (by omega)]
    exact ih (i + 1) _ (by omega) (by omega)
/-- .., and what was handed over is unchanged, then overwritten -/
theorem allJ25 (X0 X1 X2 : R β) (b0 b1 : Bool) (r0 r1 r2 st : Int) (n8 : Nat) (b : Bool) (t : Nat) (i : Int) (m0 m1 m2 : Int) (n28 : Nat) (f29 : Nat → V) (e : Int) (n58 : Nat) (f59 : Nat → V) (f43 f84 : Nat → V) (hb : b0 = b1) (hn : n8 ≤ 1000000) (hn58 : n58 ≤ 1000000) (hs : sameI n8 f43 n28 f29) (he : st = 3 → likeE b t i e) (hx : ∀ j, j < n58 → intV (f84 j) = intV (f59 j)) (h : All PP X2) :
    All PP (Jf10_25_0 X0 X1 X2 b0 b1 r0 r1 r2 st n8 b t i m0 m1 m2 r0 r1 r2 st n28 f29 e m0 m1 m2 n58 f59 n58 f43 f84) := by
  unfold Jf10_25_0
  refine allInts _ _ _ _ _ _ (by omega) (fun h' => absurd ⟨rfl, hx⟩ h') (fun _ => ?_)
  exact allOver3 _ n58 hn58 (fun _ => allJ32 _ _ b0 b1 r0 r1 r2 st n8 b t i m0 m1 m2 n28 f29 e f43 hb hn hs he h) NNo 0 f84 (Nat.zero_le _) (by rw [NNo_eq]; unfold NN; omega)
end
end Go.Proofs.Ytcafnbjmebichaa
