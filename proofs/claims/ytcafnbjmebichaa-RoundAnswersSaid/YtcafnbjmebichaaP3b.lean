/- Values held against each other, the newest of some registers. No conditions. -/
import Derived.Test.YtcafnbjmebichaaP3a
open Go Go.VM
namespace Go.Proofs.Ytcafnbjmebichaa
set_option maxRecDepth 100000
section
variable {β : Type} {PP : β → Prop}
/-- the same numbers -/
def sameI (n : Nat) (f : Nat → V) (m : Nat) (g : Nat → V) : Prop := n = m ∧ ∀ i, i < n → intV (f i) = intV (g i)
theorem sameI.refl (n : Nat) (f : Nat → V) : sameI n f n f := ⟨rfl, fun _ _ => rfl⟩
theorem sameI.symm {n m : Nat} {f g : Nat → V} (h : sameI n f m g) : sameI m g n f := by
  obtain ⟨rfl, h⟩ := h
  exact ⟨rfl, fun i hi => (h i hi).symm⟩
theorem sameI.trans {n m k : Nat} {f g h : Nat → V} (a : sameI n f m g) (b : sameI m g k h) : sameI n f k h := by
  obtain ⟨rfl, a⟩ := a
  obtain ⟨rfl, b⟩ := b
  exact ⟨rfl, fun i hi => (a i hi).trans (b i hi)⟩
theorem allEqual (X0 X1 : R β) (n : Nat) (f : Nat → V) (m : Nat) (g : Nat → V) (hn : n ≤ 9000000000) (h0 : ¬ sameI n f m g → All PP X0) (h1 : sameI n f m g → All PP X1) : All PP (Df123_0 X0 X1 n f m g) := by
  unfold Df123_0
  refine ainot (aieq (fun e => ?_) (fun e => h0 fun s => e (by rw [s.1])))
  have e : n = m := by simp only [ofN] at e; omega
  subst e
  have main : ∀ (k i : Nat), i ≤ n → n - i < k → (∀ j, j < i → intV (f j) = intV (g j)) → All PP (Lf123_0_0 X0 X1 n f n g (ofN n) k (ofN i)) := by
    intro k
    induction k with
    | zero => intro i hi hk; omega
    | succ k ih =>
      intro i hi hk hz
      show All PP (Rd123_0_0 (Lf123_0_0 X0 X1 n f n g (ofN n) k) X0 X1 n f n g (ofN n) (ofN i))
      unfold Rd123_0_0
      refine ailt (fun hlt => ?_) (fun hge => h1 ⟨rfl, fun j hj => hz j (by simp only [ofN] at hge; omega)⟩)
      have hlt' : i < n := by simp only [ofN] at hlt; omega
      refine aiand (aile (fun _ => ailt (fun _ => ?_) (fun h => absurd hlt h)) (fun h => absurd (by simp only [ofN]; omega) h))
      refine aiand (aile (fun _ => ailt (fun _ => ?_) (fun h => absurd hlt h)) (fun h => absurd (by simp only [ofN]; omega) h))
      rw [natI_ofN', wrap_succ (by omega)]
      refine ainot (aieq (fun e => ?_) (fun e => h0 fun s => e (s.2 i hlt')))
      refine ih (i + 1) (by omega) (by omega) (fun j hj => ?_)
      by_cases e' : j = i
      · rw [e']; exact e
      · exact hz j (by omega)
  exact main NNo 0 (Nat.zero_le _) (by rw [NNo_eq]; unfold NN; omega) (fun j hj => absurd hj (by omega))
theorem allSame10 (X0 X1 : R β) (n : Nat) (f : Nat → V) (m : Nat) (g : Nat → V) (hn : n ≤ 9000000000) (h0 : ¬ sameI n f m g → All PP X0) (h1 : sameI n f m g → All PP X1) : All PP (Df119_0 X0 X1 n f m g) := by
  unfold Df119_0
  refine ainot (aieq (fun e => ?_) (fun e => h0 fun s => e (by rw [s.1])))
  have e : n = m := by simp only [ofN] at e; omega
  subst e
  have main : ∀ (k i : Nat), i ≤ n → n - i < k → (∀ j, j < i → intV (f j) = intV (g j)) → All PP (Lf119_0_0 X0 X1 n f n g k (ofN i)) := by
    intro k
    induction k with
    | zero => intro i hi hk; omega
    | succ k ih =>
      intro i hi hk hz
      show All PP (Rd119_0_0 (Lf119_0_0 X0 X1 n f n g k) X0 X1 n f n g (ofN i))
      unfold Rd119_0_0
      refine ailt (fun hlt => ?_) (fun hge => h1 ⟨rfl, fun j hj => hz j (by simp only [ofN] at hge; omega)⟩)
      have hlt' : i < n := by simp only [ofN] at hlt; omega
      refine aiand (aile (fun _ => ailt (fun _ => ?_) (fun h => absurd hlt h)) (fun h => absurd (by simp only [ofN]; omega) h))
      refine aiand (aile (fun _ => ailt (fun _ => ?_) (fun h => absurd hlt h)) (fun h => absurd (by simp only [ofN]; omega) h))
      rw [natI_ofN', wrap_succ (by omega)]
      refine ainot (aieq (fun e => ?_) (fun e => h0 fun s => e (s.2 i hlt')))
      refine ih (i + 1) (by omega) (by omega) (fun j hj => ?_)
      by_cases e' : j = i
      · rw [e']; exact e
      · exact hz j (by omega)
  exact main NNo 0 (Nat.zero_le _) (by rw [NNo_eq]; unfold NN; omega) (fun j hj => absurd hj (by omega))
theorem allInts (X0 X1 : R β) (n : Nat) (f : Nat → V) (m : Nat) (g : Nat → V) (hn : n ≤ 9000000000) (h0 : ¬ sameI n f m g → All PP X0) (h1 : sameI n f m g → All PP X1) : All PP (Df25_0 X0 X1 n f m g) := by
  unfold Df25_0
  refine ainot (aieq (fun e => ?_) (fun e => h0 fun s => e (by rw [s.1])))
  have e : n = m := by simp only [ofN] at e; omega
  subst e
  have main : ∀ (k i : Nat), i ≤ n → n - i < k → (∀ j, j < i → intV (f j) = intV (g j)) → All PP (Lf25_0_0 X0 X1 n f n g (ofN n) k (ofN i)) := by
    intro k
    induction k with
    | zero => intro i hi hk; omega
    | succ k ih =>
      intro i hi hk hz
      show All PP (Rd25_0_0 (Lf25_0_0 X0 X1 n f n g (ofN n) k) X0 X1 n f n g (ofN n) (ofN i))
      unfold Rd25_0_0
      refine ailt (fun hlt => ?_) (fun hge => h1 ⟨rfl, fun j hj => hz j (by simp only [ofN] at hge; omega)⟩)
      have hlt' : i < n := by simp only [ofN] at hlt; omega
      refine aiand (aile (fun _ => ailt (fun _ => ?_) (fun h => absurd hlt h)) (fun h => absurd (by simp only [ofN]; omega) h))
      refine aiand (aile (fun _ => ailt (fun _ => ?_) (fun h => absurd hlt h)) (fun h => absurd (by simp only [ofN]; omega) h))
      rw [natI_ofN', wrap_succ (by omega)]
      refine ainot (aieq (fun e => ?_) (fun e => h0 fun s => e (s.2 i hlt')))
      refine ih (i + 1) (by omega) (by omega) (fun j hj => ?_)
      by_cases e' : j = i
      · rw [e']; exact e
      · exact hz j (by omega)
  exact main NNo 0 (Nat.zero_le _) (by rw [NNo_eq]; unfold NN; omega) (fun j hj => absurd hj (by omega))
/-- what was accepted -/
def acc (v : V) (k : Nat) : Int := intV (partV (partV v 1) k)
/-- the newest of n registers: its ballot, its value -/
structure Best where
  a : Int
  b : Int
  c : Int
  n : Nat
  f : Nat → V
def newR (f : Nat → V) : Nat → Best
  | 0 => ⟨0, 0, 0, 0, constF .junk⟩
  | n + 1 => match lessB (newR f n).a (newR f n).b (newR f n).c (acc (f n) 0) (acc (f n) 1) (acc (f n) 2) with
    | true => ⟨acc (f n) 0, acc (f n) 1, acc (f n) 2, viewN (partV (f n) 2), viewF (partV (f n) 2)⟩
    | false => newR f n
theorem newR_step {f : Nat → V} {n : Nat} : (lessB (newR f n).a (newR f n).b (newR f n).c (acc (f n) 0) (acc (f n) 1) (acc (f n) 2) = true ∧ newR f (n + 1) = ⟨acc (f n) 0, acc (f n) 1, acc (f n) 2, viewN (partV (f n) 2), viewF (partV (f n) 2)⟩) ∨ (lessB (newR f n).a (newR f n).b (newR f n).c (acc (f n) 0) (acc (f n) 1) (acc (f n) 2) = false ∧ newR f (n + 1) = newR f n) := by
  cases h : lessB (newR f n).a (newR f n).b (newR f n).c (acc (f n) 0) (acc (f n) 1) (acc (f n) 2) with
  | true => exact .inl ⟨rfl, by show (match lessB _ _ _ _ _ _ with | true => _ | false => _) = _; rw [h]⟩
  | false => exact .inr ⟨rfl, by show (match lessB _ _ _ _ _ _ with | true => _ | false => _) = _; rw [h]⟩
/-- two registers hold the same -/
def likeR (v w : V) : Prop := acc v 0 = acc w 0 ∧ acc v 1 = acc w 1 ∧ acc v 2 = acc w 2 ∧ sameI (viewN (partV v 2)) (viewF (partV v 2)) (viewN (partV w 2)) (viewF (partV w 2))
theorem newR_like {f g : Nat → V} : ∀ n, (∀ i, i < n → likeR (f i) (g i)) → (newR f n).a = (newR g n).a ∧ (newR f n).b = (newR g n).b ∧ (newR f n).c = (newR g n).c ∧ sameI (newR f n).n (newR f n).f (newR g n).n (newR g n).f
  | 0, _ => ⟨rfl, rfl, rfl, sameI.refl _ _⟩
  | n + 1, h => by
    obtain ⟨a, b, c, d⟩ := newR_like n (fun i hi => h i (by omega))
    obtain ⟨p, q, r, s⟩ := h n (by omega)
    rcases newR_step (f := f) (n := n) with ⟨h1, e1⟩ | ⟨h1, e1⟩ <;> rcases newR_step (f := g) (n := n) with ⟨h2, e2⟩ | ⟨h2, e2⟩
    · rw [e1, e2]; exact ⟨p, q, r, s⟩
    · rw [a, b, c, p, q, r, h2] at h1; cases h1
    · rw [a, b, c, p, q, r, h2] at h1; cases h1
    · rw [e1, e2]; exact ⟨a, b, c, d⟩
theorem newR_len {f : Nat → V} {m : Nat} : ∀ n, (∀ i, i < n → viewN (partV (f i) 2) ≤ m) → (newR f n).n ≤ m
  | 0, _ => Nat.zero_le _
  | n + 1, h => by
    rcases newR_step (f := f) (n := n) with ⟨_, e⟩ | ⟨_, e⟩
    · rw [e]; exact h n (by omega)
    · rw [e]; exact newR_len n (fun i hi => h i (by omega))
theorem allNewest (X0 : Nat → (Nat → V) → R β) (n : Nat) (f : Nat → V) (hn : n ≤ 1000) (hl : (newR f n).n ≤ 1073741824) (h : All PP (X0 (newR f n).n (newR f n).f)) : All PP (Df54_0 X0 n f) := by
  unfold Df54_0
  have main : ∀ (k i : Nat) (p q r : Int), i ≤ n → n - i < k → All PP (Lf54_0_0 (fun _ _ _ _ _ _ n8 f9 => iteR (leN n8 1073741824) (X0 n8 f9) (.fail)) n f (ofN n) k (ofN i) p q r (newR f i).a (newR f i).b (newR f i).c (newR f i).n (newR f i).f) := by
    intro k
    induction k with
    | zero => intro i p q r hi hk; omega
    | succ k ih =>
      intro i p q r hi hk
      show All PP (Rd54_0_0 (Lf54_0_0 (fun _ _ _ _ _ _ n8 f9 => iteR (leN n8 1073741824) (X0 n8 f9) (.fail)) n f (ofN n) k) (fun _ _ _ _ _ _ n8 f9 => iteR (leN n8 1073741824) (X0 n8 f9) (.fail)) n f (ofN n) (ofN i) p q r (newR f i).a (newR f i).b (newR f i).c (newR f i).n (newR f i).f)
      unfold Rd54_0_0
      refine ailt (fun hlt => ?_) (fun hge => ?_)
      · have hlt' : i < n := by simp only [ofN] at hlt; omega
        refine aiand (aile (fun _ => ailt (fun _ => ?_) (fun h => absurd hlt h)) (fun h => absurd (by simp only [ofN]; omega) h))
        rw [natI_ofN', wrap_succ (by omega)]
        refine allLess _ _ _ _ _ _ _ ?_
        rcases newR_step (f := f) (n := i) with ⟨h1, e⟩ | ⟨h1, e⟩
        · have := ih (i + 1) (intV (partV (partV (f i) 0) 0)) (intV (partV (partV (f i) 0) 1)) (intV (partV (partV (f i) 0) 2)) (by omega) (by omega)
          rw [e] at this
          show All PP (iteR (lessB (newR f i).a (newR f i).b (newR f i).c (acc (f i) 0) (acc (f i) 1) (acc (f i) 2)) _ _)
          rw [h1]
          exact this
        · have := ih (i + 1) p q r (by omega) (by omega)
          rw [e] at this
          show All PP (iteR (lessB (newR f i).a (newR f i).b (newR f i).c (acc (f i) 0) (acc (f i) 1) (acc (f i) 2)) _ _)
          rw [h1]
          exact this
      · have : i = n := by simp only [ofN] at hge; omega
        subst this
        exact ailen (fun _ => h) (fun h' => absurd hl h')
  exact main NNo 0 0 0 0 (Nat.zero_le _) (by rw [NNo_eq]; unfold NN; omega)
theorem allNewest10 (X0 : Nat → (Nat → V) → R β) (n : Nat) (f : Nat → V) (hn : n ≤ 1000) (h : All PP (X0 (newR f n).n (newR f n).f)) : All PP (Df87_0 X0 n f) := by
  unfold Df87_0
  have main : ∀ (k i : Nat) (p q r : Int), i ≤ n → n - i < k → All PP (Lf87_0_0 (fun _ _ _ _ _ _ n8 f9 => X0 n8 f9) n f k (ofN i) p q r (newR f i).a (newR f i).b (newR f i).c (newR f i).n (newR f i).f) := by
    intro k
    induction k with
    | zero => intro i p q r hi hk; omega
    | succ k ih =>
      intro i p q r hi hk
      show All PP (Rd87_0_0 (Lf87_0_0 (fun _ _ _ _ _ _ n8 f9 => X0 n8 f9) n f k) (fun _ _ _ _ _ _ n8 f9 => X0 n8 f9) n f (ofN i) p q r (newR f i).a (newR f i).b (newR f i).c (newR f i).n (newR f i).f)
      unfold Rd87_0_0
      refine ailt (fun hlt => ?_) (fun hge => ?_)
      · have hlt' : i < n := by simp only [ofN] at hlt; omega
        have inr : ∀ {x y : R β}, All PP x → All PP (iteR (andB (leI 0 (ofN i)) (ltI (ofN i) (ofN n))) x y) := fun hx => aiand (aile (fun _ => ailt (fun _ => hx) (fun h => absurd hlt h)) (fun h => absurd (by simp only [ofN]; omega) h))
        refine inr ?_
        rw [natI_ofN', wrap_succ (by omega)]
        have yes : lessB (newR f i).a (newR f i).b (newR f i).c (acc (f i) 0) (acc (f i) 1) (acc (f i) 2) = true → All PP (Lf87_0_0 (fun _ _ _ _ _ _ n8 f9 => X0 n8 f9) n f k (ofN (i + 1)) (intV (partV (partV (f i) 0) 0)) (intV (partV (partV (f i) 0) 1)) (intV (partV (partV (f i) 0) 2)) (acc (f i) 0) (acc (f i) 1) (acc (f i) 2) (viewN (partV (f i) 2)) (viewF (partV (f i) 2))) := fun hh => by
          have := ih (i + 1) (intV (partV (partV (f i) 0) 0)) (intV (partV (partV (f i) 0) 1)) (intV (partV (partV (f i) 0) 2)) (by omega) (by omega)
          rcases newR_step (f := f) (n := i) with ⟨h1, e⟩ | ⟨h1, e⟩
          · rw [e] at this; exact this
          · rw [hh] at h1; cases h1
        have no : lessB (newR f i).a (newR f i).b (newR f i).c (acc (f i) 0) (acc (f i) 1) (acc (f i) 2) = false → All PP (Lf87_0_0 (fun _ _ _ _ _ _ n8 f9 => X0 n8 f9) n f k (ofN (i + 1)) p q r (newR f i).a (newR f i).b (newR f i).c (newR f i).n (newR f i).f) := fun hh => by
          have := ih (i + 1) p q r (by omega) (by omega)
          rcases newR_step (f := f) (n := i) with ⟨h1, e⟩ | ⟨h1, e⟩
          · rw [hh] at h1; cases h1
          · rw [e] at this; exact this
        have a0 : intV (partV (partV (f i) 1) 0) = acc (f i) 0 := rfl
        have a1 : intV (partV (partV (f i) 1) 1) = acc (f i) 1 := rfl
        have a2 : intV (partV (partV (f i) 1) 2) = acc (f i) 2 := rfl
        rw [a0, a1, a2]
        generalize acc (f i) 0 = x0 at *
        generalize acc (f i) 1 = x1 at *
        generalize acc (f i) 2 = x2 at *
        generalize (newR f i).a = y0 at *
        generalize (newR f i).b = y1 at *
        generalize (newR f i).c = y2 at *
        refine ainot (aieq (fun e0 => ainot (aieq (fun e1 => ailt (fun e2 => inr (yes (lessB_true (by omega)))) (fun e2 => no (lessB_false (by omega)))) (fun e1 => ailt (fun e2 => inr (yes (lessB_true (by omega)))) (fun e2 => no (lessB_false (by omega)))))) (fun e0 => ailt (fun e2 => inr (yes (lessB_true (by omega)))) (fun e2 => no (lessB_false (by omega)))))
      · have : i = n := by simp only [ofN] at hge; omega
        subst this
        exact h
  exact main NNo 0 0 0 0 (Nat.zero_le _) (by rw [NNo_eq]; unfold NN; omega)
end
end Go.Proofs.Ytcafnbjmebichaa
