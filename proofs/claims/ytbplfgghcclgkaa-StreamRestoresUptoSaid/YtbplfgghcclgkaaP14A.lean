/- What a stream can be restored of: both say the same, and hold the same. No conditions. -/
import Derived.Test.YtbplfgghcclgkaaP14w
open Go Go.VM
namespace Go.Proofs.Ytbplfgghcclgkaa
set_option maxRecDepth 100000
section
variable {β : Type} {PP : β → Prop}
def noneB (ms mk mt my mv : Int) : Bool := andB (eqI ms 0) (andB (eqI mk 0) (andB (eqI mt 0) (andB (eqI my 0) (eqI mv 0))))
theorem noneB_iff {ms mk mt my mv : Int} : noneB ms mk mt my mv = true ↔ ms = 0 ∧ mk = 0 ∧ mt = 0 ∧ my = 0 ∧ mv = 0 := by
  unfold noneB
  constructor
  · intro h
    cases a : eqI ms 0 <;> cases b : eqI mk 0 <;> cases c : eqI mt 0 <;> cases d : eqI my 0 <;> cases e : eqI mv 0 <;> rw [a, b, c, d, e] at h <;> first | exact ⟨eqI_iff.1 a, eqI_iff.1 b, eqI_iff.1 c, eqI_iff.1 d, eqI_iff.1 e⟩ | cases h
  · rintro ⟨rfl, rfl, rfl, rfl, rfl⟩
    rfl
def okSmp (nx ms mt : Int) (nb : Bool) (f : Nat → V) (i : Nat) : Prop :=
  intV (partV (f i) 1) = 1 ∧ 1 ≤ intV (partV (f i) 0) ∧ intV (partV (f i) 0) < nx ∧ (0 < i → intV (partV (f (i - 1)) 0) < intV (partV (f i) 0)) ∧ (nb = false → intV (partV (f i) 0) ≠ ms ∧ (ms < intV (partV (f i) 0) → mt ≤ intV (partV (f i) 2)))
structure OkRest (nx ms mk mt my mv : Int) (n : Nat) (f : Nat → V) (n8 m : Nat) : Prop where
  next : 1 ≤ nx
  lanes : n8 = m
  mark : noneB ms mk mt my mv = false → mk = 2 ∧ 1 ≤ ms ∧ ms < nx ∧ my = 0 ∧ mv = 0
  smp : ∀ i, i < n → okSmp nx ms mt (noneB ms mk mt my mv) f i
theorem all46L (X0 : Int → Int → Int → Int → Int → R β) (X1 : R β) (nx ms mt : Int) (nb : Bool) (n : Nat) (f : Nat → V) (hn : n ≤ 1100000) (hb : nb = true → ms = 0) (h0 : ∀ a b c d e, (∃ i, i < n ∧ ¬ okSmp nx ms mt nb f i) → All PP (X0 a b c d e)) (h1 : (∀ i, i < n → okSmp nx ms mt nb f i) → All PP X1) :
    ∀ (k i : Nat) (last : Int), i ≤ n → n - i < k → (i = 0 → last = 0) → (0 < i → last = intV (partV (f (i - 1)) 0)) → (∀ j, j < i → okSmp nx ms mt nb f j) → All PP (Lf46_0_0 X0 X1 nx nb n f (ofN n) ms mt k last (ofN i))
  | 0, i, last, _, hk, _, _, _ => by omega
  | k + 1, i, last, hi, hk, hl0, hl1, hok => by
    have ih := all46L X0 X1 nx ms mt nb n f hn hb h0 h1 k
    show All PP (Rd46_0_0 (Lf46_0_0 X0 X1 nx nb n f (ofN n) ms mt k) X0 X1 nx nb n f (ofN n) ms mt last (ofN i))
    generalize Lf46_0_0 X0 X1 nx nb n f (ofN n) ms mt k = NX at ih ⊢
    unfold Rd46_0_0
    refine ailt (fun hlt => ?_) (fun hge => h1 fun j hj => hok j (by simp only [ofN] at hge; omega))
    have hlt' : i < n := by simp only [ofN] at hlt; omega
    refine aiand (aile (fun _ => ailt (fun _ => ?_) (fun h => absurd hlt h)) (fun h => absurd (by simp only [ofN]; omega) h))
    rw [natI_ofN, wrap_succ (by omega)]
    have pos : 0 ≤ last := by
      by_cases e : i = 0
      · have := hl0 e; omega
      · have := hl1 (by omega)
        have := (hok (i - 1) (by omega)).2.1
        omega
    refine ainot (aieq (fun c1 => ?_) (fun c1 => h0 _ _ _ _ _ ⟨i, hlt', fun o => c1 o.1⟩))
    refine aile (fun c2 => h0 _ _ _ _ _ ⟨i, hlt', fun o => ?_⟩) (fun c2 => ?_)
    · obtain ⟨o1, o2, o3, o4, o5⟩ := o
      by_cases e : i = 0
      · have := hl0 e; omega
      · have := hl1 (by omega)
        have := o4 (by omega)
        omega
    refine aile (fun c3 => h0 _ _ _ _ _ ⟨i, hlt', fun o => by have := o.2.2.1; omega⟩) (fun c3 => ?_)
    refine aieq (fun c4 => h0 _ _ _ _ _ ⟨i, hlt', fun o => ?_⟩) (fun c4 => ?_)
    · cases hc : nb with
      | true => have := hb hc; have := o.2.1; omega
      | false => exact (o.2.2.2.2 hc).1 c4
    have step : (nb = false → ms < intV (partV (f i) 0) → mt ≤ intV (partV (f i) 2)) → All PP (NX (intV (partV (f i) 0)) (ofN (i + 1))) := fun c5 => by
      refine ih (i + 1) _ (by omega) (by omega) (by omega) (fun _ => rfl) (fun j hj => ?_)
      by_cases e : j = i
      · subst e
        exact ⟨c1, by omega, by omega, fun hp => by have := hl1 hp; omega, fun h => ⟨c4, c5 h⟩⟩
      · exact hok j (by omega)
    refine ainot (all_iteR (fun hc => step fun h => by rw [hc] at h; cases h) (fun hc => ailt (fun c5 => ailt (fun c6 => h0 _ _ _ _ _ ⟨i, hlt', fun o => ?_⟩) (fun c6 => step fun _ _ => by omega)) (fun c5 => step fun _ h => absurd h c5)))
    have := (o.2.2.2.2 hc).2 c5
    omega
theorem all46 (X0 X1 : R β) (nx ms mk mt my mv : Int) (n : Nat) (f : Nat → V) (n8 r m : Nat) (s : Int) (hn : n ≤ 1100000) (hr : r ≤ 3) (hs : 1 ≤ s) (hs' : s ≤ 4) (hm : m = r * s.toNat) (h8 : n8 ≤ 1073741824) (h0 : ¬ OkRest nx ms mk mt my mv n f n8 m → All PP X0) (h1 : OkRest nx ms mk mt my mv n f n8 m → All PP X1) :
    All PP (Df46_0 X0 X1 nx ms mk mt my mv n f n8 r s) := by
  unfold Df46_0
  have hmul' : r * s.toNat ≤ 12 := Nat.mul_le_mul hr (show s.toNat ≤ 4 by omega)
  have hmul : wrapI .i64 (mulI (ofN r) s) = ofN m := by
    have e : mulI (ofN r) s = ofN (r * s.toNat) := by
      have : s = (s.toNat : Int) := by omega
      simp only [mulI, ofN]
      conv => lhs; rw [this]
      rfl
    rw [e, ← hm]
    exact wrap_in (by simp only [ofN]; omega) (by simp only [ofN]; omega)
  rw [hmul]
  show All PP (iteR (ltI nx 1) X0 (iteR (notB (eqI (ofN n8) (ofN m))) X0 (iteR (notB (noneB ms mk mt my mv)) (iteR (notB (eqI mk 2)) X0 (iteR (ltI ms 1) X0 (iteR (leI nx ms) X0 (iteR (notB (eqI my 0)) X0 (iteR (notB (eqI mv 0)) X0 (Lf46_0_0 (fun _ _ _ _ _ => X0) (iteR (leN n 1073741824) (iteR (leN n8 1073741824) X1 .fail) .fail) nx (noneB ms mk mt my mv) n f (ofN n) ms mt NNo 0 0)))))) (Lf46_0_0 (fun _ _ _ _ _ => X0) (iteR (leN n 1073741824) (iteR (leN n8 1073741824) X1 .fail) .fail) nx (noneB ms mk mt my mv) n f (ofN n) ms mt NNo 0 0))))
  refine ailt (fun h => h0 fun o => by have := o.next; omega) (fun c1 => ?_)
  refine ainot (aieq (fun c2 => ?_) (fun h => h0 fun o => h (by rw [o.lanes])))
  have c2 : n8 = m := by simp only [ofN] at c2; omega
  have loop : (noneB ms mk mt my mv = false → mk = 2 ∧ 1 ≤ ms ∧ ms < nx ∧ my = 0 ∧ mv = 0) → All PP (Lf46_0_0 (fun _ _ _ _ _ => X0) (iteR (leN n 1073741824) (iteR (leN n8 1073741824) X1 .fail) .fail) nx (noneB ms mk mt my mv) n f (ofN n) ms mt NNo 0 0) := fun c3 =>
    all46L _ _ nx ms mt (noneB ms mk mt my mv) n f hn (fun h => (noneB_iff.1 h).1) (fun _ _ _ _ _ ⟨i, hi, hb⟩ => h0 fun o => hb (o.smp i hi)) (fun h => ailen (fun _ => ailen (fun _ => h1 ⟨by omega, c2, c3, h⟩) (fun h => absurd (by omega) h)) (fun h => absurd (by omega) h)) NNo 0 0 (Nat.zero_le _) (by rw [NNo_eq]; unfold NN; omega) (fun _ => rfl) (fun h => absurd h (by omega)) (fun j hj => absurd hj (by omega))
  refine ainot (all_iteR (fun hc => loop fun h => by rw [hc] at h; cases h) (fun hc => ?_))
  have bad : ¬ (mk = 2 ∧ 1 ≤ ms ∧ ms < nx ∧ my = 0 ∧ mv = 0) → All PP X0 := fun h => h0 fun o => h (o.mark hc)
  exact ainot (aieq (fun d1 => ailt (fun d2 => bad fun h => by omega) (fun d2 => aile (fun d3 => bad fun h => by omega) (fun d3 => ainot (aieq (fun d4 => ainot (aieq (fun d5 => loop fun _ => ⟨d1, by omega, by omega, d4, d5⟩) (fun d5 => bad fun h => d5 h.2.2.2.2))) (fun d4 => bad fun h => d4 h.2.2.2.1))))) (fun d1 => bad fun h => d1 h.1))
end
end Go.Proofs.Ytbplfgghcclgkaa
