/- Lanes and places: what the program and the reference compute of an operation is the same. No conditions. -/
import Derived.Test.YtbplfgghcclgkaaPb
import Derived.Test.YtbplfgghcclgkaaProofP
open Go Go.VM
namespace Go.Proofs.Ytbplfgghcclgkaa
theorem negdm (a : Int) {r : Int} (hr : 0 < r) : (-a - 1) / r = -(a / r) - 1 ∧ (-a - 1) % r = r - 1 - a % r := by
  rw [Int.ediv_emod_unique hr]
  have h1 := Int.emod_nonneg a (show r ≠ 0 by omega)
  have h2 := Int.emod_lt_of_pos a hr
  have h3 := Int.mul_ediv_add_emod a r
  refine ⟨?_, by omega, by omega⟩
  have : r * (-(a / r) - 1) = -(r * (a / r)) - r := by rw [Int.mul_sub, Int.mul_neg, Int.mul_one]
  omega
theorem tdiv_pos {t r : Int} (h : 0 ≤ t) : tdivI t r = t / r := Int.tdiv_eq_ediv_of_nonneg h
theorem tmod_pos {t r : Int} (h : 0 ≤ t) : tmodI t r = t % r := Int.tmod_eq_emod_of_nonneg h
theorem ediv_in {t r : Int} (hr : 1 ≤ r) (h1 : -9223372036854775808 ≤ t) (h2 : t ≤ 9223372036854775807) : -9223372036854775808 ≤ t / r ∧ t / r ≤ 9223372036854775807 := by
  have h3 := Int.mul_ediv_add_emod t r
  have h4 := Int.emod_nonneg t (show r ≠ 0 by omega)
  have h5 := Int.emod_lt_of_pos t (show 0 < r by omega)
  rcases Int.lt_or_le t 0 with h | h
  · have h6 : t / r < 0 := Int.ediv_neg_of_neg_of_pos h (by omega)
    refine ⟨?_, by omega⟩
    have h7 : t ≤ t / r := by
      rw [Int.le_ediv_iff_mul_le (by omega)]
      have := Int.mul_nonneg (show 0 ≤ -t by omega) (show 0 ≤ r - 1 by omega)
      rw [Int.mul_sub, Int.mul_one, Int.neg_mul] at this
      omega
    omega
  · have h6 : 0 ≤ t / r := Int.ediv_nonneg h (by omega)
    have h7 : t / r ≤ t := Int.ediv_le_self r h
    omega
theorem refDiv_pos {t r : Int} (hr : 1 ≤ r) (h0 : 0 ≤ t) (h2 : t ≤ 9223372036854775807) : wrapI .i64 (tdivI t r) = t / r := by
  have := ediv_in hr (t := t) (by omega) h2
  rw [tdiv_pos h0, wrap_in this.1 this.2]
theorem tdiv_neg' {a r : Int} (h : 0 ≤ a) : tdivI (-a) r = -(a / r) := by
  show (-a).tdiv r = _
  rw [Int.neg_tdiv, Int.tdiv_eq_ediv_of_nonneg h]
theorem tmod_neg' {a r : Int} (h : 0 ≤ a) : tmodI (-a) r = -(a % r) := by
  show (-a).tmod r = _
  rw [Int.neg_tmod, Int.tmod_eq_emod_of_nonneg h]
theorem refDiv_neg {t r : Int} (hr : 1 ≤ r) (h0 : t < 0) (h1 : -9223372036854775808 ≤ t) : wrapI .i64 (subI (wrapI .i64 (tdivI (wrapI .i64 (subI 0 (wrapI .i64 (subI 0 (wrapI .i64 (addI t 1)))))) r)) 1) = t / r := by
  have w1 : wrapI .i64 (addI t 1) = t + 1 := wrap_add (by omega) (by omega)
  have w2 : wrapI .i64 (subI 0 (t + 1)) = -t - 1 := by rw [wrap_sub (by omega) (by omega)]; omega
  have w3 : wrapI .i64 (subI 0 (-t - 1)) = -(-t - 1) := by rw [wrap_sub (by omega) (by omega)]; omega
  rw [w1, w2, w3]
  have hd := (negdm (-t - 1) (show 0 < r by omega)).1
  rw [show -(-t - 1) - 1 = t by omega] at hd
  have hin := ediv_in hr h1 (by omega)
  have hnn : 0 ≤ (-t - 1) / r := Int.ediv_nonneg (by omega) (by omega)
  rw [tdiv_neg' (by omega), wrap_in (n := -((-t - 1) / r)) (by omega) (by omega), wrap_sub (by omega) (by omega)]
  omega
theorem refMod_pos {k s : Int} (h0 : 0 ≤ k) : tmodI k s = k % s := tmod_pos h0
theorem refMod_neg {k s : Int} (hs : 1 ≤ s) (hs' : s ≤ 4) (h0 : k < 0) (h1 : -9223372036854775808 ≤ k) : wrapI .i64 (subI (wrapI .i64 (subI s 1)) (tmodI (wrapI .i64 (subI 0 (wrapI .i64 (addI k 1)))) s)) = k % s := by
  have w1 : wrapI .i64 (addI k 1) = k + 1 := wrap_add (by omega) (by omega)
  have w2 : wrapI .i64 (subI 0 (k + 1)) = -k - 1 := by rw [wrap_sub (by omega) (by omega)]; omega
  have w3 : wrapI .i64 (subI s 1) = s - 1 := wrap_sub (by omega) (by omega)
  rw [w1, w2, w3]
  have hd := (negdm (-k - 1) (show 0 < s by omega)).2
  rw [show -(-k - 1) - 1 = k by omega] at hd
  have h3 := Int.emod_nonneg (-k - 1) (show s ≠ 0 by omega)
  have h4 := Int.emod_lt_of_pos (-k - 1) (show 0 < s by omega)
  rw [tmod_pos (by omega), wrap_sub (by omega) (by omega)]
  omega
theorem divV_eq {t r : Int} (hr : 1 ≤ r) (h1 : -9223372036854775808 ≤ t) (h2 : t ≤ 9223372036854775807) : divV t r = t / r := by
  unfold divV
  rw [if_neg (by omega)]
  have hin := ediv_in hr h1 h2
  rcases Int.lt_or_le t 0 with h | h
  · have e : t = -(-t) := by omega
    have h3 := Int.emod_nonneg (-t) (show r ≠ 0 by omega)
    have h4 := Int.emod_lt_of_pos (-t) (show 0 < r by omega)
    have h5 := Int.mul_ediv_add_emod (-t) r
    have ht : tmodI t r = -((-t) % r) := by rw [e, tmod_neg' (by omega)]; simp
    have hd : tdivI t r = -((-t) / r) := by rw [e, tdiv_neg' (by omega)]; simp
    have hnn : 0 ≤ (-t) / r := Int.ediv_nonneg (by omega) (by omega)
    rw [ht, hd]
    split
    · rename_i hm
      have : t / r = -((-t) / r) - 1 ∧ t % r = r - (-t) % r := by
        rw [Int.ediv_emod_unique (by omega)]
        refine ⟨?_, by omega, by omega⟩
        have : r * (-((-t) / r) - 1) = -(r * ((-t) / r)) - r := by rw [Int.mul_sub, Int.mul_neg, Int.mul_one]
        omega
      rw [wrap_in (n := -((-t) / r)) (by omega) (by omega), wrap_sub (by omega) (by omega)]
      omega
    · rename_i hm
      have : t / r = -((-t) / r) ∧ t % r = 0 := by
        rw [Int.ediv_emod_unique (by omega)]
        refine ⟨?_, by omega, by omega⟩
        have : r * (-((-t) / r)) = -(r * ((-t) / r)) := by rw [Int.mul_neg]
        omega
      rw [← this.1]
      exact wrap_in hin.1 hin.2
  · rw [tmod_pos h, tdiv_pos h]
    have := Int.emod_nonneg t (show r ≠ 0 by omega)
    rw [if_neg (by omega)]
    exact wrap_in hin.1 hin.2
theorem modV_eq {k s : Int} (hs : 1 ≤ s) (hs' : s ≤ 4) : modV k s = k % s := by
  unfold modV
  rw [if_neg (by omega)]
  have h3 := Int.emod_nonneg k (show s ≠ 0 by omega)
  have h4 := Int.emod_lt_of_pos k (show 0 < s by omega)
  rcases Int.lt_or_le k 0 with h | h
  · have e : k = -(-k) := by omega
    have h5 := Int.emod_nonneg (-k) (show s ≠ 0 by omega)
    have h6 := Int.emod_lt_of_pos (-k) (show 0 < s by omega)
    have h7 := Int.mul_ediv_add_emod (-k) s
    have ht : tmodI k s = -((-k) % s) := by rw [e, tmod_neg' (by omega)]; simp
    rw [ht]
    rcases Int.lt_or_le 0 ((-k) % s) with hm | hm
    · have h8 : shrI .i64 (-((-k) % s)) 63 = -1 := by
        have : (-k) % s = 1 ∨ (-k) % s = 2 ∨ (-k) % s = 3 := by omega
        rcases this with e | e | e <;> rw [e] <;> decide
      have h9 : bandI .i64 s (-1) = s := by
        have : s = 1 ∨ s = 2 ∨ s = 3 ∨ s = 4 := by omega
        rcases this with e | e | e | e <;> rw [e] <;> decide
      have : k / s = -((-k) / s) - 1 ∧ k % s = s - (-k) % s := by
        rw [Int.ediv_emod_unique (by omega)]
        refine ⟨?_, by omega, by omega⟩
        have : s * (-((-k) / s) - 1) = -(s * ((-k) / s)) - s := by rw [Int.mul_sub, Int.mul_neg, Int.mul_one]
        omega
      rw [h8, h9, wrap_add (by omega) (by omega)]
      omega
    · have hz : (-k) % s = 0 := by omega
      have : k / s = -((-k) / s) ∧ k % s = 0 := by
        rw [Int.ediv_emod_unique (by omega)]
        refine ⟨?_, by omega, by omega⟩
        have : s * (-((-k) / s)) = -(s * ((-k) / s)) := by rw [Int.mul_neg]
        omega
      rw [hz, this.2]
      have h9 : bandI .i64 s 0 = 0 := by
        have : s = 1 ∨ s = 2 ∨ s = 3 ∨ s = 4 := by omega
        rcases this with e | e | e | e <;> rw [e] <;> decide
      have h8 : shrI .i64 (-0) 63 = 0 := by decide
      rw [h8, h9]
      decide
  · rw [tmod_pos h]
    have h8 : shrI .i64 (k % s) 63 = 0 := by
      have : k % s = 0 ∨ k % s = 1 ∨ k % s = 2 ∨ k % s = 3 := by omega
      rcases this with e | e | e | e <;> rw [e] <;> decide
    have h9 : bandI .i64 s 0 = 0 := by
      have : s = 1 ∨ s = 2 ∨ s = 3 ∨ s = 4 := by omega
      rcases this with e | e | e | e <;> rw [e] <;> decide
    rw [h8, h9, wrap_add (by omega) (by omega)]
    omega
def laneAt (key s : Int) (i : Nat) : Int := ofN i * s + key % s
theorem laneAt_range {key s : Int} {i n : Nat} (hs : 1 ≤ s) (hs' : s ≤ 4) (hi : i < n) : 0 ≤ laneAt key s i ∧ laneAt key s i < ofN (n * s.toNat) := by
  unfold laneAt
  have h3 := Int.emod_nonneg key (show s ≠ 0 by omega)
  have h4 := Int.emod_lt_of_pos key (show 0 < s by omega)
  have h5 : 0 ≤ ofN i * s := Int.mul_nonneg (by simp [ofN]) (by omega)
  have h6 : (ofN i + 1) * s ≤ ofN n * s := Int.mul_le_mul_of_nonneg_right (by simp only [ofN]; omega) (by omega)
  have h7 : ofN (n * s.toNat) = ofN n * s := by
    simp only [ofN]; push_cast; rw [Int.toNat_of_nonneg (by omega)]
  rw [Int.add_mul, Int.one_mul] at h6
  omega
def idAt (f : Nat → V) (s t key : Int) (i : Nat) : V := .nd 55 [.int .i64 (laneAt key s i), .nd 53 [.int .i64 (t / intV (f i)), .int .i64 key]]
theorem laneV_eq {key s : Int} {i : Nat} (hs : 1 ≤ s) (hs' : s ≤ 4) (hi : i < 3) : laneV key s i = laneAt key s i := by
  unfold laneV laneAt
  rw [modV_eq hs hs']
  have h3 := Int.emod_nonneg key (show s ≠ 0 by omega)
  have h4 := Int.emod_lt_of_pos key (show 0 < s by omega)
  have hi' : i = 0 ∨ i = 1 ∨ i = 2 := by omega
  have h5 : 0 ≤ ofN i * s ∧ ofN i * s ≤ 8 := by rcases hi' with e | e | e <;> subst e <;> simp only [ofN] <;> omega
  have e : mulI (ofN i) s = ofN i * s := rfl
  rw [e, wrap_in (n := ofN i * s) (by omega) (by omega), wrap_add (by omega) (by omega)]
theorem idV_eq {f : Nat → V} {s t key : Int} {i : Nat} (hs : 1 ≤ s) (hs' : s ≤ 4) (hi : i < 3) (hr : 1 ≤ intV (f i)) (h1 : -9223372036854775808 ≤ t) (h2 : t ≤ 9223372036854775807) : idV t key s f i = idAt f s t key i := by
  unfold idV idAt
  rw [laneV_eq hs hs' hi, divV_eq hr h1 h2]
def aheadP (n : Nat) (f : Nat → V) (s : Int) (pf : Nat → V) (o : V) : Prop := ∀ i, i < n → lessV (intV (partV o 2) / intV (f i)) (intV (partV o 3)) (intV (partV (pf (natI (laneAt (intV (partV o 3)) s i))) 0)) (intV (partV (pf (natI (laneAt (intV (partV o 3)) s i))) 1)) = true
theorem covered_iff {n m : Nat} {f pf : Nat → V} {s : Int} {o : V} (hn : 1 ≤ n) (hn' : n ≤ 3) (hs : 1 ≤ s) (hs' : s ≤ 4) (hm : m = n * s.toNat) (hr : ∀ i, i < n → 1 ≤ intV (f i)) (h1 : -9223372036854775808 ≤ intV (partV o 2)) (h2 : intV (partV o 2) ≤ 9223372036854775807) :
    coveredV n f s m pf o = true ↔ aheadP n f s pf o := by
  have hop : ∀ i, i < n → openV m pf (idV (intV (partV o 2)) (intV (partV o 3)) s f i) = !lessV (intV (partV o 2) / intV (f i)) (intV (partV o 3)) (intV (partV (pf (natI (laneAt (intV (partV o 3)) s i))) 0)) (intV (partV (pf (natI (laneAt (intV (partV o 3)) s i))) 1)) := by
    intro i hi
    rw [idV_eq hs hs' (by omega) (hr i hi) h1 h2]
    have hl := laneAt_range (key := intV (partV o 3)) hs hs' hi
    show (decide (laneAt (intV (partV o 3)) s i < 0 ∨ ofN m ≤ laneAt (intV (partV o 3)) s i) || _) = _
    rw [decide_eq_false (by rw [hm]; omega), Bool.false_or]
    rfl
  have hc : coveredV n f s m pf o = notB (leI 0 (idxP (openV m pf) (idV (intV (partV o 2)) (intV (partV o 3)) s f) n 0)) := by
    unfold coveredV
    have : ltI 0 (ofN n) = true := by rw [ltI_iff]; simp only [ofN]; omega
    rw [this]; rfl
  rw [hc]
  rcases idxP_cases (openV m pf) (idV (intV (partV o 2)) (intV (partV o 3)) s f) n 0 with ⟨e, h⟩ | ⟨j, h3, h4, h5, e, _⟩
  · rw [e]
    refine ⟨fun _ i hi => ?_, fun _ => rfl⟩
    have := h i (Nat.zero_le _) (by omega)
    rw [hop i hi] at this
    simpa using this
  · rw [e, leI_zero]
    refine ⟨fun h => absurd h (by simp [notB]), fun h => ?_⟩
    rw [hop j (by omega), h j (by omega)] at h5
    cases h5
end Go.Proofs.Ytbplfgghcclgkaa
