/- What stream.all and DeleteFunc do, as lists. No conditions. -/
import Derived.Test.YtbplfgghcclgkaaP14s
open Go Go.VM
namespace Go.Proofs.Ytbplfgghcclgkaa
section
variable {β : Type} {PP : β → Prop}
def sq (v : V) : Int := intV (partV v 0)
def kd (v : V) : Int := intV (partV v 1)
def tm (v : V) : Int := intV (partV v 2)
theorem sq_eta (v : V) : sq (etaOp v) = sq v := rfl
theorem tm_eta (v : V) : tm (etaOp v) = tm v := rfl
def rising (l : List V) : Prop := l.Pairwise fun a b => sq a < sq b
theorem lst_mem {f : Nat → V} {n : Nat} {v : V} : v ∈ lst f n ↔ ∃ i, i < n ∧ etaOp (f i) = v := by simp [lst]
theorem rising_at {f : Nat → V} {n i j : Nat} (h : rising (lst f n)) (hij : i < j) (hj : j < n) : sq (f i) < sq (f j) := by
  have := List.pairwise_iff_getElem.1 h i j (by rw [lst_len]; omega) (by rw [lst_len]; omega) hij
  simpa [lst, sq_eta] using this
theorem mid_at {lo hi : Nat} (h : lo + hi ≤ 4611686018427387904) : wrapI .i64 (shrI .u64 (wrapI .u64 (wrapI .i64 (addI (ofN lo) (ofN hi)))) 1) = ofN ((lo + hi) / 2) := by
  rw [wrap_add (by simp only [ofN]; omega) (by simp only [ofN]; omega), wrap_u64]
  have e : ((ofN lo + ofN hi) % 18446744073709551616 : Int) = ((lo + hi : Nat) : Int) := by simp only [ofN]; omega
  rw [e]
  have e2 : shrI .u64 ((lo + hi : Nat) : Int) 1 = (((lo + hi) / 2 : Nat) : Int) := by
    unfold shrI
    have : (2 ^ (min (1 : Int).toNat IntKind.u64.bits) : Int) = 2 := by decide
    rw [this, Int.fdiv_eq_ediv_of_nonneg _ (by omega)]
    omega
  rw [e2]
  exact wrap_in (by omega) (by omega)
theorem allBinL (X0 : Int → R β) (n0 : Nat) (f1 : Nat → V) (ms : Int) (hn : n0 ≤ 1073741824) (hr : rising (lst f1 n0)) (hb : ∀ i, i < n0 → 0 ≤ sq (f1 i)) (hm : 0 ≤ ms) (hm2 : ms ≤ 9223372036854775807) (hb2 : ∀ i, i < n0 → sq (f1 i) ≤ 9223372036854775807)
    (hX : ∀ q : Nat, q ≤ n0 → (∀ i, i < q → sq (f1 i) < ms) → (∀ i, q ≤ i → i < n0 → ms ≤ sq (f1 i)) → All PP (X0 (ofN q))) :
    ∀ (k lo hi : Nat), lo ≤ hi → hi ≤ n0 → hi - lo < k → (∀ i, i < lo → sq (f1 i) < ms) → (∀ i, hi ≤ i → i < n0 → ms ≤ sq (f1 i)) → All PP (Lf113_0_0 X0 n0 f1 ms k (ofN lo) (ofN hi))
  | 0, lo, hi, _, _, hk, _, _ => by omega
  | k + 1, lo, hi, h1, h2, hk, hl, hh => by
    have ih := allBinL X0 n0 f1 ms hn hr hb hm hm2 hb2 hX k
    show All PP (Rd113_0_0 (Lf113_0_0 X0 n0 f1 ms k) X0 n0 f1 ms (ofN lo) (ofN hi))
    unfold Rd113_0_0
    rw [mid_at (by omega)]
    refine ailt (fun h => ?_) (fun h => ?_)
    · have hlt : lo < hi := by simp only [ofN] at h; omega
      have hmid : (lo + hi) / 2 < hi := by omega
      have hmid' : lo ≤ (lo + hi) / 2 := by omega
      refine aiand (aile (fun _ => ailt (fun _ => ?_) (fun h' => absurd (by simp only [ofN]; omega) h')) (fun h' => absurd (by simp only [ofN]; omega) h'))
      rw [natI_ofN]
      generalize (lo + hi) / 2 = mid at *
      have e : wrapI .i64 (subI (intV (partV (f1 mid) 0)) ms) = sq (f1 mid) - ms := by
        have a := hb mid (by omega)
        have b := hb2 mid (by omega)
        exact wrap_sub (by unfold sq at a; omega) (by unfold sq at b; omega)
      rw [e]
      refine ailt (fun hc => ?_) (fun hc => ?_)
      · rw [wrap_succ (by omega)]
        refine ih (mid + 1) hi (by omega) h2 (by omega) (fun i hi' => ?_) hh
        by_cases ei : i = mid
        · rw [ei]; omega
        · have := rising_at hr (show i < mid by omega) (by omega)
          omega
      · refine ih lo mid (by omega) (by omega) (by omega) hl (fun i hi' hi2 => ?_)
        by_cases ei : i = mid
        · rw [ei]; omega
        · have := rising_at hr (show mid < i by omega) hi2
          omega
    · have : lo = hi := by simp only [ofN] at h; omega
      subst this
      exact hX lo h2 hl hh
theorem allBin (X0 : Int → Bool → R β) (X1 : Int → R β) (n0 : Nat) (f1 : Nat → V) (ms : Int) (hn : n0 ≤ 1073741824) (hr : rising (lst f1 n0)) (hb : ∀ i, i < n0 → 0 ≤ sq (f1 i)) (hm : 0 ≤ ms) (hm2 : ms ≤ 9223372036854775807) (hb2 : ∀ i, i < n0 → sq (f1 i) ≤ 9223372036854775807)
    (hX : ∀ q : Nat, q ≤ n0 → (∀ i, i < q → sq (f1 i) < ms) → (∀ i, q ≤ i → i < n0 → ms ≤ sq (f1 i)) → (∀ b, All PP (X0 (ofN q) b)) ∧ All PP (X1 (ofN q))) : All PP (Df113_0 X0 X1 n0 f1 ms) := by
  unfold Df113_0
  refine allBinL _ n0 f1 ms hn hr hb hm hm2 hb2 (fun q hq a b => ?_) NNo 0 n0 (Nat.zero_le _) (Nat.le_refl _) (by rw [NNo_eq]; unfold NN; omega) (fun i hi => absurd hi (by omega)) (fun i hi hi' => absurd hi' (by omega))
  obtain ⟨h0, h1⟩ := hX q hq a b
  refine ailt (fun h => ?_) (fun _ => h1)
  exact aiand (aile (fun _ => ailt (fun _ => h0 _) (fun h' => absurd h h')) (fun h' => absurd (by simp only [ofN]; omega) h'))
def withM (ms mk mt my mv : Int) (S : List V) : List V :=
  if 0 < ms then S.filter (fun v => decide (sq v < ms)) ++ [.nd 38 [.int .i64 ms, .int .i64 mk, .int .i64 mt, .int .i64 my, .int .i64 mv]] ++ S.filter (fun v => decide (ms ≤ sq v)) else S
theorem lst_ins (f g : Nat → V) (q n : Nat) (hq : q ≤ n) : lst (insF f g q 1) (n + 1) = (lst f n).take q ++ [etaOp (g 0)] ++ (lst f n).drop q := by
  apply List.ext_getElem?
  intro i
  have hlen : (lst f n).length = n := lst_len f n
  rw [List.append_assoc]
  have gl : ∀ (f : Nat → V) n i, (lst f n)[i]? = if i < n then some (etaOp (f i)) else none := by
    intro f n i
    simp only [lst, List.getElem?_map, List.getElem?_range']
    by_cases h : i < n
    · simp [h]
    · simp [h]
  rw [gl]
  by_cases c1 : i < q
  · rw [List.getElem?_append_left (by rw [List.length_take, hlen]; omega), List.getElem?_take, if_pos c1, gl, if_pos (by omega), if_pos (by omega)]
    simp [insF, c1]
  · rw [List.getElem?_append_right (by rw [List.length_take, hlen]; omega), List.length_take, hlen, Nat.min_eq_left hq]
    by_cases c2 : i = q
    · subst c2
      rw [if_pos (by omega)]
      simp [insF]
    · rw [List.getElem?_append_right (by simp; omega), List.getElem?_drop, gl]
      simp only [List.length_singleton]
      by_cases c3 : i < n + 1
      · rw [if_pos c3, if_pos (by omega)]
        have : insF f g q 1 i = f (i - 1) := by
          unfold insF
          rw [if_neg (by omega), if_neg (by omega)]
        rw [this]
        congr 3; omega
      · rw [if_neg c3, if_neg (by omega)]
theorem filter_take {S : List V} {q : Nat} {p : V → Bool} (h1 : ∀ v ∈ S.take q, p v = true) (h2 : ∀ v ∈ S.drop q, p v = false) : S.filter p = S.take q := by
  conv => lhs; rw [← List.take_append_drop q S]
  rw [List.filter_append, List.filter_eq_self.2 h1, List.filter_eq_nil_iff.2 (fun v hv => by rw [h2 v hv]; simp), List.append_nil]
theorem filter_drop {S : List V} {q : Nat} {p : V → Bool} (h1 : ∀ v ∈ S.take q, p v = false) (h2 : ∀ v ∈ S.drop q, p v = true) : S.filter p = S.drop q := by
  conv => lhs; rw [← List.take_append_drop q S]
  rw [List.filter_append, List.filter_eq_nil_iff.2 (fun v hv => by rw [h1 v hv]; simp), List.filter_eq_self.2 h2, List.nil_append]
theorem allAll (X0 : Nat → (Nat → V) → R β) (ms mk mt my mv : Int) (n : Nat) (f : Nat → V) (hn : n ≤ 1100000) (hr : rising (lst f n)) (hb : ∀ i, i < n → 0 ≤ sq (f i)) (hm : 0 ≤ ms) (hm2 : ms ≤ 9223372036854775807) (hb2 : ∀ i, i < n → sq (f i) ≤ 9223372036854775807)
    (hX : ∀ (m : Nat) g, m ≤ n + 1 → lst g m = withM ms mk mt my mv (lst f n) → All PP (X0 m g)) : All PP (Df79_0 X0 ms mk mt my mv n f) := by
  unfold Df79_0
  refine ailen (fun _ => ?_) (fun h => afail (by omega))
  refine ailt (fun h => ?_) (fun h => hX n f (by omega) (by unfold withM; rw [if_neg h]))
  have fin : ∀ q : Nat, q ≤ n → (∀ i, i < q → sq (f i) < ms) → (∀ i, q ≤ i → i < n → ms ≤ sq (f i)) →
      All PP (iteR (leI 0 (ofN q)) (iteR (leI (ofN q) (ofN n)) (iteR (leN (addN n 1) 1073741824) (X0 (addN n 1) (insF f (litF (.nd 38 [.int .i64 0, .int .i64 0, .int .i64 0, .int .i64 0, .int .i64 0]) [.nd 38 [.int .i64 ms, .int .i64 mk, .int .i64 mt, .int .i64 my, .int .i64 mv]]) (natI (ofN q)) 1)) (.fail)) (.fail)) (.fail)) := by
    intro q hq h1 h2
    refine aile (fun _ => aile (fun _ => ailen (fun _ => ?_) (fun h' => afail (by simp only [addN] at h'; omega))) (fun h' => absurd (by simp only [ofN]; omega) h')) (fun h' => absurd (by simp only [ofN]; omega) h')
    rw [natI_ofN]
    refine hX (n + 1) _ (Nat.le_refl _) ?_
    rw [lst_ins _ _ _ _ hq]
    unfold withM
    rw [if_pos h]
    have t1 : ∀ v ∈ (lst f n).take q, sq v < ms := by
      intro v hv
      obtain ⟨i, hi, rfl⟩ := List.getElem_of_mem hv
      have hi' : i < q := by rw [List.length_take] at hi; omega
      have := h1 i hi'
      simpa [lst, sq_eta] using this
    have t2 : ∀ v ∈ (lst f n).drop q, ms ≤ sq v := by
      intro v hv
      obtain ⟨i, hi, rfl⟩ := List.getElem_of_mem hv
      rw [List.length_drop, lst_len] at hi
      have := h2 (q + i) (by omega) (by omega)
      simpa [lst, sq_eta] using this
    rw [filter_take (q := q) (fun v hv => by simpa using t1 v hv) (fun v hv => by have := t2 v hv; simp; omega), filter_drop (q := q) (fun v hv => by have := t1 v hv; simp; omega) (fun v hv => by simpa using t2 v hv)]
    rfl
  exact allBin _ _ n f ms (by omega) hr hb hm hm2 hb2 (fun q hq a b => ⟨fun _ => fin q hq a b, fin q hq a b⟩)
end
end Go.Proofs.Ytbplfgghcclgkaa
