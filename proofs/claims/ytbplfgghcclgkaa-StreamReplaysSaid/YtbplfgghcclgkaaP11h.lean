/- StreamReplays: what is gathered, and what of it is held. No conditions. -/
import Derived.Test.YtbplfgghcclgkaaP11t
open Go Go.VM
namespace Go.Proofs.Ytbplfgghcclgkaa
set_option maxRecDepth 100000
section
variable {β : Type} {PP : β → Prop}
theorem lst_get {f : Nat → V} {n i : Nat} (h : i < n) : (lst f n)[i]? = some (etaOp (f i)) := by
  simp only [lst, List.getElem?_map]
  rw [List.getElem?_range h]; rfl
theorem lf5 (X0 : Nat → (Nat → V) → Int → Int → Int → Int → Int → R β) (X1 : Nat → Bool → Nat → (Nat → V) → R β) (N : Nat) (g : Nat → V) {nx ms mt : Int} {S A : List V} (hA : AInv nx ms mt S A) (hl : lst g N = A) (hN : N ≤ 1000)
    (hX : ∀ n h r, lst r n = S → n ≤ N → All PP (X1 n false h r)) :
    ∀ (k j : Nat) (b : Bool) (n h : Nat) (r : Nat → V), j ≤ N → N - j < k → n ≤ j → lst r n = (lst g j).filter (fun v => !decide (kd v = 2)) → (b = true ↔ 0 < ms ∧ ∀ i, i < j → kd (g i) ≠ 2) →
      All PP (Lf11_5_0 X0 X1 N ms mt N (ofN N) g k n b (ofN j) h r)
  | 0, j, b, n, h, r, _, hk, _, _, _ => by omega
  | k + 1, j, b, n, h, r, hj, hk, hnj, hr, hb => by
    have ih := lf5 X0 X1 N g hA hl hN hX k
    show All PP (Rd11_5_0 (Lf11_5_0 X0 X1 N ms mt N (ofN N) g k) X0 X1 N ms mt N (ofN N) g n b (ofN j) h r)
    generalize Lf11_5_0 X0 X1 N ms mt N (ofN N) g k = NX at ih ⊢
    unfold Rd11_5_0
    have rise : rising (lst g N) := by rw [hl]; exact hA.rise
    refine ailt (fun hlt => ?_) (fun hlt => ?_)
    · have hlt' : j < N := by simp only [ofN] at hlt; omega
      have hmem : etaOp (g j) ∈ A := by rw [← hl]; exact lst_mem.2 ⟨j, hlt', rfl⟩
      rw [natI_ofN, wrap_succ (by omega)]
      have hs : lst g (j + 1) = lst g j ++ [etaOp (g j)] := lst_succ g j
      have rest : All PP (iteR (eqI (intV (partV (g j) 1)) 2) (iteR (notB b) (X0 h r (intV (partV (g j) 0)) (intV (partV (g j) 1)) (intV (partV (g j) 2)) (intV (partV (g j) 3)) (intV (partV (g j) 4))) (iteR (notB (eqI (intV (partV (g j) 0)) ms)) (X0 h r (intV (partV (g j) 0)) (intV (partV (g j) 1)) (intV (partV (g j) 2)) (intV (partV (g j) 3)) (intV (partV (g j) 4))) (iteR (notB (eqI (intV (partV (g j) 2)) mt)) (X0 h r (intV (partV (g j) 0)) (intV (partV (g j) 1)) (intV (partV (g j) 2)) (intV (partV (g j) 3)) (intV (partV (g j) 4))) (NX n false (ofN (j + 1)) h r)))) (iteR (leN (addN n 1) 1073741824) (NX (addN n 1) b (ofN (j + 1)) (addN n 1) (joinF r (litF (.nd 38 [.int .i64 0, .int .i64 0, .int .i64 0, .int .i64 0, .int .i64 0]) [.nd 38 [.int .i64 (intV (partV (g j) 0)), .int .i64 (intV (partV (g j) 1)), .int .i64 (intV (partV (g j) 2)), .int .i64 (intV (partV (g j) 3)), .int .i64 (intV (partV (g j) 4))]]) n)) (.fail))) := by
        refine aieq (fun hk2 => ?_) (fun hk2 => ?_)
        · have hk2 : kd (etaOp (g j)) = 2 := hk2
          obtain ⟨m1, m2, m3⟩ := hA.marks _ hmem hk2
          have hbt : b = true := by
            refine hb.2 ⟨m1, fun i hi hki => ?_⟩
            have hmi : etaOp (g i) ∈ A := by rw [← hl]; exact lst_mem.2 ⟨i, by omega, rfl⟩
            have := (hA.marks _ hmi hki).2.1
            have hlt2 := rising_at rise hi hlt'
            rw [sq_eta] at this m2
            omega
          subst hbt
          refine ainot (aitrue (ainot (aieq (fun _ => ainot (aieq (fun _ => ?_) (fun h' => absurd m3 h'))) (fun h' => absurd m2 h'))))
          refine ih (j + 1) false n h r (by omega) (by omega) (by omega) ?_ ?_
          · rw [hs, List.filter_append, List.filter_cons_of_neg (by simp [hk2]), List.filter_nil, List.append_nil]; exact hr
          · constructor
            · intro h'; cases h'
            · rintro ⟨_, h'⟩; exact absurd hk2 (h' j (by omega))
        · have hk2 : kd (etaOp (g j)) ≠ 2 := hk2
          refine ailen (fun _ => ?_) (fun h' => afail (by simp only [addN] at h'; omega))
          refine ih (j + 1) b (n + 1) (n + 1) _ (by omega) (by omega) (by omega) ?_ ?_
          · rw [lst_join, hs, List.filter_append, List.filter_cons_of_pos (by simp [hk2]), List.filter_nil, hr]
            rfl
          · rw [hb]
            refine and_congr_right fun _ => ⟨fun h' i hi => ?_, fun h' i hi => h' i (by omega)⟩
            by_cases e : i = j
            · rw [e]; exact hk2
            · exact h' i (by omega)
      refine aiand (aile (fun _ => ailt (fun _ => ?_) (fun h' => absurd hlt h')) (fun h' => afail (by simp only [ofN] at h'; omega)))
      refine ailt (fun hpos => ?_) (fun _ => rest)
      have hpos : 0 < j := by simp only [ofN] at hpos; omega
      have e1 : wrapI .i64 (subI (ofN j) 1) = ofN (j - 1) := by
        rw [wrap_sub (by simp only [ofN]; omega) (by simp only [ofN]; omega)]
        simp only [ofN]; omega
      rw [e1, natI_ofN]
      refine aiand (aile (fun _ => ailt (fun _ => ?_) (fun h' => absurd (by simp only [ofN]; omega) h')) (fun h' => absurd (by simp only [ofN]; omega) h'))
      refine aile (fun h' => ?_) (fun _ => rest)
      have := rising_at rise (show j - 1 < j by omega) hlt'
      have h' : sq (g j) ≤ sq (g (j - 1)) := h'
      omega
    · have : j = N := by simp only [ofN] at hlt; omega
      subst this
      have hbf : b = false := by
        cases hbb : b with
        | false => rfl
        | true =>
          obtain ⟨a1, a2⟩ := hb.1 hbb
          obtain ⟨v, hv, hkv⟩ := hA.has a1
          rw [← hl] at hv
          obtain ⟨i, hi, rfl⟩ := lst_mem.1 hv
          exact absurd hkv (a2 i hi)
      subst hbf
      refine hX n h r ?_ hnj
      rw [hr, hl, hA.held]
theorem lst_joinN (f g : Nat → V) (n m : Nat) : lst (joinF f g n) (n + m) = lst f n ++ lst g m := by
  induction m with
  | zero => rw [Nat.add_zero]; simp only [lst, List.range_zero, List.map_nil, List.append_nil]; exact List.map_congr_left fun i hi => by rw [joinF_lt f g (List.mem_range.1 hi)]
  | succ m ih =>
    rw [← Nat.add_assoc, lst_succ, ih, lst_succ, List.append_assoc]
    congr 3
    rw [joinF_ge f g (by omega)]
    congr 2; omega
theorem rising_take {L : List V} {q : Nat} {v : V} (hr : rising L) (hv : L[q]? = some v) : L.filter (fun w => decide (sq w < sq v + 1)) = L.take (q + 1) := by
  refine filter_take (q := q + 1) (fun w hw => ?_) (fun w hw => ?_)
  · obtain ⟨i, hi, rfl⟩ := List.getElem_of_mem hw
    rw [List.length_take] at hi
    rw [List.getElem_take]
    obtain ⟨hq, hqv⟩ := List.getElem?_eq_some_iff.1 hv
    have : sq L[i] ≤ sq v := by
      by_cases e : i = q
      · subst e; rw [hqv]; exact Int.le_refl _
      · have := List.pairwise_iff_getElem.1 hr i q (by omega) hq (by omega)
        rw [hqv] at this
        omega
    simp; omega
  · obtain ⟨i, hi, rfl⟩ := List.getElem_of_mem hw
    rw [List.length_drop] at hi
    rw [List.getElem_drop]
    obtain ⟨hq, hqv⟩ := List.getElem?_eq_some_iff.1 hv
    have := List.pairwise_iff_getElem.1 hr q (q + 1 + i) hq (by omega) (by omega)
    rw [hqv] at this
    simp; omega
theorem lf3 (X0 : Nat → (Nat → V) → Nat → (Nat → V) → R β) (X1 : Nat → Int → Nat → (Nat → V) → R β) (m : Nat) (nx ms mk mt my mv : Int) (n : Nat) (f : Nat → V) (hS : SInv nx ms mk (lst f n)) (hm1 : 1 ≤ m) (hm2 : m ≤ 16) (hn : n ≤ 64) (hx1 : 1 ≤ nx) (hx2 : nx ≤ 4611686018427387904)
    (hX : ∀ g h r, lst r g = withM ms mk mt my mv (lst f n) → All PP (X1 g nx h r)) :
    ∀ (k it got : Nat) (fr : Int) (h : Nat) (r : Nat → V), it ≤ 500 → 500 - it < k → 1 ≤ fr → fr ≤ nx → lst r got = (withM ms mk mt my mv (lst f n)).filter (fun v => decide (sq v < fr)) → (fr < nx → it ≤ got) →
      All PP (Lf11_3_0 X0 X1 (m : Int) nx ms mk mt my mv n f k got fr (ofN it) h r)
  | 0, it, got, fr, h, r, _, hk, _, _, _, _ => by omega
  | k + 1, it, got, fr, h, r, hit, hk, hf1, hf2, hr, hi => by
    have ih := lf3 X0 X1 m nx ms mk mt my mv n f hS hm1 hm2 hn hx1 hx2 hX k
    show All PP (Rd11_3_0 (Lf11_3_0 X0 X1 (m : Int) nx ms mk mt my mv n f k) X0 X1 (m : Int) nx ms mk mt my mv n f got fr (ofN it) h r)
    generalize Lf11_3_0 X0 X1 (m : Int) nx ms mk mt my mv n f k = NX at ih ⊢
    unfold Rd11_3_0
    have hA := hS.all (mt := mt) (my := my) (mv := mv)
    have hAl := hA.len
    rw [lst_len] at hAl
    generalize hAe : withM ms mk mt my mv (lst f n) = A at hA hAl hr hX ih
    have hgot : got ≤ A.length := by
      have := congrArg List.length hr
      rw [lst_len] at this
      have h2 := List.length_filter_le (fun v => decide (sq v < fr)) A
      omega
    have hall : A.filter (fun v => decide (sq v < nx)) = A := List.filter_eq_self.2 fun v hv => by simpa using (hA.ops v hv).2
    have fin : ¬ fr < nx → All PP (X1 got fr h r) := fun hge => by
      have : fr = nx := by omega
      subst this
      exact hX got h r (by rw [hr, hall])
    refine ailt (fun h5 => ailt (fun hlt => ?_) fin) (fun h5 => fin fun hlt => ?_)
    · have h5 : it < 500 := by simp only [ofN] at h5; omega
      have hit' := hi hlt
      rw [wrap_succ (i := it) (by omega)]
      have hmem : ∀ i, i < n → etaOp (f i) ∈ lst f n := fun i hi => lst_mem.2 ⟨i, hi, rfl⟩
      have hms : 0 ≤ ms ∧ ms ≤ 9223372036854775807 := by
        rcases hS.mark with h0 | ⟨a, b, _, _⟩ <;> omega
      have split := filter_split (S := A) (ms := fr) hA.rise
      refine allReplay _ fr m nx ms mk mt my mv n f hm1 hm2 (by omega) hS.rise (fun i hi => by have := (hS.ops _ (hmem i hi)).1; rw [sq_eta] at this; omega) hms.1 hms.2 (fun i hi => by have := (hS.ops _ (hmem i hi)).2.1; rw [sq_eta] at this; omega) hx1 (by omega) ?_ ?_
      · intro q N g hq hL
        rw [hAe] at hL
        have hLl : q ≤ A.length := by
          have := congrArg List.length hL
          rw [lst_len] at this
          have h2 := List.length_filter_le (keep fr) A
          omega
        refine ailt (fun h' => absurd h' (by simp only [ofN]; omega)) (fun _ => ailt (fun h' => absurd h' (by omega)) (fun _ => aile (fun h' => absurd h' (by omega)) (fun _ => ailen (fun _ => ?_) (fun h' => afail (by simp only [addN] at h'; omega)))))
        rw [wrap_add (by omega) (by omega), show nx - 1 + 1 = nx by omega]
        refine ih (it + 1) (got + q) nx _ _ (by omega) (by omega) hx1 (Int.le_refl _) ?_ (fun h' => absurd h' (by omega))
        show lst (joinF r g got) (got + q) = _
        rw [lst_joinN, hr, hL, hall]
        exact split
      · intro N g v hlen hv hL
        rw [hAe] at hlen hv hL
        have hvm := List.mem_filter.1 (List.mem_of_getElem? hv)
        have hvf : fr ≤ sq v := by have := hvm.2; unfold keep at this; simpa using this
        have hvn := (hA.ops v hvm.1).2
        refine ailt (fun h' => absurd h' (by simp only [ofN]; omega)) (fun _ => ailt (fun h' => absurd h' (by omega)) (fun _ => aile (fun h' => absurd h' (by omega)) (fun _ => ailen (fun _ => ?_) (fun h' => afail (by simp only [addN] at h'; omega)))))
        rw [wrap_add (by omega) (by omega)]
        refine ih (it + 1) (got + m) (sq v + 1) _ _ (by omega) (by omega) (by omega) (by omega) ?_ (fun _ => by omega)
        show lst (joinF r g got) (got + m) = _
        rw [lst_joinN, hr, hL]
        have e : A.filter (fun w => decide (sq w < sq v + 1)) = (A.filter (fun w => decide (sq w < fr))) ++ (A.filter (keep fr)).filter (fun w => decide (sq w < sq v + 1)) := by
          conv => lhs; rw [← split]
          rw [List.filter_append]
          congr 1
          rw [List.filter_eq_self]
          intro w hw
          have := (List.mem_filter.1 hw).2
          simp at this
          simp; omega
        rw [e, rising_take (hA.rise.filter _) hv, show m - 1 + 1 = m by omega]
    · have := hi hlt
      simp only [ofN] at h5
      omega
end
end Go.Proofs.Ytbplfgghcclgkaa
