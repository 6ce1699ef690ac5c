/- What the document restores. No conditions. -/
import Derived.Test.YtbplfgghcclgkaaP14A
open Go Go.VM
namespace Go.Proofs.Ytbplfgghcclgkaa
set_option maxRecDepth 100000
section
variable {β : Type} {PP : β → Prop}
def opM (ms mk mt my mv : Int) : V := .nd 38 [.int .i64 ms, .int .i64 mk, .int .i64 mt, .int .i64 my, .int .i64 mv]
structure RI (ms mk mt my mv : Int) (f : Nat → V) (told : Bool) (i N : Nat) (h : Nat → V) : Prop where
  held : heldL h (constF (.bool false)) N = lst f i
  mark : noneB ms mk mt my mv = false → told = true → ∃ p, lastM h N = p + 1 ∧ etaOp (h p) = opM ms mk mt my mv
  zero : (noneB ms mk mt my mv = false → told = false) → lastM h N = 0
  size : N ≤ i + 1 ∧ (told = false → N = i)
variable {ms mk mt my mv : Int} {f : Nat → V} {told : Bool} {i N : Nat} {h : Nat → V}
theorem RI.smp (r : RI ms mk mt my mv f told i N h) {z : V} (hk : intV (partV (f i) 1) = 1) (hs : told = false → N + 1 ≤ i + 1) :
    RI ms mk mt my mv f told (i + 1) (N + 1) (joinF h (litF z [.nd 38 [.int .i64 (intV (partV (f i) 0)), .int .i64 (intV (partV (f i) 1)), .int .i64 (intV (partV (f i) 2)), .int .i64 (intV (partV (f i) 3)), .int .i64 (intV (partV (f i) 4))]]) N) := by
  have hl : lastM (joinF h (litF z [.nd 38 [.int .i64 (intV (partV (f i) 0)), .int .i64 (intV (partV (f i) 1)), .int .i64 (intV (partV (f i) 2)), .int .i64 (intV (partV (f i) 3)), .int .i64 (intV (partV (f i) 4))]]) N) (N + 1) = lastM h N := by
    show (if kd _ = 2 then N + 1 else _) = _
    rw [join_at]
    refine (if_neg (show ¬ intV (partV (f i) 1) = 2 by omega)).trans ?_
    exact lastM_congr N fun j hj => by rw [join_lt _ _ _ _ hj]
  refine ⟨?_, fun hn ht => ?_, fun hz => by rw [hl]; exact r.zero hz, ⟨by have := r.size.1; omega, fun h => by have := r.size.2 h; omega⟩⟩
  · show heldL _ _ N ++ _ = _
    rw [join_at, lst_succ, ← r.held]
    rw [if_pos ⟨hk, rfl⟩]
    congr 1
    exact heldL_congr2 N fun j hj => ⟨join_lt _ _ _ _ hj, rfl⟩
  · obtain ⟨p, a, b⟩ := r.mark hn ht
    have := lastM_le h N
    exact ⟨p, by rw [hl]; exact a, by rw [join_lt _ _ _ _ (by omega)]; exact b⟩
theorem RI.mrk (r : RI ms mk mt my mv f false i N h) {z : V} (hk : mk = 2) : RI ms mk mt my mv f true i (N + 1) (joinF h (litF z [opM ms mk mt my mv]) N) := by
  refine ⟨?_, fun hn _ => ⟨N, ?_, by rw [join_at]; rfl⟩, fun hz => ?_, ⟨by have := r.size.2 rfl; omega, fun h => by cases h⟩⟩
  · show heldL _ _ N ++ _ = _
    rw [join_at, if_neg (by rintro ⟨a, _⟩; exact absurd (show mk = 1 from a) (by omega)), List.append_nil, ← r.held]
    exact heldL_congr2 N fun j hj => ⟨join_lt _ _ _ _ hj, rfl⟩
  · show (if kd _ = 2 then N + 1 else _) = _
    rw [join_at]
    exact if_pos hk
  · cases hn : noneB ms mk mt my mv with
    | false => exact absurd (hz hn) (by decide)
    | true => have := (noneB_iff.1 hn).2.1; omega
theorem chkSmp (B C : R β) (nx ms mt : Int) (nb : Bool) (n : Nat) (f : Nat → V) (i N : Nat) (hn : n ≤ 1100000) (hi : i < n) (hb : nb = true → ms = 0) (hN : N ≤ 1073741824) (hB : ¬ okSmp nx ms mt nb f i → All PP B) (hC : okSmp nx ms mt nb f i → All PP C) :
    All PP (iteR (notB (eqI (intV (partV (f i) 1)) 1)) B (iteR (ltI (intV (partV (f i) 0)) 1) B (iteR (leI nx (intV (partV (f i) 0))) B (iteR (ltI 0 (ofN i)) (iteR (andB (leI 0 (wrapI .i64 (subI (ofN i) 1))) (ltI (wrapI .i64 (subI (ofN i) 1)) (ofN n))) (iteR (leI (intV (partV (f i) 0)) (intV (partV (f (natI (wrapI .i64 (subI (ofN i) 1)))) 0))) B
      (iteR (notB nb) (iteR (eqI (intV (partV (f i) 0)) ms) B (iteR (ltI ms (intV (partV (f i) 0))) (iteR (ltI (intV (partV (f i) 2)) mt) B (iteR (leN N 1073741824) C .fail)) (iteR (leN N 1073741824) C .fail))) (iteR (leN N 1073741824) C .fail))) .fail)
      (iteR (notB nb) (iteR (eqI (intV (partV (f i) 0)) ms) B (iteR (ltI ms (intV (partV (f i) 0))) (iteR (ltI (intV (partV (f i) 2)) mt) B (iteR (leN N 1073741824) C .fail)) (iteR (leN N 1073741824) C .fail))) (iteR (leN N 1073741824) C .fail)))))) := by
  refine ainot (aieq (fun c1 => ?_) (fun c1 => hB fun o => c1 o.1))
  refine ailt (fun c2 => hB fun o => by have := o.2.1; omega) (fun c2 => ?_)
  refine aile (fun c3 => hB fun o => by have := o.2.2.1; omega) (fun c3 => ?_)
  have rest : (0 < i → intV (partV (f (i - 1)) 0) < intV (partV (f i) 0)) → All PP (iteR (notB nb) (iteR (eqI (intV (partV (f i) 0)) ms) B (iteR (ltI ms (intV (partV (f i) 0))) (iteR (ltI (intV (partV (f i) 2)) mt) B (iteR (leN N 1073741824) C .fail)) (iteR (leN N 1073741824) C .fail))) (iteR (leN N 1073741824) C .fail)) := fun c4 => by
    have fin : (nb = false → intV (partV (f i) 0) ≠ ms ∧ (ms < intV (partV (f i) 0) → mt ≤ intV (partV (f i) 2))) → All PP (iteR (leN N 1073741824) C .fail) := fun c5 => ailen (fun _ => hC ⟨c1, by omega, by omega, c4, c5⟩) (fun h => absurd hN h)
    refine ainot (all_iteR (fun hc => fin fun h => by rw [hc] at h; cases h) (fun hc => aieq (fun c5 => hB fun o => (o.2.2.2.2 hc).1 c5) (fun c5 => ailt (fun c6 => ailt (fun c7 => hB fun o => ?_) (fun c7 => fin fun _ => ⟨c5, fun _ => by omega⟩)) (fun c6 => fin fun _ => ⟨c5, fun h => absurd h c6⟩))))
    have := (o.2.2.2.2 hc).2 c6
    omega
  refine ailt (fun hp => ?_) (fun hp => rest fun h => absurd (by simp only [ofN]; omega) hp)
  have hp : 0 < i := by simp only [ofN] at hp; omega
  have e1 : wrapI .i64 (subI (ofN i) 1) = ofN (i - 1) := by
    rw [wrap_sub (by simp only [ofN]; omega) (by simp only [ofN]; omega)]
    simp only [ofN]; omega
  rw [e1, natI_ofN]
  refine aiand (aile (fun _ => ailt (fun _ => aile (fun c4 => hB fun o => ?_) (fun c4 => rest fun _ => by omega)) (fun h => absurd (by simp only [ofN]; omega) h)) (fun h => absurd (by simp only [ofN]; omega) h))
  have := o.2.2.2.1 hp
  omega
theorem all47L (X0 : Nat → Int → Int → Int → Int → Int → (Nat → V) → (Nat → V) → R β) (X1 : Nat → Nat → (Nat → V) → Int → Int → Int → Int → Int → R β) (X2 : Bool → Nat → Nat → (Nat → V) → R β) (nx : Int) (n : Nat) (f : Nat → V) (ms mk mt my mv : Int) (hn : n ≤ 1100000) (hmk : noneB ms mk mt my mv = false → mk = 2)
    (h0 : ∀ a b c d e g h i, (∃ i, i < n ∧ ¬ okSmp nx ms mt (noneB ms mk mt my mv) f i) → All PP (X0 a b c d e g h i)) (h1 : ∀ a b c d e g h i, (∃ i, i < n ∧ ¬ okSmp nx ms mt (noneB ms mk mt my mv) f i) → All PP (X1 a b c d e g h i))
    (h2 : (∀ i, i < n → okSmp nx ms mt (noneB ms mk mt my mv) f i) → ∀ told N h, RI ms mk mt my mv f told n N h → (noneB ms mk mt my mv = true → told = true) → All PP (X2 told N N h)) :
    ∀ (k i : Nat) (told : Bool) (N : Nat) (h : Nat → V), i ≤ n → n - i < k → RI ms mk mt my mv f told i N h → (noneB ms mk mt my mv = true → told = true) → (∀ j, j < i → okSmp nx ms mt (noneB ms mk mt my mv) f j) →
      All PP (Lf47_0_0 X0 X1 X2 nx n f (noneB ms mk mt my mv) ms mk mt my mv k told (ofN i) N N h)
  | 0, i, told, N, h, _, hk, _, _, _ => by omega
  | k + 1, i, told, N, h, hi, hk, r, ht, hok => by
    have ih := all47L X0 X1 X2 nx n f ms mk mt my mv hn hmk h0 h1 h2 k
    show All PP (Rd47_0_0 (Lf47_0_0 X0 X1 X2 nx n f (noneB ms mk mt my mv) ms mk mt my mv k) X0 X1 X2 nx n f (noneB ms mk mt my mv) ms mk mt my mv told (ofN i) N N h)
    generalize Lf47_0_0 X0 X1 X2 nx n f (noneB ms mk mt my mv) ms mk mt my mv k = NX at ih ⊢
    unfold Rd47_0_0
    refine ailt (fun hlt => ?_) (fun hge => ?_)
    · have hlt' : i < n := by simp only [ofN] at hlt; omega
      have hsz := r.size.1
      refine aiand (aile (fun _ => ailt (fun _ => ?_) (fun h => absurd hlt h)) (fun h => absurd (by simp only [ofN]; omega) h))
      rw [natI_ofN, wrap_succ (by omega)]
      have hz : noneB ms mk mt my mv = true → ms = 0 := fun h => (noneB_iff.1 h).1
      have next : okSmp nx ms mt (noneB ms mk mt my mv) f i → ∀ j, j < i + 1 → okSmp nx ms mt (noneB ms mk mt my mv) f j := fun o j hj => by
        by_cases e : j = i
        · subst e; exact o
        · exact hok j (by omega)
      refine ainot (all_iteR (fun htold => ?_) (fun htold => ?_))
      · refine chkSmp _ _ nx ms mt (noneB ms mk mt my mv) n f i (addN N 1) hn hlt' hz (by simp only [addN]; omega) (fun hb => h1 _ _ _ _ _ _ _ _ ⟨i, hlt', hb⟩) (fun o => ?_)
        exact ih (i + 1) told (N + 1) _ (by omega) (by omega) (r.smp o.1 (fun h => by rw [htold] at h; cases h)) ht (next o)
      · subst htold
        have hne : noneB ms mk mt my mv = false := by
          cases hc : noneB ms mk mt my mv with
          | false => rfl
          | true => exact absurd (ht hc) (by decide)
        have hNi := r.size.2 rfl
        refine ailt (fun hms => ?_) (fun hms => ?_)
        · refine ailen (fun _ => ?_) (fun h => absurd (by simp only [addN]; omega) h)
          refine chkSmp _ _ nx ms mt (noneB ms mk mt my mv) n f i (addN (addN N 1) 1) hn hlt' hz (by simp only [addN]; omega) (fun hb => h0 _ _ _ _ _ _ _ _ ⟨i, hlt', hb⟩) (fun o => ?_)
          exact ih (i + 1) true (N + 1 + 1) _ (by omega) (by omega) ((r.mrk (hmk hne)).smp o.1 (fun h => by cases h)) (fun _ => rfl) (next o)
        · refine chkSmp _ _ nx ms mt (noneB ms mk mt my mv) n f i (addN N 1) hn hlt' hz (by simp only [addN]; omega) (fun hb => h1 _ _ _ _ _ _ _ _ ⟨i, hlt', hb⟩) (fun o => ?_)
          exact ih (i + 1) false (N + 1) _ (by omega) (by omega) (r.smp o.1 (fun _ => by omega)) ht (next o)
    · have : i = n := by simp only [ofN] at hge; omega
      subst this
      exact h2 hok told N h r ht
theorem all47 (X0 : R β) (X1 : Nat → Nat → Nat → Nat → (Nat → V) → (Nat → V) → (Nat → V) → R β) (nx ms mk mt my mv : Int) (n : Nat) (f : Nat → V) (n8 : Nat) (f9 : Nat → V) (m : Nat) (hn : n ≤ 1100000) (h8 : n8 ≤ 1073741824) (h0 : ¬ OkRest nx ms mk mt my mv n f n8 m → All PP X0)
    (h1 : OkRest nx ms mk mt my mv n f n8 m → ∀ N h, N ≤ n + 1 → RelS nx ms mt (lst f n) N h (constF (.bool false)) → All PP (X1 N N n8 N h (constF (.bool false)) (joinF (litF (.nd 53 [.int .i64 0, .int .i64 0]) []) f9 0))) :
    All PP (Df47_0 X0 X1 nx ms mk mt my mv n f n8 f9 m) := by
  unfold Df47_0
  refine ailt (fun h => h0 fun o => by have := o.next; omega) (fun c1 => ?_)
  refine ainot (aieq (fun c2 => ?_) (fun h => h0 fun o => h (by rw [o.lanes])))
  have c2 : n8 = m := by simp only [ofN] at c2; omega
  have loop : (noneB ms mk mt my mv = false → mk = 2 ∧ 1 ≤ ms ∧ ms < nx ∧ my = 0 ∧ mv = 0) → All PP (iteR (leN (addN 0 n8) 1073741824) (Lf47_0_0 (fun _ _ _ _ _ _ _ _ => X0) (fun _ _ _ _ _ _ _ _ => X0) (fun b61 n62 n63 f64 => iteR (notB b61) (iteR (leN (addN n62 1) 1073741824) (iteR (andB (andB (leI 0 (ofN (addN n62 1))) (leI (ofN (addN n62 1)) (ofN (addN n62 1)))) (leI (ofN (addN n62 1)) (ofN 1073741824))) (X1 (addN n62 1) (natI (ofN (addN n62 1))) (addN 0 n8) (addN n62 1) (joinF f64 (litF (.nd 38 [.int .i64 0, .int .i64 0, .int .i64 0, .int .i64 0, .int .i64 0]) [.nd 38 [.int .i64 ms, .int .i64 mk, .int .i64 mt, .int .i64 my, .int .i64 mv]]) n62) (constF (.bool false)) (joinF (litF (.nd 53 [.int .i64 0, .int .i64 0]) []) f9 0)) (.fail)) (.fail)) (iteR (andB (andB (leI 0 (ofN n62)) (leI (ofN n62) (ofN n62))) (leI (ofN n62) (ofN 1073741824))) (X1 n62 (natI (ofN n62)) (addN 0 n8) n63 f64 (constF (.bool false)) (joinF (litF (.nd 53 [.int .i64 0, .int .i64 0]) []) f9 0)) (.fail))) nx n f (noneB ms mk mt my mv) ms mk mt my mv NNo (noneB ms mk mt my mv) 0 0 0 (constF .junk)) (.fail)) := fun c3 => by
    refine ailen (fun _ => ?_) (fun h => absurd (by simp only [addN]; omega) h)
    refine all47L _ _ _ nx n f ms mk mt my mv hn (fun h => (c3 h).1) (fun _ _ _ _ _ _ _ _ ⟨i, hi, hb⟩ => h0 fun o => hb (o.smp i hi)) (fun _ _ _ _ _ _ _ _ ⟨i, hi, hb⟩ => h0 fun o => hb (o.smp i hi)) (fun hok told N h r ht => ?_) NNo 0 (noneB ms mk mt my mv) 0 (constF .junk) (Nat.zero_le _) (by rw [NNo_eq]; unfold NN; omega) ⟨rfl, fun h h' => (by rw [h] at h'; cases h'), fun _ => rfl, ⟨by omega, fun _ => rfl⟩⟩ (fun h => h) (fun j hj => absurd hj (by omega))
    have e0 : addN 0 n8 = n8 := by simp [addN]
    rw [e0]
    have ok : OkRest nx ms mk mt my mv n f n8 m := ⟨by omega, c2, c3, hok⟩
    have fin : ∀ N h, RI ms mk mt my mv f true n N h → All PP (iteR (andB (andB (leI 0 (ofN N)) (leI (ofN N) (ofN N))) (leI (ofN N) (ofN 1073741824))) (X1 N (natI (ofN N)) n8 N h (constF (.bool false)) (joinF (litF (.nd 53 [.int .i64 0, .int .i64 0]) []) f9 0)) (.fail)) := fun N h r => by
      have := r.size.1
      rw [natI_ofN]
      refine aiand (aiand (aile (fun _ => aile (fun _ => aile (fun _ => ?_) (fun h => absurd (by simp only [ofN]; omega) h)) (fun h => absurd (Int.le_refl _) h)) (fun h => absurd (by simp only [ofN]; omega) h)))
      refine h1 ok N h this ⟨r.held.symm, ?_⟩
      cases hc : noneB ms mk mt my mv with
      | true => exact .inl ⟨r.zero fun h => (by rw [hc] at h; cases h), (noneB_iff.1 hc).1⟩
      | false =>
        obtain ⟨p, a, b⟩ := r.mark hc rfl
        have hs : sq (h p) = ms := by rw [← sq_eta, b]; rfl
        have ht : tm (h p) = mt := by rw [← tm_eta, b]; rfl
        exact .inr ⟨p, a, hs.symm, by have := (c3 hc).2.1; omega, ht.symm⟩
    refine ainot (all_iteR (fun h => ?_) (fun h => ?_))
    · subst h; exact fin N _ r
    · subst h
      have := r.size.2 rfl
      refine ailen (fun _ => ?_) (fun h => absurd (by simp only [addN]; omega) h)
      have hne : noneB ms mk mt my mv = false := by
        cases hc : noneB ms mk mt my mv with
        | false => rfl
        | true => exact absurd (ht hc) (by decide)
      exact fin (N + 1) _ (r.mrk (c3 hne).1)
  show All PP (iteR (notB (noneB ms mk mt my mv)) (iteR (notB (eqI mk 2)) X0 (iteR (ltI ms 1) X0 (iteR (leI nx ms) X0 (iteR (notB (eqI my 0)) X0 (iteR (notB (eqI mv 0)) X0 _))))) _)
  refine ainot (all_iteR (fun hc => loop fun h => by rw [hc] at h; cases h) (fun hc => ?_))
  have bad : ¬ (mk = 2 ∧ 1 ≤ ms ∧ ms < nx ∧ my = 0 ∧ mv = 0) → All PP X0 := fun h => h0 fun o => h (o.mark hc)
  exact ainot (aieq (fun d1 => ailt (fun d2 => bad fun h => by omega) (fun d2 => aile (fun d3 => bad fun h => by omega) (fun d3 => ainot (aieq (fun d4 => ainot (aieq (fun d5 => loop fun _ => ⟨d1, by omega, by omega, d4, d5⟩) (fun d5 => bad fun h => d5 h.2.2.2.2))) (fun d4 => bad fun h => d4 h.2.2.2.1))))) (fun d1 => bad fun h => d1 h.1))
end
end Go.Proofs.Ytbplfgghcclgkaa
