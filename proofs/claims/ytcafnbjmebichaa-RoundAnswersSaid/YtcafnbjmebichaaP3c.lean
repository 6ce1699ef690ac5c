/- A map of keepers and the document's list of who answered. No conditions. -/
import Derived.Test.YtcafnbjmebichaaP3b
import Derived.Test.YtcafnbjmebichaaSrt
open Go Go.VM
namespace Go.Proofs.Ytcafnbjmebichaa
set_option maxRecDepth 100000
section
variable {β : Type} {PP : β → Prop}
/-- who answered, in order -/
def selL (has : Nat → V) (n : Nat) : List Nat := (List.range n).filter fun k => boolV (has k)
theorem selL_succ (has : Nat → V) (n : Nat) : selL has (n + 1) = selL has n ++ (if boolV (has n) = true then [n] else []) := by
  unfold selL
  rw [List.range_succ, List.filter_append]
  congr 1
  cases h : boolV (has n) <;> simp [h]
theorem selL_mem {has : Nat → V} {n k : Nat} : k ∈ selL has n ↔ k < n ∧ boolV (has k) = true := by
  unfold selL
  rw [List.mem_filter, List.mem_range]
theorem selL_len (has : Nat → V) (n : Nat) : (selL has n).length ≤ n := by
  unfold selL
  have := List.length_filter_le (fun k => boolV (has k)) (List.range n)
  rwa [List.length_range] at this
theorem selL_sorted (has : Nat → V) (n : Nat) : (selL has n).Pairwise (· < ·) := (List.pairwise_lt_range).filter _
theorem selL_nodup (has : Nat → V) (n : Nat) : (selL has n).Nodup := (selL_sorted has n).imp fun h => Nat.ne_of_lt h
/-- a map's keys are those of the keepers that answered -/
structure MapRel (n c : Nat) (L : Ents) (has : Nat → V) : Prop where
  ints : AllI L
  stamp : stampB c 0 L = true
  nodup : (keysI L).Nodup
  mem : ∀ a : Int, a ∈ keysI L ↔ ∃ k : Nat, k < n ∧ a = ofN k ∧ boolV (has k) = true
theorem MapRel.has {n c : Nat} {L : Ents} {has : Nat → V} (h : MapRel n c L has) {k : Nat} (hk : k < n) : hasK (.int .i64 (ofN k)) L = boolV (has k) := by
  have e := (hasK_keys h.ints (ofN k)).trans (h.mem (ofN k))
  cases hb : boolV (has k) with
  | true => exact e.2 ⟨k, hk, rfl, hb⟩
  | false =>
    cases hh : hasK (.int .i64 (ofN k)) L with
    | false => rfl
    | true =>
      obtain ⟨j, _, hj, hb'⟩ := e.1 hh
      have : k = j := by simp only [ofN] at hj; omega
      subst this
      rw [hb] at hb'; cases hb'
theorem boolV_set (has : Nat → V) (k j : Nat) : boolV (setF has k (.bool true) j) = (if j = k then true else boolV (has j)) := by
  unfold setF
  cases h : eqN j k with
  | true => rw [if_pos (eqN_iff.1 h)]; rfl
  | false => rw [if_neg (fun e => by rw [eqN_iff.2 e] at h; cases h)]
theorem MapRel.put {n c : Nat} {L : Ents} {has : Nat → V} (h : MapRel n c L has) {k : Nat} (hk : k < n) (x : V) : MapRel n (putC c (.int .i64 (ofN k)) L) (putL c (.int .i64 (ofN k)) x L) (setF has k (.bool true)) := by
  have hh := h.has hk
  refine ⟨allI_put h.ints c x _, stamp_put _ x (Nat.zero_le c) h.stamp, ?_, fun a => ?_⟩
  · rw [keysI_put]
    split
    · exact h.nodup
    · rename_i hne
      refine List.nodup_append.2 ⟨h.nodup, List.pairwise_singleton _ _, fun a ha b hb e => ?_⟩
      rw [List.mem_singleton.1 hb] at e
      subst e
      exact hne ((hasK_keys h.ints _).2 ha)
  · rw [keysI_put]
    have key : a = ofN k ∨ a ∈ keysI L ↔ ∃ j : Nat, j < n ∧ a = ofN j ∧ boolV (setF has k (.bool true) j) = true := by
      constructor
      · rintro (rfl | h')
        · exact ⟨k, hk, rfl, by rw [boolV_set, if_pos rfl]⟩
        · obtain ⟨j, a1, a2, a3⟩ := (h.mem a).1 h'
          exact ⟨j, a1, a2, by rw [boolV_set]; split <;> first | rfl | exact a3⟩
      · rintro ⟨j, a1, a2, a3⟩
        rw [boolV_set] at a3
        by_cases e : j = k
        · subst e; exact .inl a2
        · rw [if_neg e] at a3
          exact .inr ((h.mem a).2 ⟨j, a1, a2, a3⟩)
    split
    · rename_i hy
      rw [← key]
      exact ⟨.inr, fun h' => h'.elim (fun e => e ▸ (hasK_keys h.ints _).1 hy) id⟩
    · rw [List.mem_append, List.mem_singleton, ← key]
      exact Or.comm
theorem MapRel.keys {n c : Nat} {L : Ents} {has : Nat → V} (h : MapRel n c L has) : sortI (keysI L) = (selL has n).map ofN := by
  have nd : ((selL has n).map ofN).Nodup := by
    refine List.pairwise_map.2 ((selL_nodup has n).imp fun hab e => hab ?_)
    simp only [ofN] at e; omega
  have hp : (keysI L).Perm ((selL has n).map ofN) := (List.perm_ext_iff_of_nodup h.nodup nd).2 fun a => by
    rw [h.mem, List.mem_map]
    constructor
    · rintro ⟨k, h1, h2, h3⟩
      exact ⟨k, selL_mem.2 ⟨h1, h3⟩, h2.symm⟩
    · rintro ⟨k, h1, h2⟩
      obtain ⟨h3, h4⟩ := selL_mem.1 h1
      exact ⟨k, h3, h2.symm, h4⟩
  refine List.Perm.eq_of_pairwise (le := fun a b : Int => a ≤ b) (fun a b _ _ h1 h2 => Int.le_antisymm h1 h2) (sortI_sorted _) (List.pairwise_map.2 ((selL_sorted has n).imp fun hab => ?_)) ((sortI_perm _).trans hp)
  simp only [ofN]; omega
theorem MapRel.len {n c : Nat} {L : Ents} {has : Nat → V} (h : MapRel n c L has) : L.length = (selL has n).length := by
  have := congrArg List.length h.keys
  rw [(sortI_perm _).length_eq, List.length_map, keysI_eqm, List.length_map] at this
  exact this
/-- how many answered, by the document -/
theorem allCount (X0 : Int → R β) (n : Nat) (f : Nat → V) (hn : n ≤ 1000) (h : All PP (X0 (ofN (selL f n).length))) : All PP (Df85_0 X0 n f) := by
  unfold Df85_0
  have main : ∀ (k i : Nat), i ≤ n → n - i < k → All PP (Lf85_0_0 (fun i2 => X0 i2) n f k (ofN (selL f i).length) (ofN i)) := by
    intro k
    induction k with
    | zero => intro i hi hk; omega
    | succ k ih =>
      intro i hi hk
      show All PP (Rd85_0_0 (Lf85_0_0 (fun i2 => X0 i2) n f k) (fun i2 => X0 i2) n f (ofN (selL f i).length) (ofN i))
      unfold Rd85_0_0
      refine ailt (fun hlt => ?_) (fun hge => ?_)
      · have hlt' : i < n := by simp only [ofN] at hlt; omega
        have hl := selL_len f i
        refine aiand (aile (fun _ => ailt (fun _ => ?_) (fun h => absurd hlt h)) (fun h => absurd (by simp only [ofN]; omega) h))
        rw [natI_ofN', wrap_succ (by omega), wrap_succ (by omega)]
        have e := congrArg List.length (selL_succ f i)
        rw [List.length_append] at e
        refine all_iteR (fun hb => ?_) (fun hb => ?_)
        · rw [hb, if_pos rfl] at e
          have := ih (i + 1) (by omega) (by omega)
          rw [e] at this
          exact this
        · rw [hb] at e
          have := ih (i + 1) (by omega) (by omega)
          rw [e] at this
          exact this
      · have : i = n := by simp only [ofN] at hge; omega
        subst this
        exact h
  exact main NNo 0 (Nat.zero_le _) (by rw [NNo_eq]; unfold NN; omega)
/-- the document's list of registers -/
theorem allList11 (X0 : Nat → Nat → (Nat → V) → R β) (n : Nat) (has regs : Nat → V) (hn : n ≤ 1000)
    (h : ∀ N g, (∀ i k, (selL has n)[i]? = some k → likeR (g i) (regs k)) → All PP (X0 (selL has n).length N g)) (N0 : Nat) (g0 : Nat → V) :
    All PP (Lf44_0_0 X0 (ofN n) n n has regs NNo 0 0 N0 g0) := by
  have main : ∀ (k i N : Nat) (g : Nat → V), i ≤ n → n - i < k → (∀ j q, (selL has i)[j]? = some q → likeR (g j) (regs q)) → All PP (Lf44_0_0 X0 (ofN n) n n has regs k (selL has i).length (ofN i) N g) := by
    intro k
    induction k with
    | zero => intro i N g hi hk; omega
    | succ k ih =>
      intro i N g hi hk hg
      show All PP (Rd44_0_0 (Lf44_0_0 X0 (ofN n) n n has regs k) X0 (ofN n) n n has regs (selL has i).length (ofN i) N g)
      unfold Rd44_0_0
      refine ailt (fun hlt => ?_) (fun hge => ?_)
      · have hlt' : i < n := by simp only [ofN] at hlt; omega
        have hl := selL_len has i
        have inr : ∀ {x y : R β}, All PP x → All PP (iteR (andB (leI 0 (ofN i)) (ltI (ofN i) (ofN n))) x y) := fun hx => aiand (aile (fun _ => ailt (fun _ => hx) (fun h => absurd hlt h)) (fun h => absurd (by simp only [ofN]; omega) h))
        refine inr ?_
        rw [natI_ofN', wrap_succ (by omega)]
        have e := selL_succ has i
        refine all_iteR (fun hb => inr (ailen (fun _ => ?_) (fun h => absurd (by simp only [addN]; omega) h))) (fun hb => ?_)
        · rw [hb, if_pos rfl] at e
          have el := congrArg List.length e
          rw [List.length_append] at el
          have := ih (i + 1) (addN (selL has i).length 1) (joinF g (litF (.nd 40 [.nd 23 [.int .i64 0, .int .i64 0, .int .i64 0], .nd 23 [.int .i64 0, .int .i64 0, .int .i64 0], .nils]) [.nd 40 [.nd 23 [.int .i64 (intV (partV (partV (regs i) 0) 0)), .int .i64 (intV (partV (partV (regs i) 0) 1)), .int .i64 (intV (partV (partV (regs i) 0) 2))], .nd 23 [.int .i64 (intV (partV (partV (regs i) 1) 0)), .int .i64 (intV (partV (partV (regs i) 1) 1)), .int .i64 (intV (partV (partV (regs i) 1) 2))], .view 3 (viewN (partV (regs i) 2)) (viewF (partV (regs i) 2))]]) (selL has i).length) (by omega) (by omega) (fun j q hq => ?_)
          · rw [el] at this
            exact this
          · rw [e] at hq
            by_cases hj : j < (selL has i).length
            · rw [List.getElem?_append_left hj] at hq
              rw [joinF_lt hj]
              exact hg j q hq
            · have hj' : j = (selL has i).length := by
                rw [List.getElem?_append_right (by omega)] at hq
                have := (List.getElem?_eq_some_iff.1 hq).1
                simp at this
                omega
              subst hj'
              rw [List.getElem?_append_right (Nat.le_refl _), Nat.sub_self] at hq
              have hq : i = q := by simpa using hq
              subst hq
              rw [joinF_ge (Nat.le_refl _), Nat.sub_self]
              exact ⟨rfl, rfl, rfl, rfl, fun _ _ => rfl⟩
        · rw [hb] at e
          have e : selL has (i + 1) = selL has i := by rw [e]; simp
          have := ih (i + 1) N g (by omega) (by omega) (fun j q hq => hg j q (by rw [e] at hq; exact hq))
          rw [e] at this
          exact this
      · have : i = n := by simp only [ofN] at hge; omega
        subst this
        exact h N g hg
  exact main NNo 0 N0 g0 (Nat.zero_le _) (by rw [NNo_eq]; unfold NN; omega) (fun j q hq => by cases hq)
end
end Go.Proofs.Ytcafnbjmebichaa
