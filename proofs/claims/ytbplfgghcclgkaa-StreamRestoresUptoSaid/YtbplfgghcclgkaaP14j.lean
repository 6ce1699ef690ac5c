/- The reference's cells of an operation. No conditions. -/
import Derived.Test.YtbplfgghcclgkaaP14i
import Derived.Test.YtbplfgghcclgkaaPp
open Go Go.VM
namespace Go.Proofs.Ytbplfgghcclgkaa
section
variable {β : Type} {PP : β → Prop}
theorem allIdsL (X0 : Nat → Nat → (Nat → V) → R β) (n0 : Nat) (f1 : Nat → V) (s t key : Int) (hn : n0 ≤ 3) (hs : 1 ≤ s) (hs' : s ≤ 4) (hr : ∀ j, j < n0 → 1 ≤ intV (f1 j)) (ht : inI t) (hk : inI key)
    (hX : ∀ n f, (∀ j, j < n0 → f j = idAt f1 s t key j) → All PP (X0 n0 n f)) :
    ∀ (k i n : Nat) (f : Nat → V), i ≤ n0 → n0 - i < k → (∀ j, j < i → f j = idAt f1 s t key j) → All PP (Lf35_0_0 X0 n0 f1 s t key k i (ofN i) n f)
  | 0, i, n, f, _, hk', _ => by omega
  | k + 1, i, n, f, hi, hk', hf => by
    have ih := allIdsL X0 n0 f1 s t key hn hs hs' hr ht hk hX k
    show All PP (Rd35_0_0 (Lf35_0_0 X0 n0 f1 s t key k) X0 n0 f1 s t key i (ofN i) n f)
    unfold Rd35_0_0
    refine ailt (fun h => ?_) (fun h => ?_)
    · have hlt : i < n0 := by simp only [ofN] at h; omega
      have hri := hr i hlt
      have nxt : ∀ (l d : Int) n', l = laneAt key s i → d = t / intV (f1 i) → All PP (Lf35_0_0 X0 n0 f1 s t key k (addN i 1) (ofN (i + 1)) n' (joinF f (litF (.nd 55 [.int .i64 0, .nd 53 [.int .i64 0, .int .i64 0]]) [.nd 55 [.int .i64 l, .nd 53 [.int .i64 d, .int .i64 key]]]) i)) := by
        intro l d n' hl hd
        refine ih (i + 1) _ _ (by omega) (by omega) (fun j hj => ?_)
        by_cases e : j = i
        · rw [e, joinF_ge _ _ (Nat.le_refl i), Nat.sub_self, hl, hd]; rfl
        · rw [joinF_lt _ _ (by omega)]; exact hf j (by omega)
      have hm3 := Int.emod_nonneg key (show s ≠ 0 by omega)
      have hm4 := Int.emod_lt_of_pos key (show 0 < s by omega)
      have hi' : i = 0 ∨ i = 1 ∨ i = 2 := by omega
      have hi5 : 0 ≤ ofN i * s ∧ ofN i * s ≤ 8 := by rcases hi' with e | e | e <;> subst e <;> simp only [ofN] <;> omega
      have hmul : wrapI .i64 (mulI (ofN i) s) = ofN i * s := wrap_in (n := ofN i * s) (by omega) (by omega)
      have hlane : ∀ m : Int, m = key % s → wrapI .i64 (addI (wrapI .i64 (mulI (ofN i) s)) m) = laneAt key s i := by
        intro m hm
        rw [hmul, hm, wrap_add (by omega) (by omega)]
        rfl
      rw [natI_ofN, wrap_succ (by omega)]
      repeat' first
        | refine ailt (fun _ => ?_) (fun _ => ?_)
        | refine aile (fun _ => ?_) (fun _ => ?_)
        | refine aieq (fun _ => ?_) (fun _ => ?_)
        | refine ailen (fun _ => ?_) (fun _ => ?_)
        | refine ainot ?_
        | refine aiand ?_
      all_goals first
        | (exfalso; simp only [ofN, addN] at *; omega)
        | exact nxt _ _ _ (hlane _ (refMod_pos (by assumption))) (refDiv_pos hri (by assumption) ht.2)
        | exact nxt _ _ _ (hlane _ (refMod_pos (by assumption))) (refDiv_neg hri (by omega) ht.1)
        | exact nxt _ _ _ (hlane _ (refMod_neg hs hs' (by omega) hk.1)) (refDiv_pos hri (by assumption) ht.2)
        | exact nxt _ _ _ (hlane _ (refMod_neg hs hs' (by omega) hk.1)) (refDiv_neg hri (by omega) ht.1)
    · have : i = n0 := by simp only [ofN] at h; omega
      subst this
      exact hX _ _ hf
theorem allIds (X0 : Nat → Nat → (Nat → V) → R β) (n0 : Nat) (f1 : Nat → V) (s t key : Int) (hn : n0 ≤ 3) (hs : 1 ≤ s) (hs' : s ≤ 4) (hr : ∀ j, j < n0 → 1 ≤ intV (f1 j)) (ht : inI t) (hk : inI key)
    (hX : ∀ n f, (∀ j, j < n0 → f j = idAt f1 s t key j) → All PP (X0 n0 n f)) : All PP (Df35_0 X0 t key n0 f1 s) := by
  unfold Df35_0
  exact allIdsL _ n0 f1 s t key hn hs hs' hr ht hk (fun n f hf => hX n f hf) NNo 0 0 _ (Nat.zero_le _) (by rw [NNo_eq]; unfold NN; omega) (fun j hj => absurd hj (by omega))
end
end Go.Proofs.Ytbplfgghcclgkaa
