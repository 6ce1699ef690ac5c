/- The reference's cells of an operation; lists of operations side by side; the case's length. No conditions. -/
import Derived.Test.YtbplfgghcclgkaaPs8
import Derived.Test.YtbplfgghcclgkaaPp
open Go Go.VM
namespace Go.Proofs.Ytbplfgghcclgkaa
section
variable {β : Type} {PP : β → Prop}
theorem wrap_succ' {i : Nat} (h : i < 9223372036854775807) : wrapI .i64 (addI (ofN i) 1) = ofN (i + 1) := by
  have : addI (ofN i) 1 = ofN (i + 1) := by simp [addI, ofN]
  rw [this]
  exact wrap_in (by simp [ofN]; omega) (by simp [ofN]; omega)
/-- an operation's time and key are numbers of 64 bits -/
def rangeOp (v : V) : Prop := inI (intV (partV v 2)) ∧ inI (intV (partV v 3))

theorem allIdsL (X0 : Nat → Int → Bool → Nat → (Nat → V) → R β) (n0 : Nat) (f1 : Nat → V) (s t key : Int) (hn : n0 ≤ 3) (hs : 1 ≤ s) (hs' : s ≤ 4) (hr : ∀ j, j < n0 → 1 ≤ intV (f1 j)) (ht : inI t) (hk : inI key)
    (hX : ∀ i b n f, (∀ j, j < n0 → f j = idAt f1 s t key j) → All PP (X0 n0 i b n f)) :
    ∀ (k i n : Nat) (f : Nat → V), i ≤ n0 → n0 - i < k → (∀ j, j < i → f j = idAt f1 s t key j) → All PP (Lf35_0_0 X0 n0 f1 s t key k i (ofN i) n f)
  | 0, i, n, f, _, hk', _ => by omega
  | k + 1, i, n, f, hi, hk', hf => by
    have ih := allIdsL X0 n0 f1 s t key hn hs hs' hr ht hk hX k
    show All PP (Rd35_0_0 (Lf35_0_0 X0 n0 f1 s t key k) X0 n0 f1 s t key i (ofN i) n f)
    unfold Rd35_0_0
    refine ailt (fun h => ?_) (fun h => ?_)
    · have hlt : i < n0 := by simp only [ofN] at h; omega
      have hri := hr i hlt
      have nxt : ∀ (l d : Int) n', l = laneAt key s i → d = t / intV (f1 i) → All PP (Lf35_0_0 X0 n0 f1 s t key k (addN i 1) (ofN (i + 1)) n' (joinF f (litF (.nd 55 [.int .i64 0, .nd 53 [.int .i64 0, .int .i64 0]]) [.nd 55 [.int .i64 l, .nd 53 [.int .i64 d, .int .i64 key]]]) i)) := by
        intro l d n' hl hd
        refine ih (i + 1) _ _ (by omega) (by omega) (fun j hj => ?_)
        by_cases e : j = i
        · rw [e, joinF_ge _ _ (Nat.le_refl i), Nat.sub_self, hl, hd]; rfl
        · rw [joinF_lt _ _ (by omega)]; exact hf j (by omega)
      have hm3 := Int.emod_nonneg key (show s ≠ 0 by omega)
      have hm4 := Int.emod_lt_of_pos key (show 0 < s by omega)
      have hi' : i = 0 ∨ i = 1 ∨ i = 2 := by omega
      have hi5 : 0 ≤ ofN i * s ∧ ofN i * s ≤ 8 := by rcases hi' with e | e | e <;> subst e <;> simp only [ofN] <;> omega
      have hmul : wrapI .i64 (mulI (ofN i) s) = ofN i * s := wrap_in (n := ofN i * s) (by omega) (by omega)
      have hlane : ∀ m : Int, m = key % s → wrapI .i64 (addI (wrapI .i64 (mulI (ofN i) s)) m) = laneAt key s i := by
        intro m hm
        rw [hmul, hm, wrap_add (by omega) (by omega)]
        rfl
      rw [natI_ofN, wrap_succ (by omega)]
      repeat' first
        | refine ailt (fun _ => ?_) (fun _ => ?_)
        | refine aile (fun _ => ?_) (fun _ => ?_)
        | refine aieq (fun _ => ?_) (fun _ => ?_)
        | refine ailen (fun _ => ?_) (fun _ => ?_)
        | refine ainot ?_
        | refine aiand ?_
      all_goals first
        | (exfalso; simp only [ofN, addN] at *; omega)
        | exact nxt _ _ _ (hlane _ (refMod_pos (by assumption))) (refDiv_pos hri (by assumption) ht.2)
        | exact nxt _ _ _ (hlane _ (refMod_pos (by assumption))) (refDiv_neg hri (by omega) ht.1)
        | exact nxt _ _ _ (hlane _ (refMod_neg hs hs' (by omega) hk.1)) (refDiv_pos hri (by assumption) ht.2)
        | exact nxt _ _ _ (hlane _ (refMod_neg hs hs' (by omega) hk.1)) (refDiv_neg hri (by omega) ht.1)
    · have : i = n0 := by simp only [ofN] at h; omega
      subst this
      exact hX _ _ _ _ hf
theorem allIds (X0 : Nat → Nat → (Nat → V) → R β) (n0 : Nat) (f1 : Nat → V) (s t key : Int) (hn : n0 ≤ 3) (hs : 1 ≤ s) (hs' : s ≤ 4) (hr : ∀ j, j < n0 → 1 ≤ intV (f1 j)) (ht : inI t) (hk : inI key)
    (hX : ∀ n f, (∀ j, j < n0 → f j = idAt f1 s t key j) → All PP (X0 n0 n f)) : All PP (Df35_0 X0 t key n0 f1 s) := by
  unfold Df35_0
  exact allIdsL _ n0 f1 s t key hn hs hs' hr ht hk (fun i b n f hf => hX n f hf) NNo 0 0 _ (Nat.zero_le _) (by rw [NNo_eq]; unfold NN; omega) (fun j hj => absurd hj (by omega))

/-! ### estuarynum.Ops -/
theorem eqOp_iff {a b : V} : (andB (eqI (intV (partV a 0)) (intV (partV b 0))) (andB (eqI (intV (partV a 1)) (intV (partV b 1))) (andB (eqI (intV (partV a 2)) (intV (partV b 2))) (andB (eqI (intV (partV a 3)) (intV (partV b 3))) (eqI (intV (partV a 4)) (intV (partV b 4))))))) = true ↔ etaOp a = etaOp b := by
  simp [andB, eqI, etaOp]
theorem lst_at {f g : Nat → V} {n : Nat} (h : lst f n = lst g n) {i : Nat} (hi : i < n) : etaOp (f i) = etaOp (g i) := by
  have h1 : (lst f n)[i]? = (lst g n)[i]? := by rw [h]
  simpa [lst, hi] using h1
theorem allOpsL (X0 : Int → Bool → Bool → R β) (X1 : Int → Bool → R β) (n : Nat) (f1 f3 : Nat → V) (hn : n ≤ 1073741824) (he : lst f1 n = lst f3 n) (hX : ∀ i b, All PP (X1 i b)) :
    ∀ (k i : Nat), i ≤ n → n - i < k → All PP (Lf34_0_0 X0 X1 n f1 n f3 (ofN n) k (ofN i))
  | 0, i, _, hk => by omega
  | k + 1, i, hi, hk => by
    show All PP (Rd34_0_0 (Lf34_0_0 X0 X1 n f1 n f3 (ofN n) k) X0 X1 n f1 n f3 (ofN n) (ofN i))
    unfold Rd34_0_0
    refine ailt (fun h => ?_) (fun h => hX _ _)
    have hlt : i < n := by simp only [ofN] at h; omega
    refine aiand (aile (fun _ => ailt (fun _ => ?_) (fun h' => absurd h h')) (fun h' => afail (by simp only [ofN] at h'; omega)))
    refine aiand (aile (fun _ => ailt (fun _ => ?_) (fun h' => absurd h h')) (fun h' => afail (by simp only [ofN] at h'; omega)))
    rw [natI_ofN]
    refine ainot (all_iteR (fun _ => ?_) (fun hc => ?_))
    · rw [wrap_succ (by omega)]
      exact allOpsL X0 X1 n f1 f3 hn he hX k (i + 1) (by omega) (by omega)
    · rw [eqOp_iff.2 (lst_at he hlt)] at hc
      cases hc
/-- alike lists: true -/
theorem allOps (X0 X1 : R β) (n0 n2 : Nat) (f1 f3 : Nat → V) (hn : n0 ≤ 1073741824) (he : lst f1 n0 = lst f3 n2) (hX : All PP X1) : All PP (Df34_0 X0 X1 n0 f1 n2 f3) := by
  have e : n0 = n2 := by have := congrArg List.length he; rwa [lst_len, lst_len] at this
  subst e
  unfold Df34_0
  refine ainot (aieq (fun _ => ?_) (fun h => absurd rfl h))
  exact allOpsL _ _ n0 f1 f3 hn he (fun _ _ => hX) NNo 0 (Nat.zero_le _) (by rw [NNo_eq]; unfold NN; omega)

/-! ### Case.long -/
theorem allLongL (X0 : Int → Int → Bool → R β) (n : Nat) (f : Nat → V) (hn : n ≤ 9223372036854775807) (hX : ∀ a b c, All PP (X0 a b c)) :
    ∀ (k i : Nat) (a : Int), i ≤ n → n - i < k → All PP (Lf28_0_0 X0 n f (ofN n) k a (ofN i))
  | 0, i, a, _, hk => by omega
  | k + 1, i, a, hi, hk => by
    show All PP (Rd28_0_0 (Lf28_0_0 X0 n f (ofN n) k) X0 n f (ofN n) a (ofN i))
    unfold Rd28_0_0
    refine ailt (fun h => ?_) (fun h => hX _ _ _)
    have hlt : i < n := by simp only [ofN] at h; omega
    refine aiand (aile (fun _ => ailt (fun _ => ?_) (fun h' => absurd h h')) (fun h' => afail (by simp only [ofN] at h'; omega)))
    rw [wrap_succ' (by omega)]
    exact allLongL X0 n f hn hX k (i + 1) _ (by omega) (by omega)
/-- whatever it says -/
theorem allLong (X0 : Bool → R β) (n0 n4 : Nat) (f5 : Nat → V) (hn : n4 ≤ 9223372036854775807) (hX : ∀ b, All PP (X0 b)) : All PP (Df28_0 X0 n0 n4 f5) := by
  unfold Df28_0
  exact allLongL _ n4 f5 hn (fun a b c => hX _) NNo 0 _ (Nat.zero_le _) (by rw [NNo_eq]; unfold NN; omega)
end
end Go.Proofs.Ytbplfgghcclgkaa
