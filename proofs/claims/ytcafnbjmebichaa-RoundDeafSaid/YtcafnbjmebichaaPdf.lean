/- A round that no answer of its own reaches stays as it began. No conditions. -/
import Derived.Test.YtcafnbjmebichaaD5sp
import Derived.Test.YtcafnbjmebichaaPb
open Go Go.VM
namespace Go.Proofs.Ytcafnbjmebichaa
section
variable {β : Type} {PP : β → Prop}
theorem deafStep {NX : Int → R β} {X0 X1 : Int → Int → Bool → Int → Int → Int → Int → Int → Int → Int → Int → Int → Int → Int → Int → Nat → (Nat → V) → R β} {X2 : R β}
    {n0 : Nat} {f1 : Nat → V} {N b1 b2 b3 i : Int} (h1 : 1 ≤ N) (h5 : N ≤ 5) (hi : 0 ≤ i)
    (hN : i < ofN n0 → All PP (NX (wrapI .i64 (addI i 1)))) (h2 : ¬ i < ofN n0 → All PP X2) :
    All PP (Rd5_0_0 NX X0 X1 X2 n0 f1 (ofN n0) N b1 b2 b3 N b1 b2 b3 1 0 0 0 0 i) := by
  unfold Rd5_0_0
  have hW : 0 ≤ intV (partV (f1 (natI i)) 1) → intV (partV (f1 (natI i)) 1) < N → wrapI .i64 (addI (intV (partV (f1 (natI i)) 1)) N) = intV (partV (f1 (natI i)) 1) + N :=
    fun a b => wrap_add (by omega) (by omega)
  generalize wrapI .i64 (addI (intV (partV (f1 (natI i)) 1)) N) = W at *
  generalize hkp : intV (partV (f1 (natI i)) 1) = kp at *
  generalize intV (partV (f1 (natI i)) 0) = kd at *
  generalize intV (partV (partV (f1 (natI i)) 3) 0) = c1 at *
  generalize intV (partV (partV (f1 (natI i)) 3) 1) = c2 at *
  generalize intV (partV (partV (f1 (natI i)) 3) 2) = c3 at *
  generalize wrapI .i64 (addI i 1) = nx at *
  generalize ofN n0 = nn at *
  have h00 : ofN 0 = 0 := rfl
  repeat' first
    | with_reducible refine ailt (fun _ => ?_) (fun _ => ?_)
    | with_reducible refine aile (fun _ => ?_) (fun _ => ?_)
    | with_reducible refine aieq (fun _ => ?_) (fun _ => ?_)
    | with_reducible refine ailen (fun _ => ?_) (fun _ => ?_)
    | with_reducible refine ainot ?_
    | with_reducible refine aiand ?_
    | with_reducible refine afail ?_
    | fail
  all_goals first
    | omega
    | exact hN (by assumption)
    | exact h2 (by assumption)
    | (exfalso; omega)
theorem deafLoop {X0 X1 : Int → Int → Bool → Int → Int → Int → Int → Int → Int → Int → Int → Int → Int → Int → Int → Nat → (Nat → V) → R β} {X2 : R β}
    {n0 : Nat} {f1 : Nat → V} {N b1 b2 b3 : Int} (h1 : 1 ≤ N) (h5 : N ≤ 5) (hn : n0 ≤ 200) (h2 : All PP X2) : ∀ (k : Nat) (i : Int), 0 ≤ i → i ≤ n0 → n0 < i + k →
    All PP (Lf5_0_0 X0 X1 X2 n0 f1 (ofN n0) N b1 b2 b3 N b1 b2 b3 1 0 0 0 0 k i)
  | 0, i, _, _, h => absurd h (by omega)
  | k + 1, i, ha, hb, hc => by
    unfold Lf5_0_0
    refine deafStep h1 h5 ha (fun hlt => ?_) (fun _ => h2)
    have hlt : i < n0 := hlt
    rw [wrap_add (by omega) (by omega)]
    exact deafLoop h1 h5 hn h2 k (i + 1) (by omega) (by omega) (by omega)
theorem deafP {X0 X1 : R β} {X2 : Bool → R β} (i0 i1 i2 i3 i4 : Int) (n5 n7 n9 : Nat) (f10 : Nat → V) (h5 : n5 ≤ 9223372036854775807) (h7 : n7 ≤ 9223372036854775807) (h0 : All PP X0) (h2 : All PP (X2 true)) :
    All PP (Df5_0 X0 X1 X2 i0 i1 i2 i3 i4 n5 n7 n9 f10) := by
  have e (a b c : Int) : andB (eqI a a) (andB (eqI b b) (eqI c c)) = true := by simp [andB, eqI, beqI]
  unfold Df5_0
  rw [e]
  simp only [wrap_i64, addI, ofN]
  repeat' first
    | with_reducible refine ailt (fun _ => ?_) (fun _ => ?_)
    | with_reducible refine aile (fun _ => ?_) (fun _ => ?_)
    | with_reducible refine aieq (fun _ => ?_) (fun _ => ?_)
    | with_reducible refine ailen (fun _ => ?_) (fun _ => ?_)
    | with_reducible refine ainot ?_
    | with_reducible refine aiand ?_
    | with_reducible refine afail ?_
    | fail
  all_goals first
    | exact h0
    | omega
    | exact deafLoop (by omega) (by omega) (by omega) h2 NNo 0 (by omega) (by omega) (by have : NNo = 9223372036854775808 := NNo_eq; omega)
end
end Go.Proofs.Ytcafnbjmebichaa
