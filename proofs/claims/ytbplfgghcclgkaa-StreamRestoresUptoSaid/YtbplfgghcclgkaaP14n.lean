/- A stream shows what the document's has. No conditions. -/
import Derived.Test.YtbplfgghcclgkaaP14t
open Go Go.VM
namespace Go.Proofs.Ytbplfgghcclgkaa
set_option maxRecDepth 100000
section
variable {β : Type} {PP : β → Prop}
structure RelS (nx ms mt : Int) (S : List V) (n : Nat) (f g : Nat → V) : Prop where
  held : S = heldL f g n
  mark : (lastM f n = 0 ∧ ms = 0) ∨ ∃ j, lastM f n = j + 1 ∧ ms = sq (f j) ∧ 0 < ms ∧ mt = tm (f j)
theorem allZero (X1 : R β) (n : Nat) (hn : n ≤ 1100000) (h1 : All PP X1) : ∀ (k i : Nat) (h : Nat → V), i ≤ n → n - i < k → All PP (Lf44_0_0 (fun _ => X1) n (ofN n) k (ofN i) h) := by
  intro k
  induction k with
  | zero => intro i h hi hk; omega
  | succ k ih =>
    intro i h hi hk
    show All PP (Rd44_0_0 (Lf44_0_0 (fun _ => X1) n (ofN n) k) _ n (ofN n) (ofN i) h)
    unfold Rd44_0_0
    refine ailt (fun hlt => ?_) (fun _ => h1)
    have hlt' : i < n := by simp only [ofN] at hlt; omega
    refine aiand (aile (fun _ => ailt (fun _ => ?_) (fun h' => absurd hlt h')) (fun h' => absurd (by simp only [ofN]; omega) h'))
    rw [wrap_succ (by omega)]
    exact ih (i + 1) _ (by omega) (by omega)
theorem allSame (X0 X1 : R β) (nx ms mt : Int) (n9 n10 n : Nat) (f21 f23 f g f31 : Nat → V) (hn : n ≤ 1100000) (hn9 : n9 ≤ 1100000) (hn10 : n10 ≤ 1100000) (hR : RelS nx ms mt (lst f21 n9) n f g) (hp : ∀ j, j < n10 → etaPl (f23 j) = etaPl (f31 j)) (h1 : All PP X1) :
    All PP (Df44_0 X0 X1 nx ms mt n9 n10 nx n n n10 f21 f23 f g f31) := by
  unfold Df44_0
  have tail : All PP (Df88_0 (fun n37 _ f39 => Df34_0 (X0) (iteR (leN n10 1073741824) (Df48_0 (X0) (Lf44_0_0 (fun _ => X1) n9 (ofN n9) NNo 0 f21) n10 f23 n10 f31) (.fail)) n9 f21 n37 f39) n n f g) :=
    allHeld _ n f g hn fun m N h hl => allOps _ _ n9 m f21 h (by omega) (by rw [hR.held, hl]) (ailen (fun _ => allPlaces _ _ n10 f23 f31 (by omega) hp (allZero X1 n9 hn9 h1 NNo 0 f21 (Nat.zero_le _) (by rw [NNo_eq]; unfold NN; omega))) (fun h' => afail (by omega)))
  rcases hR.mark with ⟨hz, rfl⟩ | ⟨j, hj, hms, hpos, hmt⟩
  · refine aieq (fun _ => ?_) (fun h => absurd rfl h)
    exact allLast _ _ n f hn (fun j hj => by omega) (fun _ => ailen (fun _ => ainot (aieq (fun _ => tail) (fun h => absurd rfl h))) (fun h' => afail (by omega)))
  · refine aieq (fun h => absurd h (by omega)) (fun _ => ?_)
    refine allLast _ _ n f hn (fun j' hj' => ?_) (fun h => by omega)
    have : j' = j := by omega
    subst this
    exact ailen (fun _ => ainot (aieq (fun _ => ainot (aieq (fun _ => ainot (aieq (fun _ => tail) (fun h => absurd rfl h))) (fun h => absurd hmt h))) (fun h => absurd hms h))) (fun h' => afail (by omega))
end
end Go.Proofs.Ytbplfgghcclgkaa
