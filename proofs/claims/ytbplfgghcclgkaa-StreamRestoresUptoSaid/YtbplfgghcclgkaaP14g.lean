/- What the document's stream answers to Sample, Mark and Put. No conditions. -/
import Derived.Test.YtbplfgghcclgkaaP14f
open Go Go.VM
namespace Go.Proofs.Ytbplfgghcclgkaa
set_option maxRecDepth 100000
section
variable {β : Type} {PP : β → Prop}
def early14 (f : Nat → V) (n : Nat) (t : Int) : Prop := ∃ j, lastM f n = j + 1 ∧ t < tm (f j)
theorem allEarly (X0 : Bool → R β) (X1 : R β) (t : Int) (n : Nat) (f : Nat → V) (hn : n ≤ 1100000) (h0 : early14 f n t → All PP (X0 true)) (h1 : ¬ early14 f n t → All PP (X0 false) ∧ All PP X1) : All PP (Df116_0 X0 X1 t n f) := by
  unfold Df116_0
  refine allLast _ _ n f hn (fun j hj => ?_) (fun hz => (h1 (fun ⟨j, hj, _⟩ => by omega)).2)
  cases hb : ltI t (tm (f j)) with
  | true =>
    have : t < tm (f j) := ltI_iff.1 hb
    exact h0 ⟨j, hj, this⟩
  | false =>
    have : ¬ t < tm (f j) := ltI_no.1 hb
    refine (h1 ?_).1
    rintro ⟨j', hj', ht⟩
    have : j' = j := by omega
    subst this
    exact absurd ht this
theorem allMark14 (X0 : Int → Int → Int → Int → R β) (t nx : Int) (n : Nat) (f : Nat → V) (hn : n ≤ 1100000) (h0 : early14 f n t → All PP (X0 0 0 0 9)) (h1 : ¬ early14 f n t → All PP (X0 nx 2 t 0)) : All PP (Df83_0 X0 t nx n f) := by
  unfold Df83_0
  exact allEarly _ _ t n f hn h0 fun h => ⟨h1 h, h1 h⟩
theorem allSample14 (X0 : Int → Int → Int → Int → Int → Int → R β) (t ky vl hold nx : Int) (n : Nat) (f g : Nat → V) (hn : n ≤ 1100000) (h0 : early14 f n t → All PP (X0 0 0 0 0 0 8))
    (h1 : ¬ early14 f n t → hold ≤ ((heldL f g n).length : Int) → All PP (X0 0 0 0 0 0 10)) (h2 : ¬ early14 f n t → ¬ hold ≤ ((heldL f g n).length : Int) → All PP (X0 nx 1 t ky vl 0)) : All PP (Df82_0 X0 t ky vl hold nx n n f g) := by
  unfold Df82_0
  have e : (andB (Decidable.rec (fun h => (fun _ => false) h) (fun h => (fun _ => true) h) (hold.instDecidableEq hold)) true : Bool) = true := by
    cases hold.instDecidableEq hold with
    | isTrue _ => rfl
    | isFalse h => exact absurd rfl h
  have go : ¬ early14 f n t → All PP (Df88_0 (fun n19 _ _ => iteR (andB (Decidable.rec (fun h => (fun _ => false) h) (fun h => (fun _ => true) h) (hold.instDecidableEq hold)) true) (iteR (leI hold (ofN n19)) (X0 0 0 0 0 0 10) (X0 nx 1 t ky vl 0)) (.fail)) n n f g) := fun hne =>
    allHeld _ n f g hn fun m N h hl => by
      have hm : (heldL f g n).length = m := by rw [← hl, lst_len]
      rw [e]
      exact aitrue (aile (fun h' => h1 hne (by rw [hm]; exact h')) (fun h' => h2 hne (by rw [hm]; exact h')))
  exact allEarly _ _ t n f hn h0 fun h => ⟨go h, go h⟩
theorem allPut14 (X0 : Int → R β) (X1 : Int → Nat → Nat → (Nat → V) → (Nat → V) → R β) (s k t ky vl nx : Int) (n : Nat) (f g : Nat → V) (hn : n ≤ 1100000) (hx : -9223372036854775808 ≤ nx ∧ nx ≤ 9223372036854775806)
    (hF : (s ≠ nx ∨ (k ≠ 1 ∧ k ≠ 2) ∨ (k = 2 ∧ ¬ early14 f n t ∧ (ky ≠ 0 ∨ vl ≠ 0))) → All PP (X0 2)) (hL : s = nx → k = 1 → early14 f n t → All PP (X0 8)) (hR : s = nx → k = 2 → early14 f n t → All PP (X0 9))
    (hX : s = nx → (k = 1 ∨ (k = 2 ∧ ky = 0 ∧ vl = 0)) → ¬ early14 f n t → All PP (X1 (nx + 1) (n + 1) (n + 1) (joinF f (litF (.nd 38 [.int .i64 0, .int .i64 0, .int .i64 0, .int .i64 0, .int .i64 0]) [.nd 38 [.int .i64 s, .int .i64 k, .int .i64 t, .int .i64 ky, .int .i64 vl]]) n) (joinF g (litF (.bool false) [.bool false]) n))) :
    All PP (Df84_0 X0 X1 s k t ky vl nx n n f g) := by
  unfold Df84_0
  have hw : wrapI .i64 (addI nx 1) = nx + 1 := wrap_add (by omega) (by omega)
  rw [hw]
  refine ainot (aieq (fun hs => ?_) (fun hs => hF (.inl hs)))
  have put : (k = 1 ∨ (k = 2 ∧ ky = 0 ∧ vl = 0)) → ¬ early14 f n t → All PP (iteR (leN (addN n 1) 1073741824) (iteR (leN (addN n 1) 1073741824) (X1 (nx + 1) (addN n 1) (addN n 1) (joinF f (litF (.nd 38 [.int .i64 0, .int .i64 0, .int .i64 0, .int .i64 0, .int .i64 0]) [.nd 38 [.int .i64 s, .int .i64 k, .int .i64 t, .int .i64 ky, .int .i64 vl]]) n) (joinF g (litF (.bool false) [.bool false]) n)) (.fail)) (.fail)) := fun a b =>
    ailen (fun _ => ailen (fun _ => hX hs a b) (fun h' => afail (by simp only [addN] at h'; omega))) (fun h' => afail (by simp only [addN] at h'; omega))
  refine ainot (aieq (fun hk => ?_) (fun hk => ainot (aieq (fun hk2 => ?_) (fun hk2 => hF (.inr (.inl ⟨hk, hk2⟩))))))
  · subst hk
    refine allEarly _ _ t n f hn (fun he => aitrue (aieq (fun _ => hL hs rfl he) (fun h' => absurd rfl h'))) fun he => ⟨aifalse (aieq (fun h' => absurd h' (by decide)) (fun _ => put (.inl rfl) he)), aieq (fun h' => absurd h' (by decide)) (fun _ => put (.inl rfl) he)⟩
  · subst hk2
    have two : ¬ early14 f n t → All PP (iteR (notB (eqI ky 0)) (X0 2) (iteR (notB (eqI vl 0)) (X0 2) (iteR (leN (addN n 1) 1073741824) (iteR (leN (addN n 1) 1073741824) (X1 (nx + 1) (addN n 1) (addN n 1) (joinF f (litF (.nd 38 [.int .i64 0, .int .i64 0, .int .i64 0, .int .i64 0, .int .i64 0]) [.nd 38 [.int .i64 s, .int .i64 2, .int .i64 t, .int .i64 ky, .int .i64 vl]]) n) (joinF g (litF (.bool false) [.bool false]) n)) (.fail)) (.fail)))) := fun he =>
      ainot (aieq (fun h1 => ainot (aieq (fun h2 => put (.inr ⟨rfl, h1, h2⟩) he) (fun h2 => hF (.inr (.inr ⟨rfl, he, .inr h2⟩))))) (fun h1 => hF (.inr (.inr ⟨rfl, he, .inl h1⟩))))
    refine allEarly _ _ t n f hn (fun he => aitrue (aieq (fun h' => absurd h' (by decide)) (fun _ => hR hs rfl he))) fun he => ⟨aifalse (aieq (fun _ => two he) (fun h' => absurd rfl h')), aieq (fun _ => two he) (fun h' => absurd rfl h')⟩
end
end Go.Proofs.Ytbplfgghcclgkaa
