/- RoundAnswers, the whole law. No conditions. -/
import Derived.Test.YtcafnbjmebichaaP3h
open Go Go.VM
namespace Go.Proofs.Ytcafnbjmebichaa
set_option maxRecDepth 100000
section
variable {β : Type} {PP : β → Prop}
theorem lfR (Z : R β) (X1 : Int → Nat → Bool → Nat → Int → Int → Int → Int → Int → Nat → (Nat → V) → Int → Int → Int → Int → Int → Int → Bool → Int → Int → Int → Int → Int → Int → Int → Int → Int → Int → Int → Int → Nat → (Nat → V) → Nat → Nat → (List (Nat × V × V)) → Nat → (List (Nat × V × V)) → Nat → (Nat → V) → (Nat → V) → (Nat → V) → (Nat → V) → (Nat → V) → R β) (X2 : Int → Nat → Bool → Nat → Int → Int → Int → Int → Int → Nat → (Nat → V) → Int → Int → Int → Int → Nat → (List (Nat × V × V)) → Nat → (List (Nat × V × V)) → Nat → (Nat → V) → (Nat → V) → (Nat → V) → (Nat → V) → R β) (X3 : Nat → Int → Int → Int → Int → Int → Nat → (Nat → V) → Int → Int → Int → Int → Int → Int → Bool → Int → Int → Int → Int → Int → Int → Int → Int → Int → Int → Int → Int → Nat → (Nat → V) → Nat → Nat → (List (Nat × V × V)) → Nat → (List (Nat × V × V)) → (Nat → V) → (Nat → V) → (Nat → V) → (Nat → V) → (Nat → V) → R β) (X4 : Nat → Int → Int → Int → Int → Int → Nat → (Nat → V) → Int → Int → Int → Int → Nat → (List (Nat × V × V)) → Nat → (List (Nat × V × V)) → (Nat → V) → (Nat → V) → (Nat → V) → (Nat → V) → R β) (X5 : Nat → Int → Int → Int → Int → Nat → (Nat → V) → Int → Int → Int → Int → Int → Int → Bool → Int → Int → Int → Int → Int → Int → Int → Int → Int → Int → Int → Int → Nat → (Nat → V) → Nat → Nat → (List (Nat × V × V)) → Nat → (List (Nat × V × V)) → (Nat → V) → (Nat → V) → (Nat → V) → (Nat → V) → (Nat → V) → R β) (X6 : Nat → Int → Int → Int → Int → Nat → (Nat → V) → Int → Int → Int → Int → Nat → (List (Nat × V × V)) → Nat → (List (Nat × V × V)) → (Nat → V) → (Nat → V) → (Nat → V) → (Nat → V) → R β)
    (n0 : Nat) (f1 : Nat → V) (i4 i5 i6 : Int) (n : Nat) (r0 r1 r2 kind : Int) (n12 n13 : Nat) (old new : Nat → V) (hn0 : n0 ≤ 1000000) (hn : n ≤ 1000) (hch : okCh kind n12 n13) (hZ : All PP Z) :
    ∀ (k j : Nat) (st : Int) (nv : Nat) (b : Bool) (t : Nat) (e m0 m1 m2 : Int) (nw : Nat) (fw : Nat → V) (err : Int) (c1 : Nat) (L1 : Ents) (c2 : Nat) (L2 : Ents) (w : Nat) (fv has regs did : Nat → V), j ≤ n0 → n0 - j < k → RRel n st nv b t e nw fw err c1 L1 c2 L2 fv has regs did →
      All PP (Lf10_0_0 (fun _ _ _ _ _ _ _ _ _ _ _ _ _ _ _ _ _ _ _ _ _ _ _ _ _ _ _ _ _ _ _ _ _ _ _ _ _ _ _ _ _ => Z) X1 X2 X3 X4 X5 X6 (fun _ _ _ _ _ _ _ _ _ _ _ _ _ _ _ _ _ _ _ _ _ _ _ _ => Z) n0 f1 (ofN n0) i4 i5 i6 (ofN n) r0 r1 r2 kind n12 n13 (ofN n) r0 r1 r2 kind n12 old n13 new n n n old new k (ofN j) st nv b t e m0 m1 m2 st nw fw err m0 m1 m2 c1 L1 c2 L2 w fv has regs did)
  | 0, j, st, nv, b, t, e, m0, m1, m2, nw, fw, err, c1, L1, c2, L2, w, fv, has, regs, did, _, hk, _ => by omega
  | k + 1, j, st, nv, b, t, e, m0, m1, m2, nw, fw, err, c1, L1, c2, L2, w, fv, has, regs, did, hj, hk, hS => by
    have ih := lfR Z X1 X2 X3 X4 X5 X6 n0 f1 i4 i5 i6 n r0 r1 r2 kind n12 n13 old new hn0 hn hch hZ k
    show All PP (Rd10_0_0 (Lf10_0_0 (fun _ _ _ _ _ _ _ _ _ _ _ _ _ _ _ _ _ _ _ _ _ _ _ _ _ _ _ _ _ _ _ _ _ _ _ _ _ _ _ _ _ => Z) X1 X2 X3 X4 X5 X6 (fun _ _ _ _ _ _ _ _ _ _ _ _ _ _ _ _ _ _ _ _ _ _ _ _ => Z) n0 f1 (ofN n0) i4 i5 i6 (ofN n) r0 r1 r2 kind n12 n13 (ofN n) r0 r1 r2 kind n12 old n13 new n n n old new k) (fun _ _ _ _ _ _ _ _ _ _ _ _ _ _ _ _ _ _ _ _ _ _ _ _ _ _ _ _ _ _ _ _ _ _ _ _ _ _ _ _ _ => Z) X1 X2 X3 X4 X5 X6 (fun _ _ _ _ _ _ _ _ _ _ _ _ _ _ _ _ _ _ _ _ _ _ _ _ => Z) n0 f1 (ofN n0) i4 i5 i6 (ofN n) r0 r1 r2 kind n12 n13 (ofN n) r0 r1 r2 kind n12 old n13 new n n n old new (ofN j) st nv b t e m0 m1 m2 st nw fw err m0 m1 m2 c1 L1 c2 L2 w fv has regs did)
    generalize Lf10_0_0 (fun _ _ _ _ _ _ _ _ _ _ _ _ _ _ _ _ _ _ _ _ _ _ _ _ _ _ _ _ _ _ _ _ _ _ _ _ _ _ _ _ _ => Z) X1 X2 X3 X4 X5 X6 (fun _ _ _ _ _ _ _ _ _ _ _ _ _ _ _ _ _ _ _ _ _ _ _ _ => Z) n0 f1 (ofN n0) i4 i5 i6 (ofN n) r0 r1 r2 kind n12 n13 (ofN n) r0 r1 r2 kind n12 old n13 new n n n old new k = NX at ih ⊢
    unfold Rd10_0_0
    refine ailt (fun hlt => ?_) (fun _ => hZ)
    have hlt' : j < n0 := by simp only [ofN] at hlt; omega
    refine aiand (aile (fun _ => ailt (fun _ => ?_) (fun h => absurd hlt h)) (fun h => absurd (by simp only [ofN]; omega) h))
    refine ailt (fun _ => hZ) (fun h200 => ?_)
    rw [natI_ofN'] at h200
    rw [wrap_succ (by omega), natI_ofN']
    have h56 : viewN (partV (partV (f1 j) 5) 2) ≤ 200 := by simp only [ofN] at h200; omega
    refine all_iteR (fun _ => ?_) (fun _ => ?_)
    all_goals
      refine allJ16 _ _ _ _ _ _ _ _ _ r0 r1 r2 kind n12 n13 m0 m1 m2 old new _ _ _ _ _ _ _ _ _ _ _ _ _ _ _ _ hn hch h56 hS (fun st' m0' m1' m2' c1' L1' c2' L2' has' regs' did' h => ?_) (fun nv' nw' fw' fv' c1' L1' has' regs' h => ?_) (fun nv' nw' fw' fv' c1' L1' has' regs' h => ?_)
      · exact ih (j + 1) _ _ _ _ _ _ _ _ _ _ _ _ _ _ _ _ _ _ _ _ (by omega) (by omega) h
      · exact ih (j + 1) _ _ _ _ _ _ _ _ _ _ _ _ _ _ _ _ _ _ _ _ (by omega) (by omega) h
      · exact ih (j + 1) _ _ _ _ _ _ _ _ _ _ _ _ _ _ _ _ _ _ _ _ (by omega) (by omega) h
theorem bor_neg {a b : Int} (ha : inI a) (hb : inI b) : (borI .i64 a b < 0 ↔ a < 0 ∨ b < 0) ∧ inI (borI .i64 a b) := by
  have e : borI .i64 a b = wrapI .i64 ((BitVec.ofInt 64 a ||| BitVec.ofInt 64 b).toNat : Int) := rfl
  rw [e]
  refine ⟨?_, wrap_range _⟩
  obtain ⟨a1, a2⟩ := ha
  obtain ⟨b1, b2⟩ := hb
  have hm : (BitVec.ofInt 64 a ||| BitVec.ofInt 64 b).msb = ((BitVec.ofInt 64 a).msb || (BitVec.ofInt 64 b).msb) := BitVec.msb_or
  have hlt := (BitVec.ofInt 64 a ||| BitVec.ofInt 64 b).isLt
  have m : ∀ x : Int, -9223372036854775808 ≤ x → x ≤ 9223372036854775807 → ((BitVec.ofInt 64 x).msb = true ↔ x < 0) := fun x h1 h2 => by
    rw [BitVec.msb_eq_decide, BitVec.toNat_ofInt]
    simp only [decide_eq_true_eq]
    omega
  have hx : (BitVec.ofInt 64 a ||| BitVec.ofInt 64 b).msb = true ↔ 9223372036854775808 ≤ (BitVec.ofInt 64 a ||| BitVec.ofInt 64 b).toNat := by
    rw [BitVec.msb_eq_decide]
    simp only [decide_eq_true_eq]
  rw [hm, Bool.or_eq_true, m a a1 a2, m b b1 b2] at hx
  rw [wrap_i64, hx]
  omega
/-- a round can begin -/
def goodB (i0 i1 i2 i3 i4 : Int) (n5 n7 : Nat) : Prop := 1 ≤ i0 ∧ i0 ≤ 5 ∧ 0 ≤ i1 ∧ 0 ≤ i2 ∧ 0 ≤ i3 ∧ ¬ (i1 = 0 ∧ i2 = 0 ∧ i3 = 0) ∧ ((i4 = 1 ∧ n5 = 0 ∧ n7 = 0) ∨ (i4 = 2 ∧ n5 ≤ 32 ∧ n7 ≤ 32))
theorem allBegin (X0 : R β) (X1 : Ents → (Nat → V) → R β) (i0 i1 i2 i3 i4 : Int) (n5 n7 : Nat) (h1r : inI i1) (h2r : inI i2) (h3r : inI i3) (h5 : n5 ≤ 140737488351232) (h7 : n7 ≤ 140737488351232) (h0 : ¬ goodB i0 i1 i2 i3 i4 n5 n7 → All PP X0) (h1 : goodB i0 i1 i2 i3 i4 n5 n7 → All PP (X1 [] (constF .junk))) :
    All PP (Df20_0 X0 X1 i0 i1 i2 i3 i4 n5 n7) := by
  unfold Df20_0
  have ew : wrapI .i64 (addI (ofN n5) (ofN n7)) = ofN n5 + ofN n7 := wrap_add (by simp only [ofN]; omega) (by simp only [ofN]; omega)
  rw [ew]
  clear ew
  obtain ⟨q1, q2⟩ := bor_neg h1r h2r
  obtain ⟨q3, _⟩ := bor_neg q2 h3r
  unfold goodB at h0 h1
  generalize borI .i64 (borI .i64 i1 i2) i3 = z at *
  generalize borI .i64 i1 i2 = y at *
  repeat' first
    | with_reducible refine ailt (fun _ => ?_) (fun _ => ?_)
    | with_reducible refine aile (fun _ => ?_) (fun _ => ?_)
    | with_reducible refine ailen (fun _ => ?_) (fun _ => ?_)
    | with_reducible refine aieq (fun _ => ?_) (fun _ => ?_)
    | with_reducible refine ainot ?_
    | with_reducible refine aiand ?_
    | fail
  all_goals first
    | (refine h0 ?_; first | omega | (simp only [ofN] at *; omega))
    | (refine h1 ?_; first | omega | (simp only [ofN] at *; omega))
    | (refine afail ?_; first | omega | (simp only [ofN] at *; omega))
theorem allBegin11 (X0 : R β) (X1 : Nat → (Nat → V) → (Nat → V) → (Nat → V) → R β) (i0 i1 i2 i3 i4 : Int) (n5 n7 : Nat) (h0 : ¬ goodB i0 i1 i2 i3 i4 n5 n7 → All PP X0) (h1 : goodB i0 i1 i2 i3 i4 n5 n7 → ∀ g, All PP (X1 (natI i0) (constF .junk) (constF (.bool false)) g)) :
    All PP (Df42_0 X0 X1 i0 i1 i2 i3 i4 n5 n7) := by
  unfold Df42_0
  unfold goodB at h0 h1
  repeat' first
    | with_reducible refine ailt (fun _ => ?_) (fun _ => ?_)
    | with_reducible refine aile (fun _ => ?_) (fun _ => ?_)
    | with_reducible refine aieq (fun _ => ?_) (fun _ => ?_)
    | with_reducible refine all_bothR ?_ ?_
    | with_reducible refine ainot ?_
    | with_reducible refine aiand ?_
    | fail
  all_goals first
    | (refine h0 ?_; first | omega | (simp only [ofN] at *; omega))
    | (refine h1 ?_ _; first | omega | (simp only [ofN] at *; omega))
    | (refine afail ?_; first | omega | (simp only [ofN] at *; omega))
theorem roundP (X0 X1 : R β) (i0 i1 i2 i3 i4 : Int) (n5 : Nat) (f6 : Nat → V) (n7 : Nat) (f8 : Nat → V) (n9 : Nat) (f10 : Nat → V) (h1r : inI i1) (h2r : inI i2) (h3r : inI i3) (h5 : n5 ≤ 140737488351232) (h7 : n7 ≤ 140737488351232) (h0 : All PP X0) :
    All PP (Df3_0 X0 X1 i0 i1 i2 i3 i4 n5 f6 n7 f8 n9 f10) := by
  unfold Df3_0 Df10_0
  refine ailt (fun _ => h0) (fun h300 => all_iteR (fun _ => h0) (fun _ => ?_))
  have h300 : n9 ≤ 300 := by simp only [ofN] at h300; omega
  refine allBegin _ _ i0 i1 i2 i3 i4 n5 n7 h1r h2r h3r h5 h7 (fun hb => allBegin11 _ _ i0 i1 i2 i3 i4 n5 n7 (fun _ => h0) (fun hg => absurd hg hb)) (fun hg => allBegin11 _ _ i0 i1 i2 i3 i4 n5 n7 (fun hb => absurd hg hb) (fun _ g => ?_))
  have hch : okCh i4 n5 n7 := hg.2.2.2.2.2.2
  obtain ⟨n, rfl⟩ : ∃ n : Nat, i0 = ofN n := ⟨i0.toNat, by have := hg.1; simp only [ofN]; omega⟩
  have hn : n ≤ 5 := by have := hg.2.1; simp only [ofN] at this; omega
  rw [natI_ofN']
  have hM : MapRel n 0 [] (constF (.bool false)) := ⟨fun e he => (by cases he), rfl, List.Pairwise.nil, fun a => ⟨fun h => (by cases h), fun ⟨k, _, _, h⟩ => (by cases h)⟩⟩
  exact lfR X0 _ _ _ _ _ _ n9 f10 i1 i2 i3 n i1 i2 i3 i4 n5 n7 f6 f8 (by omega) (by omega) hch h0 NNo 0 1 0 false 0 0 0 0 0 0 _ 0 0 [] 0 [] 0 _ _ g _ (Nat.zero_le _) (by rw [NNo_eq]; unfold NN; omega) ⟨by omega, sameI.refl _ _, Nat.zero_le _, .inl ⟨rfl, rfl⟩, hM, hM, fun q _ h => (by cases h)⟩
end
end Go.Proofs.Ytcafnbjmebichaa
