/- The document's promise, acceptance, refusal. No conditions. -/
import Derived.Test.YtcafnbjmebichaaP3e
open Go Go.VM
namespace Go.Proofs.Ytcafnbjmebichaa
set_option maxRecDepth 100000
section
variable {β : Type} {PP : β → Prop}
/-- a register as it stands -/
def whole (p0 p1 p2 a0 a1 a2 : Int) (nv : Nat) (fv : Nat → V) : V := .nd 40 [.nd 23 [.int .i64 p0, .int .i64 p1, .int .i64 p2], .nd 23 [.int .i64 a0, .int .i64 a1, .int .i64 a2], .view 3 nv fv]
theorem allPromise11 (X0 : (Nat → V) → (Nat → V) → R β) (X1 : Nat → (Nat → V) → Int → (Nat → V) → (Nat → V) → R β) (k b0 b1 b2 p0 p1 p2 a0 a1 a2 : Int) (nv : Nat) (fv : Nat → V) (n : Nat) (r0 r1 r2 kind : Int) (n17 : Nat) (old : Nat → V) (n19 : Nat) (new : Nat → V) (stage : Int) (has regs : Nat → V)
    (hn : n ≤ 1000) (hch : okCh kind n17 n19)
    (h0 : ¬ (∃ q, k = ofN q ∧ q < n ∧ (b0 = r0 ∧ b1 = r1 ∧ b2 = r2) ∧ stage = 1 ∧ boolV (has q) = false) → All PP (X0 has regs))
    (hNo : ∀ q, k = ofN q → q < n → (b0 = r0 ∧ b1 = r1 ∧ b2 = r2) → stage = 1 → boolV (has q) = false → 2 * (selL (setF has q (.bool true)) n).length ≤ n → All PP (X0 (setF has q (.bool true)) (setF regs q (whole p0 p1 p2 a0 a1 a2 nv fv))))
    (hYes : ∀ q, k = ofN q → q < n → (b0 = r0 ∧ b1 = r1 ∧ b2 = r2) → stage = 1 → boolV (has q) = false → n < 2 * (selL (setF has q (.bool true)) n).length → ∀ g : Nat → V, (∀ i p, (selL (setF has q (.bool true)) n)[i]? = some p → likeR (g i) (setF regs q (whole p0 p1 p2 a0 a1 a2 nv fv) p)) →
      let v := newR g (selL (setF has q (.bool true)) n).length
      (kind = 1 → All PP (X1 v.n v.f 0 (setF has q (.bool true)) (setF regs q (whole p0 p1 p2 a0 a1 a2 nv fv)))) ∧
      (kind = 2 → sameI n17 old v.n v.f → All PP (X1 n19 new 0 (setF has q (.bool true)) (setF regs q (whole p0 p1 p2 a0 a1 a2 nv fv)))) ∧
      (kind = 2 → ¬ sameI n17 old v.n v.f → All PP (X1 v.n v.f 11 (setF has q (.bool true)) (setF regs q (whole p0 p1 p2 a0 a1 a2 nv fv))))) :
    All PP (Df44_0 X0 X1 k b0 b1 b2 p0 p1 p2 a0 a1 a2 nv fv (ofN n) r0 r1 r2 kind n17 old n19 new stage n n has regs) := by
  unfold Df44_0
  refine ailt (fun h => h0 fun ⟨q, e, _⟩ => by rw [e] at h; simp only [ofN] at h; omega) (fun hk => ?_)
  refine aile (fun h => h0 fun ⟨q, e, hq, _⟩ => by rw [e] at h; simp only [ofN] at h; omega) (fun hkn => ?_)
  obtain ⟨q, rfl⟩ : ∃ q : Nat, k = ofN q := ⟨k.toNat, by simp only [ofN]; omega⟩
  have hq : q < n := by simp only [ofN] at hkn; omega
  refine ainot (aiand (aieq (fun e0 => aiand (aieq (fun e1 => aieq (fun e2 => ?_) (fun e => h0 fun ⟨_, _, _, h, _⟩ => e h.2.2)) (fun e => h0 fun ⟨_, _, _, h, _⟩ => e h.2.1))) (fun e => h0 fun ⟨_, _, _, h, _⟩ => e h.1)))
  refine ainot (aieq (fun hs => ?_) (fun hs => h0 fun ⟨_, _, _, _, h, _⟩ => hs h))
  have inr : ∀ {x y : R β}, All PP x → All PP (iteR (andB (leI 0 (ofN q)) (ltI (ofN q) (ofN n))) x y) := fun hx => aiand (aile (fun _ => ailt (fun _ => hx) (fun h => absurd (by simp only [ofN]; omega) h)) (fun h => absurd (by simp only [ofN]; omega) h))
  refine inr ?_
  rw [natI_ofN']
  refine all_iteR (fun hb => h0 fun ⟨p, e, _, _, _, h⟩ => ?_) (fun hb => inr (inr ?_))
  · have : p = q := by simp only [ofN] at e; omega
    subst this
    rw [hb] at h; cases h
  have hsl := selL_len (setF has q (.bool true)) n
  refine allCount _ n _ hn ?_
  rw [mul2 (by omega)]
  refine aile (fun hmaj => hNo q rfl hq ⟨e0, e1, e2⟩ hs hb (by simp only [ofN] at hmaj; omega)) (fun hmaj => ?_)
  have hmaj : n < 2 * (selL (setF has q (.bool true)) n).length := by simp only [ofN] at hmaj; omega
  refine allList11 _ n _ _ hn (fun N g hg => ?_) 0 (constF .junk)
  obtain ⟨y1, y2, y3⟩ := hYes q rfl hq ⟨e0, e1, e2⟩ hs hb hmaj g hg
  refine allNewest10 _ _ g (by omega) ?_
  unfold Df86_0
  rcases hch with ⟨rfl, rfl, rfl⟩ | ⟨rfl, h17, h18⟩
  · exact aieq (fun _ => aieq (fun _ => ainot (aieq (fun _ => aieq (fun h => absurd h (by decide)) (fun _ => aieq (fun h => absurd h (by decide)) (fun _ => y1 rfl))) (fun h => absurd rfl h))) (fun h => absurd rfl h)) (fun h => absurd rfl h)
  · refine aieq (fun h => absurd h (by decide)) (fun _ => aieq (fun _ => aile (fun _ => ainot (aile (fun _ => aieq (fun _ => allSame10 _ _ _ _ _ _ (by omega) (fun h => y3 rfl h) (fun h => aieq (fun _ => y2 rfl h) (fun h => absurd rfl h))) (fun h => absurd rfl h)) (fun h => absurd (by simp only [ofN]; omega) h))) (fun h => absurd (by simp only [ofN]; omega) h)) (fun h => absurd rfl h))
theorem allAccepted11 (X0 X1 : (Nat → V) → R β) (k b0 b1 b2 : Int) (n : Nat) (r0 r1 r2 stage : Int) (did : Nat → V) (hn : n ≤ 1000)
    (h0 : ¬ (∃ q, k = ofN q ∧ q < n ∧ (b0 = r0 ∧ b1 = r1 ∧ b2 = r2) ∧ stage = 2) → All PP (X0 did))
    (hNo : ∀ q, k = ofN q → q < n → (b0 = r0 ∧ b1 = r1 ∧ b2 = r2) → stage = 2 → 2 * (selL (setF did q (.bool true)) n).length ≤ n → All PP (X0 (setF did q (.bool true))))
    (hYes : ∀ q, k = ofN q → q < n → (b0 = r0 ∧ b1 = r1 ∧ b2 = r2) → stage = 2 → n < 2 * (selL (setF did q (.bool true)) n).length → All PP (X1 (setF did q (.bool true)))) :
    All PP (Df45_0 X0 X1 k b0 b1 b2 (ofN n) r0 r1 r2 stage n did) := by
  unfold Df45_0
  refine ailt (fun h => h0 fun ⟨q, e, _⟩ => by rw [e] at h; simp only [ofN] at h; omega) (fun hk => ?_)
  refine aile (fun h => h0 fun ⟨q, e, hq, _⟩ => by rw [e] at h; simp only [ofN] at h; omega) (fun hkn => ?_)
  obtain ⟨q, rfl⟩ : ∃ q : Nat, k = ofN q := ⟨k.toNat, by simp only [ofN]; omega⟩
  have hq : q < n := by simp only [ofN] at hkn; omega
  refine ainot (aiand (aieq (fun e0 => aiand (aieq (fun e1 => aieq (fun e2 => ?_) (fun e => h0 fun ⟨_, _, _, h, _⟩ => e h.2.2)) (fun e => h0 fun ⟨_, _, _, h, _⟩ => e h.2.1))) (fun e => h0 fun ⟨_, _, _, h, _⟩ => e h.1)))
  refine ainot (aieq (fun hs => ?_) (fun hs => h0 fun ⟨_, _, _, _, h⟩ => hs h))
  refine aiand (aile (fun _ => ailt (fun _ => ?_) (fun h => absurd (by simp only [ofN]; omega) h)) (fun h => absurd (by simp only [ofN]; omega) h))
  rw [natI_ofN']
  have hsl := selL_len (setF did q (.bool true)) n
  refine allCount _ n _ hn ?_
  rw [mul2 (by omega)]
  exact aile (fun hmaj => hNo q rfl hq ⟨e0, e1, e2⟩ hs (by simp only [ofN] at hmaj; omega)) (fun hmaj => hYes q rfl hq ⟨e0, e1, e2⟩ hs (by simp only [ofN] at hmaj; omega))
/-- when a refusal counts -/
def refuses (k b0 b1 b2 g0 g1 g2 : Int) (n : Nat) (r0 r1 r2 stage : Int) : Prop := 0 ≤ k ∧ k < ofN n ∧ (b0 = r0 ∧ b1 = r1 ∧ b2 = r2) ∧ (stage = 1 ∨ stage = 2) ∧ lessB r0 r1 r2 g0 g1 g2 = true
theorem allRefusedP (X0 X1 : R β) (k b0 b1 b2 g0 g1 g2 : Int) (n : Nat) (r0 r1 r2 stage : Int) (h0 : ¬ refuses k b0 b1 b2 g0 g1 g2 n r0 r1 r2 stage → All PP X0) (h1 : refuses k b0 b1 b2 g0 g1 g2 n r0 r1 r2 stage → All PP X1) :
    All PP (Df15_0 X0 X1 k b0 b1 b2 g0 g1 g2 (ofN n) r0 r1 r2 stage) := by
  unfold Df15_0
  refine aile (fun hk => ailt (fun hkn => aiand (aieq (fun e0 => aiand (aieq (fun e1 => aieq (fun e2 => ?_) (fun e => h0 fun h => e h.2.2.1.2.2)) (fun e => h0 fun h => e h.2.2.1.2.1))) (fun e => h0 fun h => e h.2.2.1.1))) (fun e => h0 fun h => e h.2.1)) (fun e => h0 fun h => e h.1)
  refine allIn2 _ 1 2 stage (fun hs i hi => ainot (aile (fun _ => ?_) (fun h => absurd hi h))) (fun hs => ainot (aile (fun h => absurd h (by decide)) (fun _ => h0 fun h => hs h.2.2.2.1)))
  refine allLess _ _ _ _ _ _ _ (ainot (all_iteR (fun hl => h1 ⟨hk, hkn, ⟨e0, e1, e2⟩, hs, hl⟩) (fun hl => h0 fun h => by rw [h.2.2.2.2] at hl; cases hl)))
theorem allRefused11 (X0 X1 : R β) (k b0 b1 b2 g0 g1 g2 : Int) (n : Nat) (r0 r1 r2 stage : Int) (hst : 1 ≤ stage) (h0 : ¬ refuses k b0 b1 b2 g0 g1 g2 n r0 r1 r2 stage → All PP X0) (h1 : refuses k b0 b1 b2 g0 g1 g2 n r0 r1 r2 stage → All PP X1) :
    All PP (Df46_0 X0 X1 k b0 b1 b2 g0 g1 g2 (ofN n) r0 r1 r2 stage) := by
  unfold Df46_0
  refine ailt (fun h => h0 fun o => by have := o.1; omega) (fun hk => aile (fun h => h0 fun o => by have := o.2.1; omega) (fun hkn => ?_))
  refine ainot (aiand (aieq (fun e0 => aiand (aieq (fun e1 => aieq (fun e2 => ?_) (fun e => h0 fun h => e h.2.2.1.2.2)) (fun e => h0 fun h => e h.2.2.1.2.1))) (fun e => h0 fun h => e h.2.2.1.1)))
  refine ailt (fun h => h0 fun o => by have := o.2.2.2.1; omega) (fun hs => ?_)
  have yes : (r0 < g0 ∨ (r0 = g0 ∧ (r1 < g1 ∨ (r1 = g1 ∧ r2 < g2)))) → All PP X1 := fun hl => h1 ⟨by omega, by omega, ⟨e0, e1, e2⟩, by omega, lessB_true hl⟩
  have no : ¬ (r0 < g0 ∨ (r0 = g0 ∧ (r1 < g1 ∨ (r1 = g1 ∧ r2 < g2)))) → All PP X0 := fun hl => h0 fun o => by have := o.2.2.2.2; rw [lessB_false hl] at this; cases this
  exact ainot (aieq (fun c0 => ainot (aieq (fun c1 => ainot (ailt (fun c2 => yes (by omega)) (fun c2 => no (by omega)))) (fun c1 => ainot (ailt (fun c2 => yes (by omega)) (fun c2 => no (by omega)))))) (fun c0 => ainot (ailt (fun c2 => yes (by omega)) (fun c2 => no (by omega)))))
end
end Go.Proofs.Ytcafnbjmebichaa
