/- A promise, by a round and by the document's. No conditions. -/
import Derived.Test.YtcafnbjmebichaaP3d
open Go Go.VM
namespace Go.Proofs.Ytcafnbjmebichaa
set_option maxRecDepth 100000
section
variable {β : Type} {PP : β → Prop}
/-- what is kept of a register that was promised -/
def kept (a0 a1 a2 : Int) (nv : Nat) (fv : Nat → V) : V := .nd 40 [.nd 23 [.int .i64 0, .int .i64 0, .int .i64 0], .nd 23 [.int .i64 a0, .int .i64 a1, .int .i64 a2], .view 3 nv fv]
/-- a change in form -/
def okCh (kind : Int) (n m : Nat) : Prop := (kind = 1 ∧ n = 0 ∧ m = 0) ∨ (kind = 2 ∧ n ≤ 32 ∧ m ≤ 32)
theorem mul2 {x : Nat} (h : x ≤ 1000) : wrapI .i64 (mulI 2 (ofN x)) = 2 * ofN x := by
  have : mulI 2 (ofN x) = 2 * ofN x := rfl
  rw [this]
  exact wrap_in (by simp only [ofN]; omega) (by simp only [ofN]; omega)
theorem allPromiseP (X0 : Nat → Ents → R β) (X1 : Nat → Int → Nat → Ents → (Nat → V) → R β) (X2 : Nat → Nat → Ents → (Nat → V) → R β) (k b0 b1 b2 a0 a1 a2 : Int) (nv : Nat) (n : Nat) (r0 r1 r2 kind : Int) (n17 n18 : Nat) (stage : Int) (fv old new : Nat → V) (c : Nat) (L : Ents) (has : Nat → V)
    (hn : n ≤ 1000) (hM : MapRel n c L has) (hnv : nv ≤ 200) (hsz : ∀ q, q < n → boolV (has q) = true → viewN (partV (getK (.int .i64 (ofN q)) L) 2) ≤ 200) (hch : okCh kind n17 n18)
    (h0 : ¬ (∃ q, k = ofN q ∧ q < n ∧ (b0 = r0 ∧ b1 = r1 ∧ b2 = r2) ∧ stage = 1 ∧ boolV (has q) = false) → All PP (X0 c L))
    (hNo : ∀ q, k = ofN q → q < n → (b0 = r0 ∧ b1 = r1 ∧ b2 = r2) → stage = 1 → boolV (has q) = false → 2 * (selL (setF has q (.bool true)) n).length ≤ n → All PP (X0 (putC c (.int .i64 (ofN q)) L) (putL c (.int .i64 (ofN q)) (kept a0 a1 a2 nv fv) L)))
    (hYes : ∀ q, k = ofN q → q < n → (b0 = r0 ∧ b1 = r1 ∧ b2 = r2) → stage = 1 → boolV (has q) = false → n < 2 * (selL (setF has q (.bool true)) n).length → ∀ g : Nat → V, (∀ i p, (selL (setF has q (.bool true)) n)[i]? = some p → likeR (g i) (getK (.int .i64 (ofN p)) (putL c (.int .i64 (ofN q)) (kept a0 a1 a2 nv fv) L))) →
      let v := newR g (selL (setF has q (.bool true)) n).length
      (kind = 1 → All PP (X2 v.n (putC c (.int .i64 (ofN q)) L) (putL c (.int .i64 (ofN q)) (kept a0 a1 a2 nv fv) L) v.f)) ∧
      (kind = 2 → sameI n17 old v.n v.f → All PP (X2 n18 (putC c (.int .i64 (ofN q)) L) (putL c (.int .i64 (ofN q)) (kept a0 a1 a2 nv fv) L) new)) ∧
      (kind = 2 → ¬ sameI n17 old v.n v.f → All PP (X1 v.n 11 (putC c (.int .i64 (ofN q)) L) (putL c (.int .i64 (ofN q)) (kept a0 a1 a2 nv fv) L) v.f))) :
    All PP (Df13_0 X0 X1 X2 k b0 b1 b2 a0 a1 a2 nv (ofN n) r0 r1 r2 kind n17 n18 stage fv old new c L) := by
  unfold Df13_0
  refine aile (fun hk => ailt (fun hkn => aiand (aieq (fun e0 => aiand (aieq (fun e1 => aieq (fun e2 => ?_) (fun e => h0 fun ⟨_, _, _, h, _⟩ => e h.2.2)) (fun e => h0 fun ⟨_, _, _, h, _⟩ => e h.2.1))) (fun e => h0 fun ⟨_, _, _, h, _⟩ => e h.1))) (fun h => h0 fun ⟨q, e, hq, _⟩ => h (by rw [e]; simp only [ofN]; omega))) (fun h => h0 fun ⟨q, e, hq, _⟩ => h (by rw [e]; simp only [ofN]; omega))
  obtain ⟨q, rfl⟩ : ∃ q : Nat, k = ofN q := ⟨k.toNat, by simp only [ofN]; omega⟩
  have hq : q < n := by simp only [ofN] at hkn; omega
  refine allIn1 _ 1 stage (fun hs => ?_) (fun hs => ainot (aile (fun h => absurd h (by decide)) (fun _ => h0 fun ⟨_, _, _, _, h, _⟩ => hs h)))
  refine ainot (aile (fun _ => ?_) (fun h => absurd (by decide) h))
  refine keyOk (by simp only [ofN]; omega) (by simp only [ofN]; omega) ?_
  rw [hM.has hq]
  refine all_iteR (fun hb => h0 fun ⟨p, e, _, _, _, h⟩ => ?_) (fun hb => ?_)
  · have : p = q := by simp only [ofN] at e; omega
    subst this
    rw [hb] at h; cases h
  refine ailen (fun _ => keyOk (by simp only [ofN]; omega) (by simp only [ofN]; omega) ?_) (fun h => absurd (by omega) h)
  have hM' := hM.put hq (kept a0 a1 a2 nv fv)
  have hlen := hM'.len
  have hsl := selL_len (setF has q (.bool true)) n
  show All PP (iteR (notB (ltI (ofN n) (wrapI .i64 (mulI 2 (ofN (putL c (.int .i64 (ofN q)) (kept a0 a1 a2 nv fv) L).length))))) _ _)
  rw [hlen, mul2 (by omega)]
  refine ainot (ailt (fun hmaj => ?_) (fun hmaj => hNo q rfl hq ⟨e0, e1, e2⟩ hs hb (by simp only [ofN] at hmaj; omega)))
  have hmaj : n < 2 * (selL (setF has q (.bool true)) n).length := by simp only [ofN] at hmaj; omega
  show All PP (iteR (stampB (putC c (.int .i64 (ofN q)) L) 0 (putL c (.int .i64 (ofN q)) (kept a0 a1 a2 nv fv) L)) _ _)
  rw [hM'.stamp]
  refine aitrue (ailen (fun _ => ?_) (fun h => absurd (by show (putL c (.int .i64 (ofN q)) (kept a0 a1 a2 nv fv) L).length ≤ _; omega) h))
  refine allListP _ n _ _ _ hn hM' (fun N g hg => ?_)
  obtain ⟨y1, y2, y3⟩ := hYes q rfl hq ⟨e0, e1, e2⟩ hs hb hmaj g hg
  have hgs : ∀ i, i < (selL (setF has q (.bool true)) n).length → viewN (partV (g i) 2) ≤ 200 := fun i hi => by
    have hp := hg i _ (List.getElem?_eq_getElem hi)
    obtain ⟨hpn, hpb⟩ := selL_mem.1 (List.getElem_mem hi)
    rw [hp.2.2.2.1, getK_put hM.ints]
    split
    · exact hnv
    · rename_i hne
      refine hsz _ hpn ?_
      rw [boolV_set] at hpb
      split at hpb
      · rename_i e; exact absurd (by rw [e]) hne
      · exact hpb
  have hvn := newR_len _ hgs
  refine allNewest _ _ g (by omega) (by omega) (ailen (fun _ => ?_) (fun h => absurd (by omega) h))
  rcases hch with ⟨rfl, rfl, rfl⟩ | ⟨rfl, h17, h18⟩
  · refine aile (fun _ => aieq (fun _ => ainot (aieq (fun _ => aieq (fun _ => y1 rfl) (fun h => absurd rfl h)) (fun h => absurd (by decide) h))) (fun h => absurd rfl h)) (fun h => absurd (by decide) h)
  · refine aile (fun _ => aieq (fun h => absurd h (by decide)) (fun _ => aieq (fun _ => ainot (aile (fun _ => aieq (fun h => absurd h (by decide)) (fun _ => allEqual _ _ _ _ _ _ (by omega) (fun h => y3 rfl h) (fun h => ailen (fun _ => y2 rfl h) (fun h => absurd (by omega) h)))) (fun h => absurd (by simp only [ofN]; omega) h))) (fun h => absurd rfl h))) (fun h => absurd (by simp only [ofN]; omega) h)
end
end Go.Proofs.Ytcafnbjmebichaa
