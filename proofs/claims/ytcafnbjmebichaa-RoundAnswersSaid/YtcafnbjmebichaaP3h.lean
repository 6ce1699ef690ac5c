/- One answer, taken by a round and by the document's. No conditions. -/
import Derived.Test.YtcafnbjmebichaaP3g
open Go Go.VM
namespace Go.Proofs.Ytcafnbjmebichaa
set_option maxRecDepth 100000
section
variable {β : Type} {PP : β → Prop}
theorem joinF_zero (a f : Nat → V) : joinF a f 0 = f := funext fun j => by rw [joinF_ge (Nat.zero_le j), Nat.sub_zero]
theorem setF_at (f : Nat → V) (q p : Nat) (v : V) : setF f q v p = (if p = q then v else f p) := by
  unfold setF
  cases h : eqN p q with
  | true => rw [if_pos (eqN_iff.1 h)]
  | false => rw [if_neg (fun e => by rw [eqN_iff.2 e] at h; cases h)]
/-- a round and the document's, side by side -/
structure RRel (n : Nat) (st : Int) (nv : Nat) (b : Bool) (t : Nat) (e : Int) (nw : Nat) (fw : Nat → V) (err : Int) (c1 : Nat) (L1 : Ents) (c2 : Nat) (L2 : Ents) (fv has regs did : Nat → V) : Prop where
  stage : 1 ≤ st ∧ st ≤ 4
  val : sameI nv fv nw fw
  small : nv ≤ 200
  err : likeE b t e err
  m1 : MapRel n c1 L1 has
  m2 : MapRel n c2 L2 did
  regs : ∀ q, q < n → boolV (has q) = true → likeR (getK (.int .i64 (ofN q)) L1) (regs q) ∧ viewN (partV (getK (.int .i64 (ofN q)) L1) 2) ≤ 200
theorem likeR.trans {u v w : V} (a : likeR u v) (b : likeR v w) : likeR u w := ⟨a.1.trans b.1, a.2.1.trans b.2.1, a.2.2.1.trans b.2.2.1, a.2.2.2.trans b.2.2.2⟩
theorem likeR.symm {u v : V} (a : likeR u v) : likeR v u := ⟨a.1.symm, a.2.1.symm, a.2.2.1.symm, a.2.2.2.symm⟩
variable {n : Nat} {st : Int} {nv : Nat} {b : Bool} {t : Nat} {e : Int} {nw : Nat} {fw : Nat → V} {err : Int} {c1 : Nat} {L1 : Ents} {c2 : Nat} {L2 : Ents} {fv has regs did : Nat → V}
theorem RRel.put (h : RRel n st nv b t e nw fw err c1 L1 c2 L2 fv has regs did) {q : Nat} (hq : q < n) (p0 p1 p2 a0 a1 a2 : Int) (n56 : Nat) (f57 : Nat → V) (h56 : n56 ≤ 200) :
    ∀ p, p < n → boolV (setF has q (.bool true) p) = true → likeR (getK (.int .i64 (ofN p)) (putL c1 (.int .i64 (ofN q)) (kept a0 a1 a2 n56 f57) L1)) (setF regs q (whole p0 p1 p2 a0 a1 a2 n56 f57) p) ∧ viewN (partV (getK (.int .i64 (ofN p)) (putL c1 (.int .i64 (ofN q)) (kept a0 a1 a2 n56 f57) L1)) 2) ≤ 200 := fun p hp hb => by
  rw [getK_put h.m1.ints, setF_at]
  rw [boolV_set] at hb
  by_cases e : p = q
  · subst e
    rw [if_pos rfl, if_pos rfl]
    exact ⟨⟨rfl, rfl, rfl, rfl, fun _ _ => rfl⟩, h56⟩
  · rw [if_neg e] at hb
    rw [if_neg e, if_neg (fun e' => e (by simp only [ofN] at e'; omega))]
    exact h.regs p hp hb
theorem allJ16 (X0 : Int → Int → Int → Int → Int → Nat → (Nat → V) → Int → Int → Int → Int → Nat → Nat → (List (Nat × V × V)) → Nat → (List (Nat × V × V)) → (Nat → V) → (Nat → V) → (Nat → V) → (Nat → V) → R β) (X1 : Int → Int → Int → Int → Int → Nat → (Nat → V) → Int → Int → Int → Int → Nat → (List (Nat × V × V)) → Nat → (List (Nat × V × V)) → (Nat → V) → (Nat → V) → (Nat → V) → R β) (X2 : Int → Int → Int → Int → Int → Nat → (Nat → V) → Int → Int → Int → Int → Nat → (List (Nat × V × V)) → Nat → (List (Nat × V × V)) → (Nat → V) → (Nat → V) → (Nat → V) → R β) (X3 : Nat → Int → Int → Nat → (Nat → V) → Int → Nat → Nat → (List (Nat × V × V)) → (Nat → V) → (Nat → V) → (Nat → V) → (Nat → V) → R β) (X4 : Nat → Int → Int → Nat → (Nat → V) → Int → Nat → (List (Nat × V × V)) → (Nat → V) → (Nat → V) → (Nat → V) → R β) (X5 : Nat → Int → Int → Nat → (Nat → V) → Int → Nat → (List (Nat × V × V)) → (Nat → V) → (Nat → V) → (Nat → V) → R β) (X6 : Nat → Int → Nat → (Nat → V) → Int → Nat → Nat → (List (Nat × V × V)) → (Nat → V) → (Nat → V) → (Nat → V) → (Nat → V) → R β) (X7 : Nat → Int → Nat → (Nat → V) → Int → Nat → (List (Nat × V × V)) → (Nat → V) → (Nat → V) → (Nat → V) → R β) (X8 : Nat → Int → Nat → (Nat → V) → Int → Nat → (List (Nat × V × V)) → (Nat → V) → (Nat → V) → (Nat → V) → R β)
    (r0 r1 r2 kind : Int) (n12 n13 : Nat) (m0 m1 m2 : Int) (old new : Nat → V) (ok k b0 b1 b2 g0 g1 g2 p0 p1 p2 a0 a1 a2 : Int) (n56 : Nat) (f57 : Nat → V)
    (hn : n ≤ 1000) (hch : okCh kind n12 n13) (h56 : n56 ≤ 200) (hS : RRel n st nv b t e nw fw err c1 L1 c2 L2 fv has regs did)
    (h2 : ∀ st' m0' m1' m2' c1' L1' c2' L2' has' regs' did', RRel n st' nv b t e nw fw err c1' L1' c2' L2' fv has' regs' did' → All PP (X2 st' m0' m1' m2' st' nw fw err m0' m1' m2' c1' L1' c2' L2' has' regs' did'))
    (h5 : ∀ nv' nw' fw' fv' c1' L1' has' regs', RRel n 2 nv' true 48 11 nw' fw' 11 c1' L1' c2 L2 fv' has' regs' did → All PP (X5 nv' 11 2 nw' fw' 11 c1' L1' fv' has' regs'))
    (h8 : ∀ nv' nw' fw' fv' c1' L1' has' regs', RRel n 2 nv' false 0 0 nw' fw' 0 c1' L1' c2 L2 fv' has' regs' did → All PP (X8 nv' 2 nw' fw' 0 c1' L1' fv' has' regs')) :
    All PP (Jf10_16_0 X0 X1 X2 X3 X4 X5 X6 X7 X8 (ofN n) r0 r1 r2 kind n12 n13 st nv b t e m0 m1 m2 (ofN n) r0 r1 r2 kind n12 old n13 new st n n n nw fw err m0 m1 m2 ok k b0 b1 b2 g0 g1 g2 p0 p1 p2 a0 a1 a2 n56 f57 old new c1 L1 c2 L2 fv has regs did) := by
  unfold Jf10_16_0
  have e0 : addN 0 n56 = n56 := by simp [addN]
  rw [e0, joinF_zero]
  refine ailen (fun _ => ?_) (fun h => absurd (by omega) h)
  have hsm := hS.small
  have fin : ∀ {Y0 Y1 Y2 : R β} (x : Bool) (st' m0' m1' m2' : Int), All PP Y2 → All PP (Jf10_25_0 Y0 Y1 Y2 x x r0 r1 r2 st' nv b t e m0' m1' m2' r0 r1 r2 st' nw fw err m0' m1' m2' n56 f57 n56 fv f57) := fun x st' m0' m1' m2' h =>
    allJ25 _ _ _ x x r0 r1 r2 st' nv b t e m0' m1' m2' nw fw err n56 f57 fv f57 rfl (by omega) (by omega) hS.val (fun _ => hS.err) (fun _ _ => rfl) h
  have stay : All PP (X2 st m0 m1 m2 st nw fw err m0 m1 m2 c1 L1 c2 L2 has regs did) := h2 _ _ _ _ _ _ _ _ _ _ _ hS
  refine aieq (fun hk => ?_) (fun hk => aieq (fun hk1 => ?_) (fun hk1 => ?_))
  · refine allPromiseP _ _ _ k b0 b1 b2 a0 a1 a2 n56 n r0 r1 r2 kind n12 n13 st f57 old new c1 L1 has hn hS.m1 h56 (fun q hq hb => (hS.regs q hq hb).2) hch (fun hD => ?_) (fun q hkq hq hbb hst hb hmaj => ?_) (fun q hkq hq hbb hst hb hmaj g hg => ?_)
    · refine allPromise11 _ _ k b0 b1 b2 p0 p1 p2 a0 a1 a2 n56 f57 n r0 r1 r2 kind n12 old n13 new st has regs hn hch (fun _ => fin false st m0 m1 m2 stay) (fun q h1 h2 h3 h4 h5 _ => absurd ⟨q, h1, h2, h3, h4, h5⟩ hD) (fun q h1 h2 h3 h4 h5 _ => absurd ⟨q, h1, h2, h3, h4, h5⟩ hD)
    · have same : ∀ q', k = ofN q' → q' = q := fun q' h => by rw [hkq] at h; simp only [ofN] at h; omega
      refine allPromise11 _ _ k b0 b1 b2 p0 p1 p2 a0 a1 a2 n56 f57 n r0 r1 r2 kind n12 old n13 new st has regs hn hch (fun h => absurd ⟨q, hkq, hq, hbb, hst, hb⟩ h) (fun q' h1 _ _ _ _ _ => ?_) (fun q' h1 _ _ _ _ hm => ?_)
      · obtain rfl := same q' h1
        exact fin false st m0 m1 m2 (h2 _ _ _ _ _ _ _ _ _ _ _ ⟨hS.stage, hS.val, hS.small, hS.err, hS.m1.put hq _, hS.m2, hS.put hq p0 p1 p2 a0 a1 a2 n56 f57 h56⟩)
      · obtain rfl := same q' h1
        omega
    · have same : ∀ q', k = ofN q' → q' = q := fun q' h => by rw [hkq] at h; simp only [ofN] at h; omega
      have hM' := hS.m1.put hq (kept a0 a1 a2 n56 f57)
      have hR' := hS.put hq p0 p1 p2 a0 a1 a2 n56 f57 h56
      have sz : ∀ i, i < (selL (setF has q (.bool true)) n).length → viewN (partV (g i) 2) ≤ 200 := fun i hi => by
        have hp := hg i _ (List.getElem?_eq_getElem hi)
        obtain ⟨hpn, hpb⟩ := selL_mem.1 (List.getElem_mem hi)
        rw [hp.2.2.2.1]
        exact (hR' _ hpn hpb).2
      have hvn := newR_len _ sz
      have both : ∀ (g' : Nat → V), (∀ i p, (selL (setF has q (.bool true)) n)[i]? = some p → likeR (g' i) (setF regs q (whole p0 p1 p2 a0 a1 a2 n56 f57) p)) → sameI (newR g (selL (setF has q (.bool true)) n).length).n (newR g (selL (setF has q (.bool true)) n).length).f (newR g' (selL (setF has q (.bool true)) n).length).n (newR g' (selL (setF has q (.bool true)) n).length).f := fun g' hg' =>
        (newR_like _ fun i hi => by
          have h1 := hg i _ (List.getElem?_eq_getElem hi)
          have h2 := hg' i _ (List.getElem?_eq_getElem hi)
          obtain ⟨hpn, hpb⟩ := selL_mem.1 (List.getElem_mem hi)
          exact (h1.trans (hR' _ hpn hpb).1).trans h2.symm).2.2.2
      refine ⟨fun h1 => ?_, fun h1 hs => ?_, fun h1 hs => ?_⟩
      · refine allPromise11 _ _ k b0 b1 b2 p0 p1 p2 a0 a1 a2 n56 f57 n r0 r1 r2 kind n12 old n13 new st has regs hn hch (fun h => absurd ⟨q, hkq, hq, hbb, hst, hb⟩ h) (fun q' h _ _ _ _ hm => by obtain rfl := same q' h; omega) (fun q' h _ _ _ _ _ g' hg' => ?_)
        obtain rfl := same q' h
        have hv := both g' hg'
        have next : RRel n 2 _ false 0 0 _ _ 0 _ _ c2 L2 _ _ _ did := ⟨by omega, hv, hvn, .inl ⟨rfl, rfl⟩, hM', hS.m2, hR'⟩
        exact ⟨fun _ => allJ25 _ _ _ true true r0 r1 r2 2 _ false 0 (Int.ofNat 0) m0 m1 m2 _ _ 0 n56 f57 _ f57 rfl (by omega) (by omega) hv (fun h => absurd h (by decide)) (fun _ _ => rfl) (h8 _ _ _ _ _ _ _ _ next), fun h' => by omega, fun h' => by omega⟩
      · refine allPromise11 _ _ k b0 b1 b2 p0 p1 p2 a0 a1 a2 n56 f57 n r0 r1 r2 kind n12 old n13 new st has regs hn hch (fun h => absurd ⟨q, hkq, hq, hbb, hst, hb⟩ h) (fun q' h _ _ _ _ hm => by obtain rfl := same q' h; omega) (fun q' h _ _ _ _ _ g' hg' => ?_)
        obtain rfl := same q' h
        have hv := both g' hg'
        have h13 : n13 ≤ 200 := by rcases hch with h | h <;> omega
        have next : RRel n 2 n13 false 0 0 n13 new 0 _ _ c2 L2 new _ _ did := ⟨by omega, sameI.refl _ _, h13, .inl ⟨rfl, rfl⟩, hM', hS.m2, hR'⟩
        exact ⟨fun h' => by omega, fun _ _ => allJ25 _ _ _ true true r0 r1 r2 2 _ false 0 (Int.ofNat 0) m0 m1 m2 _ _ 0 n56 f57 _ f57 rfl (by omega) (by omega) (sameI.refl _ _) (fun h => absurd h (by decide)) (fun _ _ => rfl) (h8 _ _ _ _ _ _ _ _ next), fun _ h' => absurd (hs.trans hv) h'⟩
      · refine allPromise11 _ _ k b0 b1 b2 p0 p1 p2 a0 a1 a2 n56 f57 n r0 r1 r2 kind n12 old n13 new st has regs hn hch (fun h => absurd ⟨q, hkq, hq, hbb, hst, hb⟩ h) (fun q' h _ _ _ _ hm => by obtain rfl := same q' h; omega) (fun q' h _ _ _ _ _ g' hg' => ?_)
        obtain rfl := same q' h
        have hv := both g' hg'
        have next : RRel n 2 _ true 48 11 _ _ 11 _ _ c2 L2 _ _ _ did := ⟨by omega, hv, hvn, .inr ⟨rfl, rfl, rfl, by decide⟩, hM', hS.m2, hR'⟩
        exact ⟨fun h' => by omega, fun _ h' => absurd (h'.trans hv.symm) hs, fun _ _ => allJ25 _ _ _ true true r0 r1 r2 2 _ true 48 11 m0 m1 m2 _ _ 11 n56 f57 _ f57 rfl (by omega) (by omega) hv (fun h => absurd h (by decide)) (fun _ _ => rfl) (h5 _ _ _ _ _ _ _ _ next)⟩
  · have no : ¬ (∃ q, k = ofN q ∧ q < n ∧ (b0 = r0 ∧ b1 = r1 ∧ b2 = r2) ∧ st = 2) → ∀ (Z0 Z1 : (Nat → V) → R β), All PP (Z0 did) → All PP (Df45_0 Z0 Z1 k b0 b1 b2 (ofN n) r0 r1 r2 st n did) := fun hD Z0 Z1 h =>
      allAccepted11 Z0 Z1 k b0 b1 b2 n r0 r1 r2 st did hn (fun _ => h) (fun q h1 h2 h3 h4 _ => absurd ⟨q, h1, h2, h3, h4⟩ hD) (fun q h1 h2 h3 h4 _ => absurd ⟨q, h1, h2, h3, h4⟩ hD)
    refine aile (fun hk0 => ailt (fun hkn => aiand (aieq (fun c0 => aiand (aieq (fun c1' => aieq (fun c2' => ?_) (fun h => no (fun ⟨_, _, _, o, _⟩ => h o.2.2) _ _ (fin false st m0 m1 m2 stay))) (fun h => no (fun ⟨_, _, _, o, _⟩ => h o.2.1) _ _ (fin false st m0 m1 m2 stay)))) (fun h => no (fun ⟨_, _, _, o, _⟩ => h o.1) _ _ (fin false st m0 m1 m2 stay)))) (fun h => no (fun ⟨q, o, hq, _⟩ => h (by rw [o]; simp only [ofN]; omega)) _ _ (fin false st m0 m1 m2 stay))) (fun h => no (fun ⟨q, o, hq, _⟩ => h (by rw [o]; simp only [ofN]; omega)) _ _ (fin false st m0 m1 m2 stay))
    obtain ⟨q, rfl⟩ : ∃ q : Nat, k = ofN q := ⟨k.toNat, by simp only [ofN]; omega⟩
    have hq : q < n := by simp only [ofN] at hkn; omega
    refine allIn1 _ 2 st (fun hs => ainot (aile (fun _ => ?_) (fun h => absurd (by decide) h))) (fun hs => ainot (aile (fun h => absurd h (by decide)) (fun _ => no (fun ⟨_, _, _, _, o⟩ => hs o) _ _ (fin false st m0 m1 m2 stay))))
    refine keyOk (by simp only [ofN]; omega) (by simp only [ofN]; omega) ?_
    have step : ∀ x : V, All PP (iteR (notB (ltI (ofN n) (wrapI .i64 (mulI 2 (ofN (putL c2 (.int .i64 (ofN q)) x L2).length)))))
        (Df45_0 (fun f109 => Jf10_25_0 (X0 st m0 m1 m2 st nw fw err m0 m1 m2 n56 c1 L1 (putC c2 (.int .i64 (ofN q)) L2) (putL c2 (.int .i64 (ofN q)) x L2) has regs f109 f57) (X1 st m0 m1 m2 st nw fw err m0 m1 m2 c1 L1 (putC c2 (.int .i64 (ofN q)) L2) (putL c2 (.int .i64 (ofN q)) x L2) has regs f109) (X2 st m0 m1 m2 st nw fw err m0 m1 m2 c1 L1 (putC c2 (.int .i64 (ofN q)) L2) (putL c2 (.int .i64 (ofN q)) x L2) has regs f109) false false r0 r1 r2 st nv b t e m0 m1 m2 r0 r1 r2 st nw fw err m0 m1 m2 n56 f57 n56 fv f57)
          (fun f110 => Jf10_25_0 (X0 st m0 m1 m2 3 nw fw err m0 m1 m2 n56 c1 L1 (putC c2 (.int .i64 (ofN q)) L2) (putL c2 (.int .i64 (ofN q)) x L2) has regs f110 f57) (X1 st m0 m1 m2 3 nw fw err m0 m1 m2 c1 L1 (putC c2 (.int .i64 (ofN q)) L2) (putL c2 (.int .i64 (ofN q)) x L2) has regs f110) (X2 st m0 m1 m2 3 nw fw err m0 m1 m2 c1 L1 (putC c2 (.int .i64 (ofN q)) L2) (putL c2 (.int .i64 (ofN q)) x L2) has regs f110) false true r0 r1 r2 st nv b t e m0 m1 m2 r0 r1 r2 3 nw fw err m0 m1 m2 n56 f57 n56 fv f57) (ofN q) b0 b1 b2 (ofN n) r0 r1 r2 st n did)
        (Df45_0 (fun f111 => Jf10_25_0 (X0 3 m0 m1 m2 st nw fw err m0 m1 m2 n56 c1 L1 (putC c2 (.int .i64 (ofN q)) L2) (putL c2 (.int .i64 (ofN q)) x L2) has regs f111 f57) (X1 3 m0 m1 m2 st nw fw err m0 m1 m2 c1 L1 (putC c2 (.int .i64 (ofN q)) L2) (putL c2 (.int .i64 (ofN q)) x L2) has regs f111) (X2 3 m0 m1 m2 st nw fw err m0 m1 m2 c1 L1 (putC c2 (.int .i64 (ofN q)) L2) (putL c2 (.int .i64 (ofN q)) x L2) has regs f111) true false r0 r1 r2 3 nv b t e m0 m1 m2 r0 r1 r2 st nw fw err m0 m1 m2 n56 f57 n56 fv f57)
          (fun f112 => Jf10_25_0 (X0 3 m0 m1 m2 3 nw fw err m0 m1 m2 n56 c1 L1 (putC c2 (.int .i64 (ofN q)) L2) (putL c2 (.int .i64 (ofN q)) x L2) has regs f112 f57) (X1 3 m0 m1 m2 3 nw fw err m0 m1 m2 c1 L1 (putC c2 (.int .i64 (ofN q)) L2) (putL c2 (.int .i64 (ofN q)) x L2) has regs f112) (X2 3 m0 m1 m2 3 nw fw err m0 m1 m2 c1 L1 (putC c2 (.int .i64 (ofN q)) L2) (putL c2 (.int .i64 (ofN q)) x L2) has regs f112) true true r0 r1 r2 3 nv b t e m0 m1 m2 r0 r1 r2 3 nw fw err m0 m1 m2 n56 f57 n56 fv f57) (ofN q) b0 b1 b2 (ofN n) r0 r1 r2 st n did)) := fun x => by
      have hM' := hS.m2.put hq x
      have hsl := selL_len (setF did q (.bool true)) n
      have same : ∀ q', ofN q = ofN q' → q' = q := fun q' h => by simp only [ofN] at h; omega
      rw [hM'.len, mul2 (by omega)]
      refine ainot (ailt (fun hmaj => ?_) (fun hmaj => ?_))
      · refine allAccepted11 _ _ (ofN q) b0 b1 b2 n r0 r1 r2 st did hn (fun h => absurd ⟨q, rfl, hq, ⟨c0, c1', c2'⟩, hs⟩ h) (fun q' h _ _ _ hm => by obtain rfl := same q' h; simp only [ofN] at hmaj; omega) (fun q' h _ _ _ hm => ?_)
        obtain rfl := same q' h
        exact fin true 3 m0 m1 m2 (h2 _ _ _ _ _ _ _ _ _ _ _ ⟨by omega, hS.val, hS.small, hS.err, hS.m1, hM', hS.regs⟩)
      · refine allAccepted11 _ _ (ofN q) b0 b1 b2 n r0 r1 r2 st did hn (fun h => absurd ⟨q, rfl, hq, ⟨c0, c1', c2'⟩, hs⟩ h) (fun q' h _ _ _ hm => ?_) (fun q' h _ _ _ hm => by obtain rfl := same q' h; simp only [ofN] at hmaj; omega)
        obtain rfl := same q' h
        exact fin false st m0 m1 m2 (h2 _ _ _ _ _ _ _ _ _ _ _ ⟨hS.stage, hS.val, hS.small, hS.err, hS.m1, hM', hS.regs⟩)
    exact all_iteR (fun _ => keyOk (by simp only [ofN]; omega) (by simp only [ofN]; omega) (step _)) (fun _ => keyOk (by simp only [ofN]; omega) (by simp only [ofN]; omega) (step _))
  · refine allRefusedP _ _ k b0 b1 b2 g0 g1 g2 n r0 r1 r2 st (fun hD => allRefused11 _ _ k b0 b1 b2 g0 g1 g2 n r0 r1 r2 st hS.stage.1 (fun _ => fin false st m0 m1 m2 stay) (fun h => absurd h hD)) (fun hD => allRefused11 _ _ k b0 b1 b2 g0 g1 g2 n r0 r1 r2 st hS.stage.1 (fun h => absurd hD h) (fun _ => ?_))
    exact fin true 4 g0 g1 g2 (h2 _ _ _ _ _ _ _ _ _ _ _ ⟨by omega, hS.val, hS.small, hS.err, hS.m1, hS.m2, hS.regs⟩)
end
end Go.Proofs.Ytcafnbjmebichaa
