/- What the functions of the layers floor and place do: proved of their walks. No conditions. -/
import Derived.Test.YtbplfgghcclgkaaEqP
import Derived.Test.YtbplfgghcclgkaaVmD
import Derived.KernelRfl
open Go Go.VM
namespace Go.Proofs.Ytbplfgghcclgkaa
set_option maxRecDepth 100000
theorem ref105 {β : Type} {PP : β → Prop} (args : List V) (G : List Reg) (K : V → List Reg → R β) (h : All PP (Sr105 args G K)) :
    ToldV PP K (B105.run (mkVs Sl105 (locAt args) 0) (mkG Sg105 (regAt G) 0) fun v G => .ret (v, G)) := by
  show ToldV PP K (B105.run [.int .i64 (intV (locAt args 0)), .int .i64 (intV (locAt args 1))] [] _)
  rw [eCompare]
  unfold Sr105 cmpV at h
  generalize intV (locAt args 0) = a at h
  generalize intV (locAt args 1) = b at h
  unfold ToldV
  simp only [eqI_refl]
  refine all_iteR (fun h1 => by cases h1) (fun _ => all_iteR (fun h1 => by cases h1) (fun _ => all_iteR (fun h1 => ?_) (fun h1 => all_iteR (fun h2 => ?_) (fun h2 => ?_))))
  · rw [ltI_iff] at h1; rw [if_pos h1] at h; exact told_ret h
  · rw [ltI_no] at h1; rw [ltI_iff] at h2; rw [if_neg h1, if_pos h2] at h; exact told_ret h
  · rw [ltI_no] at h1 h2; rw [if_neg h1, if_neg h2] at h; exact told_ret h
theorem ref122 {β : Type} {PP : β → Prop} (args : List V) (G : List Reg) (K : V → List Reg → R β) (h : All PP (Sr122 args G K)) :
    ToldV PP K (B122.run (mkVs Sl122 (locAt args) 0) (mkG Sg122 (regAt G) 0) fun v G => .ret (v, G)) := by
  show ToldV PP K (B122.run [.int .i64 (intV (locAt args 0)), .int .i64 (intV (locAt args 1))] [] _)
  rw [eDiv]
  unfold Sr122 divV at h
  generalize intV (locAt args 0) = t at h
  generalize intV (locAt args 1) = r at h
  unfold ToldV
  refine all_iteR (fun h1 => ?_) (fun h1 => all_iteR (fun _ => all_iteR (fun _ => all_iteR (fun h2 => ?_) (fun h2 => ?_)) (fun h2 => ?_)) (fun h2 => ?_))
  · rw [ltI_iff] at h1; rw [if_pos h1] at h; exact told_ret h
  · rw [ltI_no] at h1; rw [ltI_iff] at h2; rw [if_neg h1, if_pos h2] at h; exact told_ret h
  · rw [ltI_no] at h1 h2; rw [if_neg h1, if_neg h2] at h; exact told_ret h
  · rw [ltI_no] at h1; rw [notB_no, eqI_iff] at h2; omega
  · rw [ltI_no] at h1; rw [notB_no, eqI_iff] at h2; omega
theorem ref128 {β : Type} {PP : β → Prop} (args : List V) (G : List Reg) (K : V → List Reg → R β) (h : All PP (Sr128 args G K)) :
    ToldV PP K (B128.run (mkVs Sl128 (locAt args) 0) (mkG Sg128 (regAt G) 0) fun v G => .ret (v, G)) := by
  show ToldV PP K (B128.run [.int .i64 (intV (locAt args 0)), .int .i64 (intV (locAt args 1))] [] _)
  rw [eMod]
  unfold Sr128 modV at h
  generalize intV (locAt args 0) = t at h
  generalize intV (locAt args 1) = r at h
  unfold ToldV
  refine all_iteR (fun h1 => ?_) (fun h1 => all_iteR (fun _ => ?_) (fun h2 => ?_))
  · rw [ltI_iff] at h1; rw [if_pos h1] at h; exact told_ret h
  · rw [ltI_no] at h1; rw [if_neg h1] at h; exact told_ret h
  · rw [ltI_no] at h1; rw [notB_no, eqI_iff] at h2; omega
theorem cmpV_lt {a b : Int} : cmpV a b < 0 ↔ a < b := by unfold cmpV; split <;> (try split) <;> omega
theorem cmpV_eq {a b : Int} : cmpV a b = 0 ↔ a = b := by unfold cmpV; split <;> (try split) <;> omega
theorem ref61 {β : Type} {PP : β → Prop} (args : List V) (G : List Reg) (K : V → List Reg → R β) (h : All PP (Sr61 args G K)) :
    ToldV PP K (B61.run (mkVs Sl61 (locAt args) 0) (mkG Sg61 (regAt G) 0) fun v G => .ret (v, G)) := by
  show ToldV PP K (B61.run [.nd 53 [.int .i64 (intV (partV (locAt args 0) 0)), .int .i64 (intV (partV (locAt args 0) 1))], .nd 53 [.int .i64 (intV (partV (locAt args 1) 0)), .int .i64 (intV (partV (locAt args 1) 1))]] [] _)
  rw [eLess]
  unfold Sr61 lessV at h
  generalize intV (partV (locAt args 0) 0) = a at h
  generalize intV (partV (locAt args 0) 1) = b at h
  generalize intV (partV (locAt args 1) 0) = c at h
  generalize intV (partV (locAt args 1) 1) = d at h
  unfold ToldV
  have key : ∀ {x : Bool}, x = decide (a < c ∨ a = c ∧ b < d) → All (fun p : V × List Reg => ∃ G', RowsSame p.2 G' ∧ All PP (K p.1 G')) (.ret (.bool x, [])) := fun hx => by rw [hx]; exact told_ret h
  refine all_iteR (fun h1 => key ?_) (fun h1 => all_iteR (fun h2 => key ?_) (fun h2 => key ?_))
  · rw [notB_iff, eqI_no] at h1
    have e1 := (not_congr cmpV_eq).1 h1
    rw [show ltI (cmpV a c) 0 = decide (cmpV a c < 0) from rfl, decide_eq_decide, cmpV_lt]
    omega
  · rw [notB_no, eqI_iff] at h1
    rw [notB_iff, eqI_no] at h2
    have e1 := cmpV_eq.1 h1
    have e2 := (not_congr cmpV_eq).1 h2
    rw [show ltI (cmpV b d) 0 = decide (cmpV b d < 0) from rfl, decide_eq_decide, cmpV_lt]
    omega
  · rw [notB_no, eqI_iff] at h1 h2
    have e1 := cmpV_eq.1 h1
    have e2 := cmpV_eq.1 h2
    rw [show ltI 0 0 = decide ((0 : Int) < 0) from rfl, decide_eq_decide]
    omega
theorem lpIds (a b c d e sh : Int) (n : Nat) (f : Nat → V) (hn : n ≤ 1073741824) {β : Type} {PP : β → Prop} {K : Ex → St → R β} : ∀ (k i : Nat) (g0 : Nat → V), i ≤ n → n - i < k →
    All PP (K (.exit 0) ⟨[.junk, .junk, .int .i64 sh, .ptr 0 [] 38, .junk, .sub 1 0 n, .junk, .junk, .view 3 n f, .int .i64 (ofN n), .int .i64 (ofN n), .bool false],
      [.box 38 (.nd 38 [.int .i64 a, .int .i64 b, .int .i64 c, .int .i64 d, .int .i64 e]), .row 55 n (pushR idZ (idV c d sh f) (n - i) i g0)]⟩) →
    All PP (loopN (exec { CL107 with m := 0, nt := Try.f107.ntmps } (loopBody Try.f107 0) 0) (canonK { CL107 with m := 0, nt := Try.f107.ntmps } 0) k
      ⟨[.junk, .junk, .int .i64 sh, .ptr 0 [] 38, .junk, .sub 1 0 i, .junk, .junk, .view 3 n f, .int .i64 (ofN n), .int .i64 (ofN i), .junk], [.box 38 (.nd 38 [.int .i64 a, .int .i64 b, .int .i64 c, .int .i64 d, .int .i64 e]), .row 55 i g0]⟩ K)
  | 0, i, g0, _, h, _ => by omega
  | k + 1, i, g0, hi, hk, h => by
    rw [loopN_succ, rIds]
    rcases Nat.lt_or_ge i n with hlt | hge
    · refine all_iteR (fun _ => all_iteR (fun _ => all_iteR (fun _ => ?_) (fun h1 => ?_)) (fun h1 => ?_)) (fun h1 => ?_)
      · rw [wrap_succ (by omega), natI_ofN]
        refine lpIds a b c d e sh n f hn k (i + 1) _ (by omega) (by omega) ?_
        rw [show n - i = (n - (i + 1)) + 1 by omega] at h
        exact h
      · rw [leN_no, addN_eq] at h1; omega
      · simp [andB, leI_zero, ltI_ofN, hlt] at h1
      · simp [ltI_ofN, hlt] at h1
    · have : i = n := by omega
      subst this
      have e0 : ltI (ofN i) (ofN i) = false := by simp [ltI_ofN]
      rw [e0]
      rw [Nat.sub_self] at h
      exact h
theorem hl107 : LoopsL CL107 Try.f107.ntmps (loopsIn (codeOf Try.f107) 0) := by
  have e : loopsIn (codeOf Try.f107) 0 = [(0, loopBody Try.f107 0)] := by kernel_rfl
  rw [e]
  refine loops_one (loopE_ok (m0 := 0) (l := Ll107) (g := Lg107) (run := @Lr107) (by kernel_rfl) ?_)
  intro β PP st K h
  unfold Lr107 at h
  obtain ⟨h1, h⟩ := all_must.1 h
  obtain ⟨h2, h⟩ := all_must.1 h
  obtain ⟨h3, h⟩ := all_must.1 h
  obtain ⟨h4, h⟩ := all_must.1 h
  obtain ⟨h5, h⟩ := all_must.1 h
  obtain ⟨h6, h⟩ := all_must.1 h
  rw [leN_iff] at h2 h3
  rw [eqI_iff] at h4
  rw [eqN_iff] at h5 h6
  have key := lpIds (intV (partV (regV (regAt st.G 0)) 0)) (intV (partV (regV (regAt st.G 0)) 1)) (intV (partV (regV (regAt st.G 0)) 2)) (intV (partV (regV (regAt st.G 0)) 3)) (intV (partV (regV (regAt st.G 0)) 4)) (intV (locAt st.loc 2))
    (viewN (locAt st.loc 8)) (viewF (locAt st.loc 8)) h3 (PP := PP) (K := K) NN (natI (intV (locAt st.loc 10))) (regF (regAt st.G 1)) h2 (by unfold NN; omega) h
  rw [ofN_natI h1, ← h4] at key
  have e5 : subN' (locAt st.loc 5) = natI (intV (locAt st.loc 10)) := h5
  have e6 : regN (regAt st.G 1) = natI (intV (locAt st.loc 10)) := h6
  show All PP (loopN _ _ NN ⟨[.junk, .junk, .int .i64 (intV (locAt st.loc 2)), .ptr 0 [] 38, .junk, .sub 1 0 (subN' (locAt st.loc 5)), .junk, .junk, .view 3 (viewN (locAt st.loc 8)) (viewF (locAt st.loc 8)), .int .i64 (intV (locAt st.loc 9)), .int .i64 (intV (locAt st.loc 10)), .junk],
    [.box 38 (.nd 38 [.int .i64 (intV (partV (regV (regAt st.G 0)) 0)), .int .i64 (intV (partV (regV (regAt st.G 0)) 1)), .int .i64 (intV (partV (regV (regAt st.G 0)) 2)), .int .i64 (intV (partV (regV (regAt st.G 0)) 3)), .int .i64 (intV (partV (regV (regAt st.G 0)) 4))]), .row 55 (regN (regAt st.G 1)) (regF (regAt st.G 1))]⟩ K)
  rw [e5, e6]
  exact key
theorem ref107 {β : Type} {PP : β → Prop} (args : List V) (G : List Reg) (K : V → List Reg → R β) (h : All PP (Sr107 args G K)) :
    ToldV PP K (B107.run (mkVs Sl107 (locAt args) 0) (mkG Sg107 (regAt G) 0) fun v G => .ret (v, G)) := by
  show ToldV PP K (B107.run [.nd 38 [.int .i64 (intV (partV (locAt args 0) 0)), .int .i64 (intV (partV (locAt args 0) 1)), .int .i64 (intV (partV (locAt args 0) 2)), .int .i64 (intV (partV (locAt args 0) 3)), .int .i64 (intV (partV (locAt args 0) 4))], .view 3 (viewN (locAt args 1)) (viewF (locAt args 1)), .int .i64 (intV (locAt args 2))] [] _)
  rw [eIds]
  unfold Sr107 at h
  obtain ⟨h1, h⟩ := all_must.1 h
  unfold ToldV
  refine all_iteR (fun _ => all_iteR (fun _ => ?_) (fun h2 => ?_)) (fun h2 => ?_)
  · refine ⟨_, RowsSame.cons (show RowSame (.row _ _ _) (.row _ _ _) from ⟨rfl, rfl, fun i hi => ?_⟩) RowsSame.nil, h⟩
    rw [pushR_at _ _ _ _ _ _ (by simp [natI, subN]; omega), if_neg (by simp [natI])]
  · rw [eqI_refl] at h2; cases h2
  · rw [h1] at h2; cases h2
theorem idxP_cases (p : V → Bool) (f : Nat → V) : ∀ (k i : Nat), idxP p f k i = -1 ∧ (∀ j, i ≤ j → j < i + k → p (f j) = false) ∨ ∃ j, i ≤ j ∧ j < i + k ∧ p (f j) = true ∧ idxP p f k i = ofN j ∧ ∀ j', i ≤ j' → j' < j → p (f j') = false
  | 0, i => .inl ⟨rfl, fun j h1 h2 => absurd h2 (by omega)⟩
  | k + 1, i => by
    unfold idxP
    by_cases hp : p (f i) = true
    · rw [if_pos hp]
      exact .inr ⟨i, by omega, by omega, hp, rfl, fun j' h1 h2 => absurd h2 (by omega)⟩
    · rw [if_neg hp]
      have hp : p (f i) = false := by simpa using hp
      rcases idxP_cases p f k (i + 1) with ⟨h1, h2⟩ | ⟨j, h1, h2, h3, h4, h5⟩
      · refine .inl ⟨h1, fun j hj hk => ?_⟩
        by_cases e : j = i
        · rw [e]; exact hp
        · exact h2 j (by omega) (by omega)
      · refine .inr ⟨j, by omega, by omega, h3, h4, fun j' hj hk => ?_⟩
        by_cases e : j' = i
        · rw [e]; exact hp
        · exact h5 j' (by omega) hk
theorem idx_none {p : V → Bool} {f : Nat → V} {k i : Nat} (h : leI 0 (idxP p f k i) = false) : idxP p f k i = -1 := by
  rcases idxP_cases p f k i with ⟨h1, _⟩ | ⟨j, _, _, _, h4, _⟩
  · exact h1
  · rw [h4, leI_zero] at h; cases h
theorem ref135 {β : Type} {PP : β → Prop} (args : List V) (G : List Reg) (K : V → List Reg → R β) (h : All PP (Sr135 args G K)) :
    ToldV PP K (B135.run (mkVs Sl135 (locAt args) 0) (mkG Sg135 (regAt G) 0) fun v G => .ret (v, G)) := by
  show ToldV PP K (B135.run [.nd 55 [.int .i64 (intV (partV (locAt args 0) 0)), .nd 53 [.int .i64 (intV (partV (partV (locAt args 0) 1) 0)), .int .i64 (intV (partV (partV (locAt args 0) 1) 1))]], .ptr 0 [] 74] [.box 74 (.view 53 (viewN (regV (regAt G 0))) (viewF (regV (regAt G 0))))] _)
  rw [eOpen]
  unfold Sr135 openV at h
  unfold ToldV
  refine all_iteR (fun h1 => ?_) (fun h1 => all_iteR (fun h2 => ?_) (fun h2 => all_iteR (fun h3 => ?_) (fun h3 => ?_)))
  · rw [ltI_iff] at h1
    rw [decide_eq_true (Or.inl h1), Bool.true_or] at h
    exact told_ret h
  · rw [leI_iff] at h2
    rw [decide_eq_true (Or.inr h2), Bool.true_or] at h
    exact told_ret h
  · rw [ltI_no] at h1
    have h2 : ¬ ofN (viewN (regV (regAt G 0))) ≤ intV (partV (locAt args 0) 0) := by simpa [leI] using h2
    rw [decide_eq_false (fun hh => hh.elim h1 h2), Bool.false_or] at h
    exact told_ret h
  · rw [ltI_no] at h1
    have h2 : ¬ ofN (viewN (regV (regAt G 0))) ≤ intV (partV (locAt args 0) 0) := by simpa [leI] using h2
    have e1 : leI 0 (intV (partV (locAt args 0) 0)) = true := by rw [leI_iff]; omega
    have e2 : ltI (intV (partV (locAt args 0) 0)) (ofN (viewN (regV (regAt G 0)))) = true := by rw [ltI_iff]; omega
    rw [e1, e2] at h3
    cases h3
theorem lpIndex149 (n : Nat) (f : Nat → V) (g0_0 : Nat) (g0_1 : Nat → V) (hn : n ≤ 1073741824) {β : Type} {PP : β → Prop} {K : Ex → St → R β} : ∀ (k i : Nat), i ≤ n → n - i < k →
    All PP (iteR (leI 0 (idxP (openV g0_0 g0_1) f (n - i) i)) (K .ret ⟨[.view 55 n f, .fn 135 [.ptr 0 [] 74], .int .i64 (idxP (openV g0_0 g0_1) f (n - i) i), .int .i64 (idxP (openV g0_0 g0_1) f (n - i) i), .int .i64 (ofN n), .int .i64 (idxP (openV g0_0 g0_1) f (n - i) i), .bool true, .bool true], [.box 74 (.view 53 g0_0 g0_1)]⟩)
      (K (.exit 0) ⟨[.view 55 n f, .fn 135 [.ptr 0 [] 74], .junk, .junk, .int .i64 (ofN n), .int .i64 (ofN n), .bool false, .junk], [.box 74 (.view 53 g0_0 g0_1)]⟩)) →
    All PP (loopN (exec { CL149 with m := 1, nt := Try.f149.ntmps } (loopBody Try.f149 0) 0) (canonK { CL149 with m := 1, nt := Try.f149.ntmps } 0) k ⟨[.view 55 n f, .fn 135 [.ptr 0 [] 74], .junk, .junk, .int .i64 (ofN n), .int .i64 (ofN i), .junk, .junk], [.box 74 (.view 53 g0_0 g0_1)]⟩ K)
  | 0, i, _, h, _ => by omega
  | k + 1, i, hi, hk, h => by
    rw [loopN_succ, rIndex149]
    rcases Nat.lt_or_ge i n with hlt | hge
    · have hl : ltI (ofN i) (ofN n) = true := by simp [ltI_ofN, hlt]
      rw [show n - i = (n - (i + 1)) + 1 by omega] at h
      unfold idxP at h
      refine all_iteR (fun _ => all_iteR (fun _ => all_iteR (fun h1 => ?_) (fun h1 => ?_)) (fun h1 => ?_)) (fun h1 => ?_)
      · rw [natI_ofN] at h1
        have h1' : (openV g0_0 g0_1) (f i) = true := h1
        rw [natI_ofN, hl]
        rw [if_pos h1', leI_zero] at h
        have h1c := h1
        rw [h1c]
        exact h
      · rw [natI_ofN] at h1
        have h1' : (openV g0_0 g0_1) (f i) = false := h1
        rw [wrap_succ (by omega)]
        refine lpIndex149 n f g0_0 g0_1 hn k (i + 1) (by omega) (by omega) ?_
        rw [h1'] at h
        exact h
      · simp [andB, leI_zero, ltI_ofN, hlt] at h1
      · rw [hl] at h1; cases h1
    · have : i = n := by omega
      subst this
      have e0 : ltI (ofN i) (ofN i) = false := by simp [ltI_ofN]
      rw [e0]
      rw [Nat.sub_self] at h
      exact h
theorem hl149 : LoopsL CL149 Try.f149.ntmps (loopsIn (codeOf Try.f149) 0) := by
  have e : loopsIn (codeOf Try.f149) 0 = [(0, loopBody Try.f149 0)] := by kernel_rfl
  rw [e]
  refine loops_one (loopE_ok (m0 := 1) (l := Ll149) (g := Lg149) (run := @Lr149) (by kernel_rfl) ?_)
  intro β PP st K h
  unfold Lr149 at h
  obtain ⟨h1, h⟩ := all_must.1 h
  obtain ⟨h2, h⟩ := all_must.1 h
  obtain ⟨h3, h⟩ := all_must.1 h
  obtain ⟨h4, h⟩ := all_must.1 h
  rw [leN_iff] at h2 h3
  rw [eqI_iff] at h4
  have key := lpIndex149 (viewN (locAt st.loc 0)) (viewF (locAt st.loc 0)) (viewN (regV (regAt st.G 0))) (viewF (regV (regAt st.G 0))) h3 (PP := PP) (K := K) NN (natI (intV (locAt st.loc 5))) h2 (by unfold NN; omega) h
  rw [ofN_natI h1, ← h4] at key
  exact key
theorem ref149 {β : Type} {PP : β → Prop} (args : List V) (G : List Reg) (K : V → List Reg → R β) (h : All PP (Sr149 args G K)) :
    ToldV PP K (B149.run (mkVs Sl149 (locAt args) 0) (mkG Sg149 (regAt G) 0) fun v G => .ret (v, G)) := by
  show ToldV PP K (B149.run [.view 55 (viewN (locAt args 0)) (viewF (locAt args 0)), .fn 135 [.ptr 0 [] 74]] [.box 74 (.view 53 (viewN (regV (regAt G 0))) (viewF (regV (regAt G 0))))] _)
  rw [eIndex149]
  unfold Sr149 at h
  obtain ⟨h1, h⟩ := all_must.1 h
  unfold ToldV
  refine all_iteR (fun _ => all_iteR (fun _ => all_iteR (fun _ => told_ret h) (fun h2 => ?_)) (fun h2 => ?_)) (fun h2 => ?_)
  · have e : idxP (openV (viewN (regV (regAt G 0))) (viewF (regV (regAt G 0)))) (viewF (locAt args 0)) (viewN (locAt args 0)) 0 = -1 := idx_none h2
    rw [e] at h
    exact told_ret h
  · rw [eqI_refl] at h2; cases h2
  · rw [h1] at h2; cases h2
theorem ref112 {β : Type} {PP : β → Prop} (args : List V) (G : List Reg) (K : V → List Reg → R β) (h : All PP (Sr112 args G K)) :
    ToldV PP K (B112.run (mkVs Sl112 (locAt args) 0) (mkG Sg112 (regAt G) 0) fun v G => .ret (v, G)) := by
  show ToldV PP K (B112.run [.nd 38 [.int .i64 (intV (partV (locAt args 0) 0)), .int .i64 (intV (partV (locAt args 0) 1)), .int .i64 (intV (partV (locAt args 0) 2)), .int .i64 (intV (partV (locAt args 0) 3)), .int .i64 (intV (partV (locAt args 0) 4))], .view 3 (viewN (locAt args 1)) (viewF (locAt args 1)), .int .i64 (intV (locAt args 2)), .view 53 (viewN (locAt args 3)) (viewF (locAt args 3))] [] _)
  rw [eCovered]
  unfold Sr112 coveredV at h
  obtain ⟨h1, h⟩ := all_must.1 h
  unfold ToldV
  refine all_iteR (fun _ => all_iteR (fun h2 => all_iteR (fun _ => ?_) (fun h3 => ?_)) (fun h2 => ?_)) (fun h3 => ?_)
  · rw [h2] at h; exact told_ret h
  · rw [h1] at h3; cases h3
  · rw [h2] at h; exact told_ret h
  · rw [h1] at h3; cases h3
end Go.Proofs.Ytbplfgghcclgkaa
