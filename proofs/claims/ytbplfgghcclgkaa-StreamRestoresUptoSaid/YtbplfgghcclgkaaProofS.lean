/- What the functions of the layer stream do: proved of their walks. No conditions. -/
import Derived.Test.YtbplfgghcclgkaaEqS
import Derived.Test.YtbplfgghcclgkaaProofP
open Go Go.VM
namespace Go.Proofs.Ytbplfgghcclgkaa
set_option maxRecDepth 100000
theorem ref75 {β : Type} {PP : β → Prop} (args : List V) (G : List Reg) (K : V → List Reg → R β) (h : All PP (Sr75 args G K)) :
    ToldV PP K (B75.run (mkVs Sl75 (locAt args) 0) (mkG Sg75 (regAt G) 0) fun v G => .ret (v, G)) := by
  show ToldV PP K (B75.run [.nd 38 [.int .i64 (intV (partV (locAt args 0) 0)), .int .i64 (intV (partV (locAt args 0) 1)), .int .i64 (intV (partV (locAt args 0) 2)), .int .i64 (intV (partV (locAt args 0) 3)), .int .i64 (intV (partV (locAt args 0) 4))], .ptr 0 [] 75] [.box 75 (.ptr 1 [] 150), .box 150 (.nd 150 [.nd 148 [.sub 2 0 (subN' (partV (partV (regV (regAt G 1)) 0) 0)), .int .i64 (intV (partV (partV (regV (regAt G 1)) 0) 1))], .int .i64 (intV (partV (regV (regAt G 1)) 1)), .int .i64 (intV (partV (regV (regAt G 1)) 2)), .nd 38 [.int .i64 (intV (partV (partV (regV (regAt G 1)) 3) 0)), .int .i64 (intV (partV (partV (regV (regAt G 1)) 3) 1)), .int .i64 (intV (partV (partV (regV (regAt G 1)) 3) 2)), .int .i64 (intV (partV (partV (regV (regAt G 1)) 3) 3)), .int .i64 (intV (partV (partV (regV (regAt G 1)) 3) 4))], .sub 3 0 (subN' (partV (regV (regAt G 1)) 4)), .sub 4 0 (subN' (partV (regV (regAt G 1)) 5))]), .row 3 (regN (regAt G 2)) (regF (regAt G 2)), .row 38 (regN (regAt G 3)) (regF (regAt G 3)), .row 53 (regN (regAt G 4)) (regF (regAt G 4))] _)
  rw [eCut1]
  unfold Sr75 at h
  obtain ⟨h1, h⟩ := all_must.1 h
  unfold ToldV
  refine all_iteR (fun _ => told_ret h) (fun h2 => ?_)
  rw [h1] at h2; cases h2
theorem lpIndex111 (n : Nat) (g1_0 : Nat) (g1_1 : Int) (g1_2 : Int) (g1_3 : Int) (g1_4 : Int) (g1_5 : Int) (g1_6 : Int) (g1_7 : Int) (g1_8 : Int) (g1_9 : Nat) (g1_10 : Nat) (g2n : Nat) (g2f : Nat → V) (g3n : Nat) (g3f : Nat → V) (g4n : Nat) (g4f : Nat → V) (hn : n ≤ 1073741824) (hpre : leN g1_0 1073741824 = true) {β : Type} {PP : β → Prop} {K : Ex → St → R β} : ∀ (k i : Nat), i ≤ n → n - i < k →
    All PP (iteR (leI 0 (idxP (coveredV g1_0 g2f g1_1 g1_10 g4f) g3f (n - i) i)) (K .ret ⟨[.sub 3 0 n, .fn 75 [.ptr 0 [] 75], .int .i64 (idxP (coveredV g1_0 g2f g1_1 g1_10 g4f) g3f (n - i) i), .int .i64 (idxP (coveredV g1_0 g2f g1_1 g1_10 g4f) g3f (n - i) i), .int .i64 (ofN n), .int .i64 (idxP (coveredV g1_0 g2f g1_1 g1_10 g4f) g3f (n - i) i), .bool true, .bool true], [.box 75 (.ptr 1 [] 150), .box 150 (.nd 150 [.nd 148 [.sub 2 0 g1_0, .int .i64 g1_1], .int .i64 g1_2, .int .i64 g1_3, .nd 38 [.int .i64 g1_4, .int .i64 g1_5, .int .i64 g1_6, .int .i64 g1_7, .int .i64 g1_8], .sub 3 0 g1_9, .sub 4 0 g1_10]), .row 3 g2n g2f, .row 38 g3n g3f, .row 53 g4n g4f]⟩)
      (K (.exit 0) ⟨[.sub 3 0 n, .fn 75 [.ptr 0 [] 75], .junk, .junk, .int .i64 (ofN n), .int .i64 (ofN n), .bool false, .junk], [.box 75 (.ptr 1 [] 150), .box 150 (.nd 150 [.nd 148 [.sub 2 0 g1_0, .int .i64 g1_1], .int .i64 g1_2, .int .i64 g1_3, .nd 38 [.int .i64 g1_4, .int .i64 g1_5, .int .i64 g1_6, .int .i64 g1_7, .int .i64 g1_8], .sub 3 0 g1_9, .sub 4 0 g1_10]), .row 3 g2n g2f, .row 38 g3n g3f, .row 53 g4n g4f]⟩)) →
    All PP (loopN (exec { CL111 with m := 5, nt := Try.f111.ntmps } (loopBody Try.f111 0) 0) (canonK { CL111 with m := 5, nt := Try.f111.ntmps } 0) k ⟨[.sub 3 0 n, .fn 75 [.ptr 0 [] 75], .junk, .junk, .int .i64 (ofN n), .int .i64 (ofN i), .junk, .junk], [.box 75 (.ptr 1 [] 150), .box 150 (.nd 150 [.nd 148 [.sub 2 0 g1_0, .int .i64 g1_1], .int .i64 g1_2, .int .i64 g1_3, .nd 38 [.int .i64 g1_4, .int .i64 g1_5, .int .i64 g1_6, .int .i64 g1_7, .int .i64 g1_8], .sub 3 0 g1_9, .sub 4 0 g1_10]), .row 3 g2n g2f, .row 38 g3n g3f, .row 53 g4n g4f]⟩ K)
  | 0, i, _, h, _ => by omega
  | k + 1, i, hi, hk, h => by
    rw [loopN_succ, rIndex111]
    rcases Nat.lt_or_ge i n with hlt | hge
    · have hl : ltI (ofN i) (ofN n) = true := by simp [ltI_ofN, hlt]
      rw [show n - i = (n - (i + 1)) + 1 by omega] at h
      unfold idxP at h
      refine all_iteR (fun _ => all_iteR (fun _ => all_iteR (fun _ => all_iteR (fun h1 => ?_) (fun h1 => ?_)) (fun h1 => ?_)) (fun h1 => ?_)) (fun h1 => ?_)
      · rw [natI_ofN] at h1
        have h1' : (coveredV g1_0 g2f g1_1 g1_10 g4f) (g3f i) = true := h1
        rw [natI_ofN, hl]
        rw [if_pos h1', leI_zero] at h
        have h1c := h1
        rw [h1c]
        exact h
      · rw [natI_ofN] at h1
        have h1' : (coveredV g1_0 g2f g1_1 g1_10 g4f) (g3f i) = false := h1
        rw [wrap_succ (by omega)]
        refine lpIndex111 n g1_0 g1_1 g1_2 g1_3 g1_4 g1_5 g1_6 g1_7 g1_8 g1_9 g1_10 g2n g2f g3n g3f g4n g4f hn hpre k (i + 1) (by omega) (by omega) ?_
        rw [h1'] at h
        exact h
      · rw [hpre] at h1; cases h1
      · simp [andB, leI_zero, ltI_ofN, hlt] at h1
      · rw [hl] at h1; cases h1
    · have : i = n := by omega
      subst this
      have e0 : ltI (ofN i) (ofN i) = false := by simp [ltI_ofN]
      rw [e0]
      rw [Nat.sub_self] at h
      exact h
theorem hl111 : LoopsL CL111 Try.f111.ntmps (loopsIn (codeOf Try.f111) 0) := by
  have e : loopsIn (codeOf Try.f111) 0 = [(0, loopBody Try.f111 0)] := by kernel_rfl
  rw [e]
  refine loops_one (loopE_ok (m0 := 5) (l := Ll111) (g := Lg111) (run := @Lr111) (by kernel_rfl) ?_)
  intro β PP st K h
  unfold Lr111 at h
  obtain ⟨h1, h⟩ := all_must.1 h
  obtain ⟨h2, h⟩ := all_must.1 h
  obtain ⟨h3, h⟩ := all_must.1 h
  obtain ⟨h4, h⟩ := all_must.1 h
  obtain ⟨h5, h⟩ := all_must.1 h
  rw [leN_iff] at h2 h3
  rw [eqI_iff] at h4
  have key := lpIndex111 (subN' (locAt st.loc 0)) (subN' (partV (partV (regV (regAt st.G 1)) 0) 0)) (intV (partV (partV (regV (regAt st.G 1)) 0) 1)) (intV (partV (regV (regAt st.G 1)) 1)) (intV (partV (regV (regAt st.G 1)) 2)) (intV (partV (partV (regV (regAt st.G 1)) 3) 0)) (intV (partV (partV (regV (regAt st.G 1)) 3) 1)) (intV (partV (partV (regV (regAt st.G 1)) 3) 2)) (intV (partV (partV (regV (regAt st.G 1)) 3) 3)) (intV (partV (partV (regV (regAt st.G 1)) 3) 4)) (subN' (partV (regV (regAt st.G 1)) 4)) (subN' (partV (regV (regAt st.G 1)) 5)) (regN (regAt st.G 2)) (regF (regAt st.G 2)) (regN (regAt st.G 3)) (regF (regAt st.G 3)) (regN (regAt st.G 4)) (regF (regAt st.G 4)) h3 h5 (PP := PP) (K := K) NN (natI (intV (locAt st.loc 5))) h2 (by unfold NN; omega) h
  rw [ofN_natI h1, ← h4] at key
  exact key
theorem ref111 {β : Type} {PP : β → Prop} (args : List V) (G : List Reg) (K : V → List Reg → R β) (h : All PP (Sr111 args G K)) :
    ToldV PP K (B111.run (mkVs Sl111 (locAt args) 0) (mkG Sg111 (regAt G) 0) fun v G => .ret (v, G)) := by
  show ToldV PP K (B111.run [.sub 3 0 (subN' (locAt args 0)), .fn 75 [.ptr 0 [] 75]] [.box 75 (.ptr 1 [] 150), .box 150 (.nd 150 [.nd 148 [.sub 2 0 (subN' (partV (partV (regV (regAt G 1)) 0) 0)), .int .i64 (intV (partV (partV (regV (regAt G 1)) 0) 1))], .int .i64 (intV (partV (regV (regAt G 1)) 1)), .int .i64 (intV (partV (regV (regAt G 1)) 2)), .nd 38 [.int .i64 (intV (partV (partV (regV (regAt G 1)) 3) 0)), .int .i64 (intV (partV (partV (regV (regAt G 1)) 3) 1)), .int .i64 (intV (partV (partV (regV (regAt G 1)) 3) 2)), .int .i64 (intV (partV (partV (regV (regAt G 1)) 3) 3)), .int .i64 (intV (partV (partV (regV (regAt G 1)) 3) 4))], .sub 3 0 (subN' (partV (regV (regAt G 1)) 4)), .sub 4 0 (subN' (partV (regV (regAt G 1)) 5))]), .row 3 (regN (regAt G 2)) (regF (regAt G 2)), .row 38 (regN (regAt G 3)) (regF (regAt G 3)), .row 53 (regN (regAt G 4)) (regF (regAt G 4))] _)
  rw [eIndex111]
  unfold Sr111 at h
  obtain ⟨h1, h⟩ := all_must.1 h
  obtain ⟨h5, h⟩ := all_must.1 h
  unfold ToldV
  refine all_iteR (fun _ => all_iteR (fun _ => all_iteR (fun _ => all_iteR (fun _ => told_ret h) (fun h2 => ?_)) (fun h2 => ?_)) (fun h2 => ?_)) (fun h2 => ?_)
  · have e : idxP (coveredV (subN' (partV (partV (regV (regAt G 1)) 0) 0)) (regF (regAt G 2)) (intV (partV (partV (regV (regAt G 1)) 0) 1)) (subN' (partV (regV (regAt G 1)) 5)) (regF (regAt G 4))) (regF (regAt G 3)) (subN' (locAt args 0)) 0 = -1 := idx_none h2
    rw [e] at h
    exact told_ret h
  · rw [h5] at h2; cases h2
  · rw [eqI_refl] at h2; cases h2
  · rw [h1] at h2; cases h2
end Go.Proofs.Ytbplfgghcclgkaa
