/- Loops and functions do what their texts say. No conditions. -/
import Derived.Test.YtcafnbjmebichaaD3eq
import Derived.Test.YtcafnbjmebichaaVmk
open Go Go.VM
namespace Go.Proofs.Ytcafnbjmebichaa
set_option maxRecDepth 100000
theorem entryE_told {P : Program} {T : Tab} {n : Nat} {own : List Nat} {B alt : Entry} (h0 : EntryOK P T n B) (ha : EntryOK P T n alt) {l : List Sh} {g : List RSh} {run : {β : Type} → List V → List Reg → (V → List Reg → R β) → R β}
    (h : ∀ {β : Type} {PP : β → Prop} (args : List V) (G : List Reg) (K : V → List Reg → R β), All PP (run args G K) → All PP (B.run (mkVs l (locAt args) 0) (mkG g (regAt G) 0) K)) : EntryOK P T n (entryE own l g run alt) := by
  intro β PP X args xs K hX hA hr Q hQ
  have hr2 : All PP (match shVs l args && shG g X.G with | true => run args X.G K | false => alt.run args X.G K) := hr
  cases hs : shVs l args && shG g X.G with
  | false => rw [hs] at hr2; exact ha hX hA hr2 Q hQ
  | true =>
    rw [hs] at hr2
    simp only [Bool.and_eq_true] at hs
    have ht := h args X.G K hr2
    rw [mkVs_eq hs.1, mkG_eq hs.2] at ht
    exact h0 hX hA ht Q hQ
theorem loops_none' {c : Ctx} {nt : Nat} : LoopsL c nt [] := by
  intro q hq
  cases hq
theorem lp120_0_0 {β : Type} (K : Ex → St → R β) (n0 : Nat) (f1 : (Nat → V)) (i2 : Int) (i3 : Int) : ∀ (k : Nat) (i4 : Int), loopN (exec { DCL120 with m := 0, nt := Try.f120.ntmps } (loopBody Try.f120 0) 0) (canonK { DCL120 with m := 0, nt := Try.f120.ntmps } 0) k ⟨[.view 3 n0 f1, .int .i64 i2, .junk, .junk, .int .i64 i3, .int .i64 i4, .junk, .junk], []⟩ K = Ls120_0_0 K n0 f1 i2 i3 k i4
  | 0, _ => rfl
  | k + 1, i4 => by
    rw [loopN_succ, rq120_0_0]
    simp only [lp120_0_0 K n0 f1 i2 i3 k]
    rfl
theorem ll120_0_0 {β : Type} {PP : β → Prop} (st : St) (K : Ex → St → R β) (h : All PP (Lr120_0_0 st K)) : All PP (loopN (exec { DCL120 with m := 0, nt := Try.f120.ntmps } (loopBody Try.f120 0) 0) (canonK { DCL120 with m := 0, nt := Try.f120.ntmps } 0) DCL120.N (mkSt Ll120_0_0 Lg120_0_0 st) K) := by
  have hs : mkSt Ll120_0_0 Lg120_0_0 st = ⟨[.view 3 (lV st.loc 0) (lF st.loc 0), .int .i64 (lI st.loc 1), .junk, .junk, .int .i64 (lI st.loc 4), .int .i64 (lI st.loc 5), .junk, .junk], []⟩ := by kernel_rfl
  have hn : DCL120.N = NN := by kernel_rfl
  unfold Lr120_0_0 at h
  rw [NNo_eq] at h
  rw [hs, hn, lp120_0_0]
  exact h
theorem hlD120 : LoopsL DCL120 Try.f120.ntmps (loopsIn (codeOf Try.f120) 0) := by
  have e : loopsIn (codeOf Try.f120) 0 = [(0, loopBody Try.f120 0)] := by kernel_rfl
  rw [e]
  exact (loops_two (loopOK_of (by kernel_rfl) (loopE_told (c := DCL120) (nt := Try.f120.ntmps) (k := 0) (b := loopBody Try.f120 0) (m0 := 0) (l := Ll120_0_0) (g := Lg120_0_0) (run := @Lr120_0_0) (h := @ll120_0_0))) loops_none')
theorem okDB120 : EntryOK Try.prog T 120 DB120 := @ok_of Try.prog T tabOK mixedOK DCL120 (by kernel_rfl) fnsL_nil 120 Try.f120 Try.func120 (by kernel_rfl) (by kernel_rfl) (by kernel_rfl) hlD120 [] (joins_none (by kernel_rfl))
theorem ff120_0 {β : Type} {PP : β → Prop} (a : List V) (G : List Reg) (K : V → List Reg → R β) (h : All PP (Sr120_0 a G K)) : All PP (DB120.run (mkVs Sl120_0 (locAt a) 0) (mkG Sg120_0 (regAt G) 0) K) := by
  have h1 : DB120.run (mkVs Sl120_0 (locAt a) 0) (mkG Sg120_0 (regAt G) 0) K = DB120.run [.view 3 (lV a 0) (lF a 0), .int .i64 (lI a 1)] [] K := by kernel_rfl
  unfold Sr120_0 at h
  rw [h1, fq120_0]
  exact h
theorem okD120 : EntryOK Try.prog T 120 DS120 := (@entryE_told Try.prog T 120 [] DB120 DB120 okDB120 okDB120 Sl120_0 Sg120_0 @Sr120_0 @ff120_0)
theorem okD88 : EntryOK Try.prog T 88 DR88 := @ok_of Try.prog T tabOK mixedOK DCL88 (by kernel_rfl) (fnsL_cons okD120 fnsL_nil) 88 Try.f88 Try.func88 (by kernel_rfl) (by kernel_rfl) (by kernel_rfl) (loops_none (by kernel_rfl)) [] (joins_none (by kernel_rfl))
theorem okD48 : EntryOK Try.prog T 48 DR48 := @ok_of Try.prog T tabOK mixedOK DCL48 (by kernel_rfl) (fnsL_cons okD88 fnsL_nil) 48 Try.f48 Try.func48 (by kernel_rfl) (by kernel_rfl) (by kernel_rfl) (loops_none (by kernel_rfl)) [] (joins_none (by kernel_rfl))
theorem okD50 : EntryOK Try.prog T 50 DR50 := @ok_of Try.prog T tabOK mixedOK DCL50 (by kernel_rfl) fnsL_nil 50 Try.f50 Try.func50 (by kernel_rfl) (by kernel_rfl) (by kernel_rfl) (loops_none (by kernel_rfl)) [] (joins_none (by kernel_rfl))
theorem okD52 : EntryOK Try.prog T 52 DR52 := @ok_of Try.prog T tabOK mixedOK DCL52 (by kernel_rfl) fnsL_nil 52 Try.f52 Try.func52 (by kernel_rfl) (by kernel_rfl) (by kernel_rfl) (loops_none (by kernel_rfl)) [] (joins_none (by kernel_rfl))
theorem okD56 : EntryOK Try.prog T 56 DR56 := @ok_of Try.prog T tabOK mixedOK DCL56 (by kernel_rfl) fnsL_nil 56 Try.f56 Try.func56 (by kernel_rfl) (by kernel_rfl) (by kernel_rfl) (loops_none (by kernel_rfl)) [] (joins_none (by kernel_rfl))
theorem lp123_0_0 {β : Type} (K : Ex → St → R β) (n0 : Nat) (f1 : (Nat → V)) (n2 : Nat) (f3 : (Nat → V)) (i4 : Int) : ∀ (k : Nat) (i5 : Int), loopN (exec { DCL123 with m := 0, nt := Try.f123.ntmps } (loopBody Try.f123 0) 0) (canonK { DCL123 with m := 0, nt := Try.f123.ntmps } 0) k ⟨[.view 3 n0 f1, .view 3 n2 f3, .junk, .junk, .junk, .int .i64 i4, .int .i64 i5, .junk, .junk], []⟩ K = Ls123_0_0 K n0 f1 n2 f3 i4 k i5
  | 0, _ => rfl
  | k + 1, i5 => by
    rw [loopN_succ, rq123_0_0]
    simp only [lp123_0_0 K n0 f1 n2 f3 i4 k]
    rfl
theorem ll123_0_0 {β : Type} {PP : β → Prop} (st : St) (K : Ex → St → R β) (h : All PP (Lr123_0_0 st K)) : All PP (loopN (exec { DCL123 with m := 0, nt := Try.f123.ntmps } (loopBody Try.f123 0) 0) (canonK { DCL123 with m := 0, nt := Try.f123.ntmps } 0) DCL123.N (mkSt Ll123_0_0 Lg123_0_0 st) K) := by
  have hs : mkSt Ll123_0_0 Lg123_0_0 st = ⟨[.view 3 (lV st.loc 0) (lF st.loc 0), .view 3 (lV st.loc 1) (lF st.loc 1), .junk, .junk, .junk, .int .i64 (lI st.loc 5), .int .i64 (lI st.loc 6), .junk, .junk], []⟩ := by kernel_rfl
  have hn : DCL123.N = NN := by kernel_rfl
  unfold Lr123_0_0 at h
  rw [NNo_eq] at h
  rw [hs, hn, lp123_0_0]
  exact h
theorem hlD123 : LoopsL DCL123 Try.f123.ntmps (loopsIn (codeOf Try.f123) 0) := by
  have e : loopsIn (codeOf Try.f123) 0 = [(0, loopBody Try.f123 0)] := by kernel_rfl
  rw [e]
  exact (loops_two (loopOK_of (by kernel_rfl) (loopE_told (c := DCL123) (nt := Try.f123.ntmps) (k := 0) (b := loopBody Try.f123 0) (m0 := 0) (l := Ll123_0_0) (g := Lg123_0_0) (run := @Lr123_0_0) (h := @ll123_0_0))) loops_none')
theorem okDB123 : EntryOK Try.prog T 123 DB123 := @ok_of Try.prog T tabOK mixedOK DCL123 (by kernel_rfl) fnsL_nil 123 Try.f123 Try.func123 (by kernel_rfl) (by kernel_rfl) (by kernel_rfl) hlD123 [] (joins_none (by kernel_rfl))
theorem ff123_0 {β : Type} {PP : β → Prop} (a : List V) (G : List Reg) (K : V → List Reg → R β) (h : All PP (Sr123_0 a G K)) : All PP (DB123.run (mkVs Sl123_0 (locAt a) 0) (mkG Sg123_0 (regAt G) 0) K) := by
  have h1 : DB123.run (mkVs Sl123_0 (locAt a) 0) (mkG Sg123_0 (regAt G) 0) K = DB123.run [.view 3 (lV a 0) (lF a 0), .view 3 (lV a 1) (lF a 1)] [] K := by kernel_rfl
  unfold Sr123_0 at h
  rw [h1, fq123_0]
  exact h
theorem okD123 : EntryOK Try.prog T 123 DS123 := (@entryE_told Try.prog T 123 [] DB123 DB123 okDB123 okDB123 Sl123_0 Sg123_0 @Sr123_0 @ff123_0)
theorem okD92 : EntryOK Try.prog T 92 DR92 := @ok_of Try.prog T tabOK mixedOK DCL92 (by kernel_rfl) (fnsL_cons okD123 fnsL_nil) 92 Try.f92 Try.func92 (by kernel_rfl) (by kernel_rfl) (by kernel_rfl) (loops_none (by kernel_rfl)) [] (joins_none (by kernel_rfl))
theorem okD53 : EntryOK Try.prog T 53 DR53 := @ok_of Try.prog T tabOK mixedOK DCL53 (by kernel_rfl) (fnsL_cons ok49 (fnsL_cons okD56 (fnsL_cons okD92 fnsL_nil))) 53 Try.f53 Try.func53 (by kernel_rfl) (by kernel_rfl) (by kernel_rfl) (loops_none (by kernel_rfl)) [] (joins_none (by kernel_rfl))
theorem okD102 : EntryOK Try.prog T 102 DR102 := @ok_of Try.prog T tabOK mixedOK DCL102 (by kernel_rfl) fnsL_nil 102 Try.f102 Try.func102 (by kernel_rfl) (by kernel_rfl) (by kernel_rfl) (loops_none (by kernel_rfl)) [] (joins_none (by kernel_rfl))
theorem okD67 : EntryOK Try.prog T 67 DR67 := @ok_of Try.prog T tabOK mixedOK DCL67 (by kernel_rfl) (fnsL_cons okD102 fnsL_nil) 67 Try.f67 Try.func67 (by kernel_rfl) (by kernel_rfl) (by kernel_rfl) (loops_none (by kernel_rfl)) [] (joins_none (by kernel_rfl))
theorem lp75_0_0 {β : Type} (K : Ex → St → R β) (i0 : Int) (n1 : Nat) (f2 : (Nat → V)) (i3 : Int) : ∀ (k : Nat) (i4 : Int), loopN (exec { DCL75 with m := 0, nt := Try.f75.ntmps } (loopBody Try.f75 0) 0) (canonK { DCL75 with m := 0, nt := Try.f75.ntmps } 0) k ⟨[.junk, .junk, .int .i64 i0, .junk, .view 3 n1 f2, .int .i64 i3, .int .i64 i4, .junk, .junk], []⟩ K = Ls75_0_0 K i0 n1 f2 i3 k i4
  | 0, _ => rfl
  | k + 1, i4 => by
    rw [loopN_succ, rq75_0_0]
    simp only [lp75_0_0 K i0 n1 f2 i3 k]
    rfl
theorem ll75_0_0 {β : Type} {PP : β → Prop} (st : St) (K : Ex → St → R β) (h : All PP (Lr75_0_0 st K)) : All PP (loopN (exec { DCL75 with m := 0, nt := Try.f75.ntmps } (loopBody Try.f75 0) 0) (canonK { DCL75 with m := 0, nt := Try.f75.ntmps } 0) DCL75.N (mkSt Ll75_0_0 Lg75_0_0 st) K) := by
  have hs : mkSt Ll75_0_0 Lg75_0_0 st = ⟨[.junk, .junk, .int .i64 (lI st.loc 2), .junk, .view 3 (lV st.loc 4) (lF st.loc 4), .int .i64 (lI st.loc 5), .int .i64 (lI st.loc 6), .junk, .junk], []⟩ := by kernel_rfl
  have hn : DCL75.N = NN := by kernel_rfl
  unfold Lr75_0_0 at h
  rw [NNo_eq] at h
  rw [hs, hn, lp75_0_0]
  exact h
theorem hlD75 : LoopsL DCL75 Try.f75.ntmps (loopsIn (codeOf Try.f75) 0) := by
  have e : loopsIn (codeOf Try.f75) 0 = [(0, loopBody Try.f75 0)] := by kernel_rfl
  rw [e]
  exact (loops_two (loopOK_of (by kernel_rfl) (loopE_told (c := DCL75) (nt := Try.f75.ntmps) (k := 0) (b := loopBody Try.f75 0) (m0 := 0) (l := Ll75_0_0) (g := Lg75_0_0) (run := @Lr75_0_0) (h := @ll75_0_0))) loops_none')
theorem okDB75 : EntryOK Try.prog T 75 DB75 := @ok_of Try.prog T tabOK mixedOK DCL75 (by kernel_rfl) fnsL_nil 75 Try.f75 Try.func75 (by kernel_rfl) (by kernel_rfl) (by kernel_rfl) hlD75 [] (joins_none (by kernel_rfl))
theorem ff75_0 {β : Type} {PP : β → Prop} (a : List V) (G : List Reg) (K : V → List Reg → R β) (h : All PP (Sr75_0 a G K)) : All PP (DB75.run (mkVs Sl75_0 (locAt a) 0) (mkG Sg75_0 (regAt G) 0) K) := by
  have h1 : DB75.run (mkVs Sl75_0 (locAt a) 0) (mkG Sg75_0 (regAt G) 0) K = DB75.run [.view 3 (lV a 0) (lF a 0)] [] K := by kernel_rfl
  unfold Sr75_0 at h
  rw [h1, fq75_0]
  exact h
theorem okD75 : EntryOK Try.prog T 75 DS75 := (@entryE_told Try.prog T 75 [] DB75 DB75 okDB75 okDB75 Sl75_0 Sg75_0 @Sr75_0 @ff75_0)
theorem okDB93 : EntryOK Try.prog T 93 DB93 := @ok_of Try.prog T tabOK mixedOK DCL93 (by kernel_rfl) (fnsL_cons okD67 (fnsL_cons okD75 fnsL_nil)) 93 Try.f93 Try.func93 (by kernel_rfl) (by kernel_rfl) (by kernel_rfl) (loops_none (by kernel_rfl)) [] (joins_none (by kernel_rfl))
theorem ff93_0 {β : Type} {PP : β → Prop} (a : List V) (G : List Reg) (K : V → List Reg → R β) (h : All PP (Sr93_0 a G K)) : All PP (DB93.run (mkVs Sl93_0 (locAt a) 0) (mkG Sg93_0 (regAt G) 0) K) := by
  have h1 : DB93.run (mkVs Sl93_0 (locAt a) 0) (mkG Sg93_0 (regAt G) 0) K = DB93.run [.nd 23 [.int .i64 (lI1 a 0 0), .int .i64 (lI1 a 0 1), .int .i64 (lI1 a 0 2)], .nd 23 [.int .i64 (lI1 a 1 0), .int .i64 (lI1 a 1 1), .int .i64 (lI1 a 1 2)]] [] K := by kernel_rfl
  unfold Sr93_0 at h
  rw [h1, fq93_0]
  exact h
theorem okD93 : EntryOK Try.prog T 93 DS93 := (@entryE_told Try.prog T 93 [] DB93 DB93 okDB93 okDB93 Sl93_0 Sg93_0 @Sr93_0 @ff93_0)
theorem okDB55 : EntryOK Try.prog T 55 DB55 := @ok_of Try.prog T tabOK mixedOK DCL55 (by kernel_rfl) (fnsL_cons okD93 fnsL_nil) 55 Try.f55 Try.func55 (by kernel_rfl) (by kernel_rfl) (by kernel_rfl) (loops_none (by kernel_rfl)) [] (joins_none (by kernel_rfl))
theorem ff55_0 {β : Type} {PP : β → Prop} (a : List V) (G : List Reg) (K : V → List Reg → R β) (h : All PP (Sr55_0 a G K)) : All PP (DB55.run (mkVs Sl55_0 (locAt a) 0) (mkG Sg55_0 (regAt G) 0) K) := by
  have h1 : DB55.run (mkVs Sl55_0 (locAt a) 0) (mkG Sg55_0 (regAt G) 0) K = DB55.run [.nd 23 [.int .i64 (lI1 a 0 0), .int .i64 (lI1 a 0 1), .int .i64 (lI1 a 0 2)], .nd 23 [.int .i64 (lI1 a 1 0), .int .i64 (lI1 a 1 1), .int .i64 (lI1 a 1 2)]] [] K := by kernel_rfl
  unfold Sr55_0 at h
  rw [h1, fq55_0]
  exact h
theorem okD55 : EntryOK Try.prog T 55 DS55 := (@entryE_told Try.prog T 55 [] DB55 DB55 okDB55 okDB55 Sl55_0 Sg55_0 @Sr55_0 @ff55_0)
theorem lp54_0_0 {β : Type} (K : Ex → St → R β) (n0 : Nat) (f1 : (Nat → V)) (i2 : Int) : ∀ (k : Nat) (i3 : Int) (i4 : Int) (i5 : Int) (i6 : Int) (i7 : Int) (i8 : Int) (i9 : Int) (n10 : Nat) (f11 : (Nat → V)), loopN (exec { DCL54 with m := 0, nt := Try.f54.ntmps } (loopBody Try.f54 0) 0) (canonK { DCL54 with m := 0, nt := Try.f54.ntmps } 0) k ⟨[.junk, .junk, .ptr 0 [] 40, .junk, .view 40 n0 f1, .int .i64 i2, .int .i64 i3, .junk, .junk], [.box 40 (.nd 40 [.nd 23 [.int .i64 i4, .int .i64 i5, .int .i64 i6], .nd 23 [.int .i64 i7, .int .i64 i8, .int .i64 i9], .view 3 n10 f11])]⟩ K = Ls54_0_0 K n0 f1 i2 k i3 i4 i5 i6 i7 i8 i9 n10 f11
  | 0, _, _, _, _, _, _, _, _, _ => rfl
  | k + 1, i3, i4, i5, i6, i7, i8, i9, n10, f11 => by
    rw [loopN_succ, rq54_0_0]
    simp only [lp54_0_0 K n0 f1 i2 k]
    rfl
theorem ll54_0_0 {β : Type} {PP : β → Prop} (st : St) (K : Ex → St → R β) (h : All PP (Lr54_0_0 st K)) : All PP (loopN (exec { DCL54 with m := 0, nt := Try.f54.ntmps } (loopBody Try.f54 0) 0) (canonK { DCL54 with m := 0, nt := Try.f54.ntmps } 0) DCL54.N (mkSt Ll54_0_0 Lg54_0_0 st) K) := by
  have hs : mkSt Ll54_0_0 Lg54_0_0 st = ⟨[.junk, .junk, .ptr 0 [] 40, .junk, .view 40 (lV st.loc 4) (lF st.loc 4), .int .i64 (lI st.loc 5), .int .i64 (lI st.loc 6), .junk, .junk], [.box 40 (.nd 40 [.nd 23 [.int .i64 (gI2 st.G 0 0 0), .int .i64 (gI2 st.G 0 0 1), .int .i64 (gI2 st.G 0 0 2)], .nd 23 [.int .i64 (gI2 st.G 0 1 0), .int .i64 (gI2 st.G 0 1 1), .int .i64 (gI2 st.G 0 1 2)], .view 3 (gV1 st.G 0 2) (gF1 st.G 0 2)])]⟩ := by kernel_rfl
  have hn : DCL54.N = NN := by kernel_rfl
  unfold Lr54_0_0 at h
  rw [NNo_eq] at h
  rw [hs, hn, lp54_0_0]
  exact h
theorem hlD54 : LoopsL DCL54 Try.f54.ntmps (loopsIn (codeOf Try.f54) 0) := by
  have e : loopsIn (codeOf Try.f54) 0 = [(0, loopBody Try.f54 0)] := by kernel_rfl
  rw [e]
  exact (loops_two (loopOK_of (by kernel_rfl) (loopE_told (c := DCL54) (nt := Try.f54.ntmps) (k := 0) (b := loopBody Try.f54 0) (m0 := 0) (l := Ll54_0_0) (g := Lg54_0_0) (run := @Lr54_0_0) (h := @ll54_0_0))) loops_none')
theorem okDB54 : EntryOK Try.prog T 54 DB54 := @ok_of Try.prog T tabOK mixedOK DCL54 (by kernel_rfl) (fnsL_cons ok49 (fnsL_cons okD55 fnsL_nil)) 54 Try.f54 Try.func54 (by kernel_rfl) (by kernel_rfl) (by kernel_rfl) hlD54 [] (joins_none (by kernel_rfl))
theorem ff54_0 {β : Type} {PP : β → Prop} (a : List V) (G : List Reg) (K : V → List Reg → R β) (h : All PP (Sr54_0 a G K)) : All PP (DB54.run (mkVs Sl54_0 (locAt a) 0) (mkG Sg54_0 (regAt G) 0) K) := by
  have h1 : DB54.run (mkVs Sl54_0 (locAt a) 0) (mkG Sg54_0 (regAt G) 0) K = DB54.run [.view 40 (lV a 0) (lF a 0)] [] K := by kernel_rfl
  unfold Sr54_0 at h
  rw [h1, fq54_0]
  exact h
theorem okD54 : EntryOK Try.prog T 54 DS54 := (@entryE_told Try.prog T 54 [] DB54 DB54 okDB54 okDB54 Sl54_0 Sg54_0 @Sr54_0 @ff54_0)
theorem lp13_0_0 {β : Type} (K : Ex → St → R β) (n1 : Nat) (i2 : Int) (i4 : Int) (i5 : Int) (i6 : Int) (i7 : Int) (i8 : Int) (n9 : Nat) (n10 : Nat) (i11 : Int) (n12 : Nat) (b13 : Bool) (n14 : Nat) (i15 : Int) (i16 : Int) (i17 : Int) (i18 : Int) (n19 : Nat) (f20 : (Nat → V)) (n21 : Nat) (f22 : (Nat → V)) (n23 : Nat) (f24 : (Nat → V)) (n25 : Nat) (m26 : (List (Nat × V × V))) (n27 : Nat) (m28 : (List (Nat × V × V))) (n29 : Nat) (f30 : (Nat → V)) (n33 : Nat) (f34 : (Nat → V)) : ∀ (k : Nat) (n0 : Nat) (i3 : Int) (n31 : Nat) (f32 : (Nat → V)), loopN (exec { DCL13 with m := 7, nt := Try.f13.ntmps } (loopBody Try.f13 0) 0) (canonK { DCL13 with m := 7, nt := Try.f13.ntmps } 0) k ⟨[.ptr 0 [] 116, .junk, .junk, .junk, .junk, .junk, .junk, .junk, .sub 7 0 n0, .junk, .junk, .junk, .junk, .sub 8 0 n1, .int .i64 i2, .int .i64 i3, .junk], [.box 116 (.nd 116 [.int .i64 i4, .nd 23 [.int .i64 i5, .int .i64 i6, .int .i64 i7], .nd 26 [.int .i64 i8, .sub 2 0 n9, .sub 3 0 n10], .int .i64 i11, .mp 4, .mp 5, .sub 6 0 n12, .ei b13 n14 i15, .nd 23 [.int .i64 i16, .int .i64 i17, .int .i64 i18]]), .row 3 n19 f20, .row 3 n21 f22, .row 3 n23 f24, .map 113 n25 m26, .map 114 n27 m28, .row 3 n29 f30, .row 40 n31 f32, .row 3 n33 f34]⟩ K = Ls13_0_0 K n1 i2 i4 i5 i6 i7 i8 n9 n10 i11 n12 b13 n14 i15 i16 i17 i18 n19 f20 n21 f22 n23 f24 n25 m26 n27 m28 n29 f30 n33 f34 k n0 i3 n31 f32
  | 0, _, _, _, _ => rfl
  | k + 1, n0, i3, n31, f32 => by
    rw [loopN_succ, rq13_0_0]
    simp only [lp13_0_0 K n1 i2 i4 i5 i6 i7 i8 n9 n10 i11 n12 b13 n14 i15 i16 i17 i18 n19 f20 n21 f22 n23 f24 n25 m26 n27 m28 n29 f30 n33 f34 k]
    rfl
theorem ll13_0_0 {β : Type} {PP : β → Prop} (st : St) (K : Ex → St → R β) (h : All PP (Lr13_0_0 st K)) : All PP (loopN (exec { DCL13 with m := 7, nt := Try.f13.ntmps } (loopBody Try.f13 0) 0) (canonK { DCL13 with m := 7, nt := Try.f13.ntmps } 0) DCL13.N (mkSt Ll13_0_0 Lg13_0_0 st) K) := by
  have hs : mkSt Ll13_0_0 Lg13_0_0 st = ⟨[.ptr 0 [] 116, .junk, .junk, .junk, .junk, .junk, .junk, .junk, .sub 7 0 (lN st.loc 8), .junk, .junk, .junk, .junk, .sub 8 0 (lN st.loc 13), .int .i64 (lI st.loc 14), .int .i64 (lI st.loc 15), .junk], [.box 116 (.nd 116 [.int .i64 (gI1 st.G 0 0), .nd 23 [.int .i64 (gI2 st.G 0 1 0), .int .i64 (gI2 st.G 0 1 1), .int .i64 (gI2 st.G 0 1 2)], .nd 26 [.int .i64 (gI2 st.G 0 2 0), .sub 2 0 (gN2 st.G 0 2 1), .sub 3 0 (gN2 st.G 0 2 2)], .int .i64 (gI1 st.G 0 3), .mp 4, .mp 5, .sub 6 0 (gN1 st.G 0 6), .ei (eiB (partV (regV (regAt st.G 0)) 7)) (eiT (partV (regV (regAt st.G 0)) 7)) (eiN (partV (regV (regAt st.G 0)) 7)), .nd 23 [.int .i64 (gI2 st.G 0 8 0), .int .i64 (gI2 st.G 0 8 1), .int .i64 (gI2 st.G 0 8 2)]]), .row 3 (rN st.G 1) (rF st.G 1), .row 3 (rN st.G 2) (rF st.G 2), .row 3 (rN st.G 3) (rF st.G 3), .map 113 (mapC (regAt st.G 4)) (mapL (regAt st.G 4)), .map 114 (mapC (regAt st.G 5)) (mapL (regAt st.G 5)), .row 3 (rN st.G 6) (rF st.G 6), .row 40 (rN st.G 7) (rF st.G 7), .row 3 (rN st.G 8) (rF st.G 8)]⟩ := by kernel_rfl
  have hn : DCL13.N = NN := by kernel_rfl
  unfold Lr13_0_0 at h
  rw [NNo_eq] at h
  rw [hs, hn, lp13_0_0]
  exact h
theorem hlD13 : LoopsL DCL13 Try.f13.ntmps (loopsIn (codeOf Try.f13) 0) := by
  have e : loopsIn (codeOf Try.f13) 0 = [(0, loopBody Try.f13 0)] := by kernel_rfl
  rw [e]
  exact (loops_two (loopOK_of (by kernel_rfl) (loopE_told (c := DCL13) (nt := Try.f13.ntmps) (k := 0) (b := loopBody Try.f13 0) (m0 := 7) (l := Ll13_0_0) (g := Lg13_0_0) (run := @Lr13_0_0) (h := @ll13_0_0))) loops_none')
theorem okDB13 : EntryOK Try.prog T 13 DB13 := @ok_of Try.prog T tabOK mixedOK DCL13 (by kernel_rfl) (fnsL_cons okD48 (fnsL_cons ok49 (fnsL_cons okD50 (fnsL_cons ok51 (fnsL_cons okD52 (fnsL_cons okD53 (fnsL_cons okD54 fnsL_nil))))))) 13 Try.f13 Try.func13 (by kernel_rfl) (by kernel_rfl) (by kernel_rfl) hlD13 [3] (joins_none (by kernel_rfl))
theorem ff13_0 {β : Type} {PP : β → Prop} (a : List V) (G : List Reg) (K : V → List Reg → R β) (h : All PP (Sr13_0 a G K)) : All PP (DB13.run (mkVs Sl13_0 (locAt a) 0) (mkG Sg13_0 (regAt G) 0) K) := by
  have h1 : DB13.run (mkVs Sl13_0 (locAt a) 0) (mkG Sg13_0 (regAt G) 0) K = DB13.run [.ptr 0 [] 116, .int .i64 (lI a 1), .nd 23 [.int .i64 (lI1 a 2 0), .int .i64 (lI1 a 2 1), .int .i64 (lI1 a 2 2)], .nd 40 [.nd 23 [.int .i64 (intV (partV (partV (locAt a 3) 0) 0)), .int .i64 (intV (partV (partV (locAt a 3) 0) 1)), .int .i64 (intV (partV (partV (locAt a 3) 0) 2))], .nd 23 [.int .i64 (intV (partV (partV (locAt a 3) 1) 0)), .int .i64 (intV (partV (partV (locAt a 3) 1) 1)), .int .i64 (intV (partV (partV (locAt a 3) 1) 2))], .sub 1 0 (lN1 a 3 2)]] [.box 116 (.nd 116 [.int .i64 (gI1 G 0 0), .nd 23 [.int .i64 (gI2 G 0 1 0), .int .i64 (gI2 G 0 1 1), .int .i64 (gI2 G 0 1 2)], .nd 26 [.int .i64 (gI2 G 0 2 0), .sub 2 0 (gN2 G 0 2 1), .sub 3 0 (gN2 G 0 2 2)], .int .i64 (gI1 G 0 3), .mp 4, .mp 5, .sub 6 0 (gN1 G 0 6), .ei (eiB (partV (regV (regAt G 0)) 7)) (eiT (partV (regV (regAt G 0)) 7)) (eiN (partV (regV (regAt G 0)) 7)), .nd 23 [.int .i64 (gI2 G 0 8 0), .int .i64 (gI2 G 0 8 1), .int .i64 (gI2 G 0 8 2)]]), .row 3 (rN G 1) (rF G 1), .row 3 (rN G 2) (rF G 2), .row 3 (rN G 3) (rF G 3), .map 113 (mapC (regAt G 4)) (mapL (regAt G 4)), .map 114 (mapC (regAt G 5)) (mapL (regAt G 5)), .row 3 (rN G 6) (rF G 6)] K := by kernel_rfl
  unfold Sr13_0 at h
  rw [h1, fq13_0]
  exact h
theorem okD13 : EntryOK Try.prog T 13 DS13 := (@entryE_told Try.prog T 13 [3] DB13 DB13 okDB13 okDB13 Sl13_0 Sg13_0 @Sr13_0 @ff13_0)
theorem okD14 : EntryOK Try.prog T 14 DR14 := @ok_of Try.prog T tabOK mixedOK DCL14 (by kernel_rfl) (fnsL_cons okD48 (fnsL_cons okD50 fnsL_nil)) 14 Try.f14 Try.func14 (by kernel_rfl) (by kernel_rfl) (by kernel_rfl) (loops_none (by kernel_rfl)) [] (joins_none (by kernel_rfl))
theorem okDB15 : EntryOK Try.prog T 15 DB15 := @ok_of Try.prog T tabOK mixedOK DCL15 (by kernel_rfl) (fnsL_cons okD48 (fnsL_cons okD55 fnsL_nil)) 15 Try.f15 Try.func15 (by kernel_rfl) (by kernel_rfl) (by kernel_rfl) (loops_none (by kernel_rfl)) [] (joins_none (by kernel_rfl))
theorem ff15_0 {β : Type} {PP : β → Prop} (a : List V) (G : List Reg) (K : V → List Reg → R β) (h : All PP (Sr15_0 a G K)) : All PP (DB15.run (mkVs Sl15_0 (locAt a) 0) (mkG Sg15_0 (regAt G) 0) K) := by
  have h1 : DB15.run (mkVs Sl15_0 (locAt a) 0) (mkG Sg15_0 (regAt G) 0) K = DB15.run [.ptr 0 [] 116, .int .i64 (lI a 1), .nd 23 [.int .i64 (lI1 a 2 0), .int .i64 (lI1 a 2 1), .int .i64 (lI1 a 2 2)], .nd 23 [.int .i64 (lI1 a 3 0), .int .i64 (lI1 a 3 1), .int .i64 (lI1 a 3 2)]] [.box 116 (.nd 116 [.int .i64 (gI1 G 0 0), .nd 23 [.int .i64 (gI2 G 0 1 0), .int .i64 (gI2 G 0 1 1), .int .i64 (gI2 G 0 1 2)], .nd 26 [.int .i64 (gI2 G 0 2 0), .sub 1 0 (gN2 G 0 2 1), .sub 2 0 (gN2 G 0 2 2)], .int .i64 (gI1 G 0 3), .mp 3, .mp 4, .sub 5 0 (gN1 G 0 6), .ei (eiB (partV (regV (regAt G 0)) 7)) (eiT (partV (regV (regAt G 0)) 7)) (eiN (partV (regV (regAt G 0)) 7)), .nd 23 [.int .i64 (gI2 G 0 8 0), .int .i64 (gI2 G 0 8 1), .int .i64 (gI2 G 0 8 2)]]), .row 3 (rN G 1) (rF G 1), .row 3 (rN G 2) (rF G 2), .map 113 (mapC (regAt G 3)) (mapL (regAt G 3)), .map 114 (mapC (regAt G 4)) (mapL (regAt G 4)), .row 3 (rN G 5) (rF G 5)] K := by kernel_rfl
  unfold Sr15_0 at h
  rw [h1, fq15_0]
  exact h
theorem okD15 : EntryOK Try.prog T 15 DS15 := (@entryE_told Try.prog T 15 [] DB15 DB15 okDB15 okDB15 Sl15_0 Sg15_0 @Sr15_0 @ff15_0)
theorem okDB20 : EntryOK Try.prog T 20 DB20 := @ok_of Try.prog T tabOK mixedOK DCL20 (by kernel_rfl) (fnsL_cons ok49 (fnsL_cons okD56 fnsL_nil)) 20 Try.f20 Try.func20 (by kernel_rfl) (by kernel_rfl) (by kernel_rfl) (loops_none (by kernel_rfl)) [] (joins_none (by kernel_rfl))
theorem ff20_0 {β : Type} {PP : β → Prop} (a : List V) (G : List Reg) (K : V → List Reg → R β) (h : All PP (Sr20_0 a G K)) : All PP (DB20.run (mkVs Sl20_0 (locAt a) 0) (mkG Sg20_0 (regAt G) 0) K) := by
  have h1 : DB20.run (mkVs Sl20_0 (locAt a) 0) (mkG Sg20_0 (regAt G) 0) K = DB20.run [.int .i64 (lI a 0), .nd 23 [.int .i64 (lI1 a 1 0), .int .i64 (lI1 a 1 1), .int .i64 (lI1 a 1 2)], .nd 26 [.int .i64 (lI1 a 2 0), .view 3 (lV1 a 2 1) (lF1 a 2 1), .view 3 (lV1 a 2 2) (lF1 a 2 2)]] [] K := by kernel_rfl
  unfold Sr20_0 at h
  rw [h1, fq20_0]
  exact h
theorem okD20 : EntryOK Try.prog T 20 DS20 := (@entryE_told Try.prog T 20 [] DB20 DB20 okDB20 okDB20 Sl20_0 Sg20_0 @Sr20_0 @ff20_0)
theorem lp25_0_0 {β : Type} (K : Ex → St → R β) (n0 : Nat) (f1 : (Nat → V)) (n2 : Nat) (f3 : (Nat → V)) (i4 : Int) : ∀ (k : Nat) (i5 : Int), loopN (exec { DCL25 with m := 0, nt := Try.f25.ntmps } (loopBody Try.f25 0) 0) (canonK { DCL25 with m := 0, nt := Try.f25.ntmps } 0) k ⟨[.view 3 n0 f1, .view 3 n2 f3, .junk, .junk, .junk, .int .i64 i4, .int .i64 i5, .junk, .junk], []⟩ K = Ls25_0_0 K n0 f1 n2 f3 i4 k i5
  | 0, _ => rfl
  | k + 1, i5 => by
    rw [loopN_succ, rq25_0_0]
    simp only [lp25_0_0 K n0 f1 n2 f3 i4 k]
    rfl
theorem ll25_0_0 {β : Type} {PP : β → Prop} (st : St) (K : Ex → St → R β) (h : All PP (Lr25_0_0 st K)) : All PP (loopN (exec { DCL25 with m := 0, nt := Try.f25.ntmps } (loopBody Try.f25 0) 0) (canonK { DCL25 with m := 0, nt := Try.f25.ntmps } 0) DCL25.N (mkSt Ll25_0_0 Lg25_0_0 st) K) := by
  have hs : mkSt Ll25_0_0 Lg25_0_0 st = ⟨[.view 3 (lV st.loc 0) (lF st.loc 0), .view 3 (lV st.loc 1) (lF st.loc 1), .junk, .junk, .junk, .int .i64 (lI st.loc 5), .int .i64 (lI st.loc 6), .junk, .junk], []⟩ := by kernel_rfl
  have hn : DCL25.N = NN := by kernel_rfl
  unfold Lr25_0_0 at h
  rw [NNo_eq] at h
  rw [hs, hn, lp25_0_0]
  exact h
theorem hlD25 : LoopsL DCL25 Try.f25.ntmps (loopsIn (codeOf Try.f25) 0) := by
  have e : loopsIn (codeOf Try.f25) 0 = [(0, loopBody Try.f25 0)] := by kernel_rfl
  rw [e]
  exact (loops_two (loopOK_of (by kernel_rfl) (loopE_told (c := DCL25) (nt := Try.f25.ntmps) (k := 0) (b := loopBody Try.f25 0) (m0 := 0) (l := Ll25_0_0) (g := Lg25_0_0) (run := @Lr25_0_0) (h := @ll25_0_0))) loops_none')
theorem okDB25 : EntryOK Try.prog T 25 DB25 := @ok_of Try.prog T tabOK mixedOK DCL25 (by kernel_rfl) fnsL_nil 25 Try.f25 Try.func25 (by kernel_rfl) (by kernel_rfl) (by kernel_rfl) hlD25 [] (joins_none (by kernel_rfl))
theorem ff25_0 {β : Type} {PP : β → Prop} (a : List V) (G : List Reg) (K : V → List Reg → R β) (h : All PP (Sr25_0 a G K)) : All PP (DB25.run (mkVs Sl25_0 (locAt a) 0) (mkG Sg25_0 (regAt G) 0) K) := by
  have h1 : DB25.run (mkVs Sl25_0 (locAt a) 0) (mkG Sg25_0 (regAt G) 0) K = DB25.run [.view 3 (lV a 0) (lF a 0), .view 3 (lV a 1) (lF a 1)] [] K := by kernel_rfl
  unfold Sr25_0 at h
  rw [h1, fq25_0]
  exact h
theorem okD25 : EntryOK Try.prog T 25 DS25 := (@entryE_told Try.prog T 25 [] DB25 DB25 okDB25 okDB25 Sl25_0 Sg25_0 @Sr25_0 @ff25_0)
theorem okD84 : EntryOK Try.prog T 84 DR84 := @ok_of Try.prog T tabOK mixedOK DCL84 (by kernel_rfl) fnsL_nil 84 Try.f84 Try.func84 (by kernel_rfl) (by kernel_rfl) (by kernel_rfl) (loops_none (by kernel_rfl)) [] (joins_none (by kernel_rfl))
theorem okDB42 : EntryOK Try.prog T 42 DB42 := @ok_of Try.prog T tabOK mixedOK DCL42 (by kernel_rfl) (fnsL_cons okD84 fnsL_nil) 42 Try.f42 Try.func42 (by kernel_rfl) (by kernel_rfl) (by kernel_rfl) (loops_none (by kernel_rfl)) [] (joins_none (by kernel_rfl))
theorem ff42_0 {β : Type} {PP : β → Prop} (a : List V) (G : List Reg) (K : V → List Reg → R β) (h : All PP (Sr42_0 a G K)) : All PP (DB42.run (mkVs Sl42_0 (locAt a) 0) (mkG Sg42_0 (regAt G) 0) K) := by
  have h1 : DB42.run (mkVs Sl42_0 (locAt a) 0) (mkG Sg42_0 (regAt G) 0) K = DB42.run [.int .i64 (lI a 0), .nd 23 [.int .i64 (lI1 a 1 0), .int .i64 (lI1 a 1 1), .int .i64 (lI1 a 1 2)], .nd 26 [.int .i64 (lI1 a 2 0), .view 3 (lV1 a 2 1) (lF1 a 2 1), .view 3 (lV1 a 2 2) (lF1 a 2 2)]] [] K := by kernel_rfl
  unfold Sr42_0 at h
  rw [h1, fq42_0]
  exact h
theorem okD42 : EntryOK Try.prog T 42 DS42 := (@entryE_told Try.prog T 42 [] DB42 DB42 okDB42 okDB42 Sl42_0 Sg42_0 @Sr42_0 @ff42_0)
theorem okD43 : EntryOK Try.prog T 43 DR43 := @ok_of Try.prog T tabOK mixedOK DCL43 (by kernel_rfl) fnsL_nil 43 Try.f43 Try.func43 (by kernel_rfl) (by kernel_rfl) (by kernel_rfl) (loops_none (by kernel_rfl)) [] (joins_none (by kernel_rfl))
theorem lp85_0_0 {β : Type} (K : Ex → St → R β) (n0 : Nat) (f1 : (Nat → V)) : ∀ (k : Nat) (i2 : Int) (i3 : Int), loopN (exec { DCL85 with m := 0, nt := Try.f85.ntmps } (loopBody Try.f85 0) 0) (canonK { DCL85 with m := 0, nt := Try.f85.ntmps } 0) k ⟨[.view 4 n0 f1, .junk, .int .i64 i2, .int .i64 i3, .junk, .junk], []⟩ K = Ls85_0_0 K n0 f1 k i2 i3
  | 0, _, _ => rfl
  | k + 1, i2, i3 => by
    rw [loopN_succ, rq85_0_0]
    simp only [lp85_0_0 K n0 f1 k]
    rfl
theorem ll85_0_0 {β : Type} {PP : β → Prop} (st : St) (K : Ex → St → R β) (h : All PP (Lr85_0_0 st K)) : All PP (loopN (exec { DCL85 with m := 0, nt := Try.f85.ntmps } (loopBody Try.f85 0) 0) (canonK { DCL85 with m := 0, nt := Try.f85.ntmps } 0) DCL85.N (mkSt Ll85_0_0 Lg85_0_0 st) K) := by
  have hs : mkSt Ll85_0_0 Lg85_0_0 st = ⟨[.view 4 (lV st.loc 0) (lF st.loc 0), .junk, .int .i64 (lI st.loc 2), .int .i64 (lI st.loc 3), .junk, .junk], []⟩ := by kernel_rfl
  have hn : DCL85.N = NN := by kernel_rfl
  unfold Lr85_0_0 at h
  rw [NNo_eq] at h
  rw [hs, hn, lp85_0_0]
  exact h
theorem hlD85 : LoopsL DCL85 Try.f85.ntmps (loopsIn (codeOf Try.f85) 0) := by
  have e : loopsIn (codeOf Try.f85) 0 = [(0, loopBody Try.f85 0)] := by kernel_rfl
  rw [e]
  exact (loops_two (loopOK_of (by kernel_rfl) (loopE_told (c := DCL85) (nt := Try.f85.ntmps) (k := 0) (b := loopBody Try.f85 0) (m0 := 0) (l := Ll85_0_0) (g := Lg85_0_0) (run := @Lr85_0_0) (h := @ll85_0_0))) loops_none')
theorem okDB85 : EntryOK Try.prog T 85 DB85 := @ok_of Try.prog T tabOK mixedOK DCL85 (by kernel_rfl) fnsL_nil 85 Try.f85 Try.func85 (by kernel_rfl) (by kernel_rfl) (by kernel_rfl) hlD85 [] (joins_none (by kernel_rfl))
theorem ff85_0 {β : Type} {PP : β → Prop} (a : List V) (G : List Reg) (K : V → List Reg → R β) (h : All PP (Sr85_0 a G K)) : All PP (DB85.run (mkVs Sl85_0 (locAt a) 0) (mkG Sg85_0 (regAt G) 0) K) := by
  have h1 : DB85.run (mkVs Sl85_0 (locAt a) 0) (mkG Sg85_0 (regAt G) 0) K = DB85.run [.view 4 (lV a 0) (lF a 0)] [] K := by kernel_rfl
  unfold Sr85_0 at h
  rw [h1, fq85_0]
  exact h
theorem okD85 : EntryOK Try.prog T 85 DS85 := (@entryE_told Try.prog T 85 [] DB85 DB85 okDB85 okDB85 Sl85_0 Sg85_0 @Sr85_0 @ff85_0)
theorem lp119_0_0 {β : Type} (K : Ex → St → R β) (n0 : Nat) (f1 : (Nat → V)) (n2 : Nat) (f3 : (Nat → V)) : ∀ (k : Nat) (i4 : Int), loopN (exec { DCL119 with m := 0, nt := Try.f119.ntmps } (loopBody Try.f119 0) 0) (canonK { DCL119 with m := 0, nt := Try.f119.ntmps } 0) k ⟨[.view 3 n0 f1, .view 3 n2 f3, .junk, .int .i64 i4, .junk, .junk, .junk], []⟩ K = Ls119_0_0 K n0 f1 n2 f3 k i4
  | 0, _ => rfl
  | k + 1, i4 => by
    rw [loopN_succ, rq119_0_0]
    simp only [lp119_0_0 K n0 f1 n2 f3 k]
    rfl
theorem ll119_0_0 {β : Type} {PP : β → Prop} (st : St) (K : Ex → St → R β) (h : All PP (Lr119_0_0 st K)) : All PP (loopN (exec { DCL119 with m := 0, nt := Try.f119.ntmps } (loopBody Try.f119 0) 0) (canonK { DCL119 with m := 0, nt := Try.f119.ntmps } 0) DCL119.N (mkSt Ll119_0_0 Lg119_0_0 st) K) := by
  have hs : mkSt Ll119_0_0 Lg119_0_0 st = ⟨[.view 3 (lV st.loc 0) (lF st.loc 0), .view 3 (lV st.loc 1) (lF st.loc 1), .junk, .int .i64 (lI st.loc 3), .junk, .junk, .junk], []⟩ := by kernel_rfl
  have hn : DCL119.N = NN := by kernel_rfl
  unfold Lr119_0_0 at h
  rw [NNo_eq] at h
  rw [hs, hn, lp119_0_0]
  exact h
theorem hlD119 : LoopsL DCL119 Try.f119.ntmps (loopsIn (codeOf Try.f119) 0) := by
  have e : loopsIn (codeOf Try.f119) 0 = [(0, loopBody Try.f119 0)] := by kernel_rfl
  rw [e]
  exact (loops_two (loopOK_of (by kernel_rfl) (loopE_told (c := DCL119) (nt := Try.f119.ntmps) (k := 0) (b := loopBody Try.f119 0) (m0 := 0) (l := Ll119_0_0) (g := Lg119_0_0) (run := @Lr119_0_0) (h := @ll119_0_0))) loops_none')
theorem okDB119 : EntryOK Try.prog T 119 DB119 := @ok_of Try.prog T tabOK mixedOK DCL119 (by kernel_rfl) fnsL_nil 119 Try.f119 Try.func119 (by kernel_rfl) (by kernel_rfl) (by kernel_rfl) hlD119 [] (joins_none (by kernel_rfl))
theorem ff119_0 {β : Type} {PP : β → Prop} (a : List V) (G : List Reg) (K : V → List Reg → R β) (h : All PP (Sr119_0 a G K)) : All PP (DB119.run (mkVs Sl119_0 (locAt a) 0) (mkG Sg119_0 (regAt G) 0) K) := by
  have h1 : DB119.run (mkVs Sl119_0 (locAt a) 0) (mkG Sg119_0 (regAt G) 0) K = DB119.run [.view 3 (lV a 0) (lF a 0), .view 3 (lV a 1) (lF a 1)] [] K := by kernel_rfl
  unfold Sr119_0 at h
  rw [h1, fq119_0]
  exact h
theorem okD119 : EntryOK Try.prog T 119 DS119 := (@entryE_told Try.prog T 119 [] DB119 DB119 okDB119 okDB119 Sl119_0 Sg119_0 @Sr119_0 @ff119_0)
theorem okDB86 : EntryOK Try.prog T 86 DB86 := @ok_of Try.prog T tabOK mixedOK DCL86 (by kernel_rfl) (fnsL_cons okD84 (fnsL_cons okD119 fnsL_nil)) 86 Try.f86 Try.func86 (by kernel_rfl) (by kernel_rfl) (by kernel_rfl) (loops_none (by kernel_rfl)) [] (joins_none (by kernel_rfl))
theorem ff86_0 {β : Type} {PP : β → Prop} (a : List V) (G : List Reg) (K : V → List Reg → R β) (h : All PP (Sr86_0 a G K)) : All PP (DB86.run (mkVs Sl86_0 (locAt a) 0) (mkG Sg86_0 (regAt G) 0) K) := by
  have h1 : DB86.run (mkVs Sl86_0 (locAt a) 0) (mkG Sg86_0 (regAt G) 0) K = DB86.run [.nd 26 [.int .i64 (lI1 a 0 0), .view 3 (lV1 a 0 1) (lF1 a 0 1), .view 3 (lV1 a 0 2) (lF1 a 0 2)], .view 3 (lV a 1) (lF a 1)] [] K := by kernel_rfl
  unfold Sr86_0 at h
  rw [h1, fq86_0]
  exact h
theorem okD86 : EntryOK Try.prog T 86 DS86 := (@entryE_told Try.prog T 86 [] DB86 DB86 okDB86 okDB86 Sl86_0 Sg86_0 @Sr86_0 @ff86_0)
theorem okD23 : EntryOK Try.prog T 23 DR23 := @ok_of Try.prog T tabOK mixedOK DCL23 (by kernel_rfl) fnsL_nil 23 Try.f23 Try.func23 (by kernel_rfl) (by kernel_rfl) (by kernel_rfl) (loops_none (by kernel_rfl)) [] (joins_none (by kernel_rfl))
theorem lp87_0_0 {β : Type} (K : Ex → St → R β) (n0 : Nat) (f1 : (Nat → V)) : ∀ (k : Nat) (i2 : Int) (i3 : Int) (i4 : Int) (i5 : Int) (i6 : Int) (i7 : Int) (i8 : Int) (n9 : Nat) (f10 : (Nat → V)), loopN (exec { DCL87 with m := 0, nt := Try.f87.ntmps } (loopBody Try.f87 0) 0) (canonK { DCL87 with m := 0, nt := Try.f87.ntmps } 0) k ⟨[.view 40 n0 f1, .junk, .ptr 0 [] 40, .int .i64 i2, .junk, .junk], [.box 40 (.nd 40 [.nd 23 [.int .i64 i3, .int .i64 i4, .int .i64 i5], .nd 23 [.int .i64 i6, .int .i64 i7, .int .i64 i8], .view 3 n9 f10])]⟩ K = Ls87_0_0 K n0 f1 k i2 i3 i4 i5 i6 i7 i8 n9 f10
  | 0, _, _, _, _, _, _, _, _, _ => rfl
  | k + 1, i2, i3, i4, i5, i6, i7, i8, n9, f10 => by
    rw [loopN_succ, rq87_0_0]
    simp only [lp87_0_0 K n0 f1 k]
    rfl
theorem ll87_0_0 {β : Type} {PP : β → Prop} (st : St) (K : Ex → St → R β) (h : All PP (Lr87_0_0 st K)) : All PP (loopN (exec { DCL87 with m := 0, nt := Try.f87.ntmps } (loopBody Try.f87 0) 0) (canonK { DCL87 with m := 0, nt := Try.f87.ntmps } 0) DCL87.N (mkSt Ll87_0_0 Lg87_0_0 st) K) := by
  have hs : mkSt Ll87_0_0 Lg87_0_0 st = ⟨[.view 40 (lV st.loc 0) (lF st.loc 0), .junk, .ptr 0 [] 40, .int .i64 (lI st.loc 3), .junk, .junk], [.box 40 (.nd 40 [.nd 23 [.int .i64 (gI2 st.G 0 0 0), .int .i64 (gI2 st.G 0 0 1), .int .i64 (gI2 st.G 0 0 2)], .nd 23 [.int .i64 (gI2 st.G 0 1 0), .int .i64 (gI2 st.G 0 1 1), .int .i64 (gI2 st.G 0 1 2)], .view 3 (gV1 st.G 0 2) (gF1 st.G 0 2)])]⟩ := by kernel_rfl
  have hn : DCL87.N = NN := by kernel_rfl
  unfold Lr87_0_0 at h
  rw [NNo_eq] at h
  rw [hs, hn, lp87_0_0]
  exact h
theorem hlD87 : LoopsL DCL87 Try.f87.ntmps (loopsIn (codeOf Try.f87) 0) := by
  have e : loopsIn (codeOf Try.f87) 0 = [(0, loopBody Try.f87 0)] := by kernel_rfl
  rw [e]
  exact (loops_two (loopOK_of (by kernel_rfl) (loopE_told (c := DCL87) (nt := Try.f87.ntmps) (k := 0) (b := loopBody Try.f87 0) (m0 := 0) (l := Ll87_0_0) (g := Lg87_0_0) (run := @Lr87_0_0) (h := @ll87_0_0))) loops_none')
theorem okDB87 : EntryOK Try.prog T 87 DB87 := @ok_of Try.prog T tabOK mixedOK DCL87 (by kernel_rfl) (fnsL_cons okD23 fnsL_nil) 87 Try.f87 Try.func87 (by kernel_rfl) (by kernel_rfl) (by kernel_rfl) hlD87 [] (joins_none (by kernel_rfl))
theorem ff87_0 {β : Type} {PP : β → Prop} (a : List V) (G : List Reg) (K : V → List Reg → R β) (h : All PP (Sr87_0 a G K)) : All PP (DB87.run (mkVs Sl87_0 (locAt a) 0) (mkG Sg87_0 (regAt G) 0) K) := by
  have h1 : DB87.run (mkVs Sl87_0 (locAt a) 0) (mkG Sg87_0 (regAt G) 0) K = DB87.run [.view 40 (lV a 0) (lF a 0)] [] K := by kernel_rfl
  unfold Sr87_0 at h
  rw [h1, fq87_0]
  exact h
theorem okD87 : EntryOK Try.prog T 87 DS87 := (@entryE_told Try.prog T 87 [] DB87 DB87 okDB87 okDB87 Sl87_0 Sg87_0 @Sr87_0 @ff87_0)
theorem lp44_0_0 {β : Type} (K : Ex → St → R β) (i2 : Int) (i3 : Int) (i4 : Int) (i5 : Int) (i6 : Int) (n7 : Nat) (f8 : (Nat → V)) (n9 : Nat) (f10 : (Nat → V)) (i11 : Int) (n12 : Nat) (n13 : Nat) (n14 : Nat) (n15 : Nat) (f16 : (Nat → V)) (i17 : Int) (i18 : Int) (i19 : Int) (i20 : Int) (n21 : Nat) (f22 : (Nat → V)) (n23 : Nat) (f24 : (Nat → V)) (n25 : Nat) (f26 : (Nat → V)) : ∀ (k : Nat) (n0 : Nat) (i1 : Int) (n27 : Nat) (f28 : (Nat → V)), loopN (exec { DCL44 with m := 4, nt := Try.f44.ntmps } (loopBody Try.f44 0) 0) (canonK { DCL44 with m := 4, nt := Try.f44.ntmps } 0) k ⟨[.ptr 0 [] 174, .junk, .junk, .junk, .junk, .junk, .junk, .sub 4 0 n0, .int .i64 i1, .junk, .junk, .junk, .junk, .junk, .junk], [.box 174 (.nd 174 [.int .i64 i2, .nd 23 [.int .i64 i3, .int .i64 i4, .int .i64 i5], .nd 26 [.int .i64 i6, .view 3 n7 f8, .view 3 n9 f10], .int .i64 i11, .sub 1 0 n12, .sub 2 0 n13, .sub 3 0 n14, .view 3 n15 f16, .int .i64 i17, .nd 23 [.int .i64 i18, .int .i64 i19, .int .i64 i20]]), .row 4 n21 f22, .row 40 n23 f24, .row 4 n25 f26, .row 40 n27 f28]⟩ K = Ls44_0_0 K i2 i3 i4 i5 i6 n7 f8 n9 f10 i11 n12 n13 n14 n15 f16 i17 i18 i19 i20 n21 f22 n23 f24 n25 f26 k n0 i1 n27 f28
  | 0, _, _, _, _ => rfl
  | k + 1, n0, i1, n27, f28 => by
    rw [loopN_succ, rq44_0_0]
    simp only [lp44_0_0 K i2 i3 i4 i5 i6 n7 f8 n9 f10 i11 n12 n13 n14 n15 f16 i17 i18 i19 i20 n21 f22 n23 f24 n25 f26 k]
    rfl
theorem ll44_0_0 {β : Type} {PP : β → Prop} (st : St) (K : Ex → St → R β) (h : All PP (Lr44_0_0 st K)) : All PP (loopN (exec { DCL44 with m := 4, nt := Try.f44.ntmps } (loopBody Try.f44 0) 0) (canonK { DCL44 with m := 4, nt := Try.f44.ntmps } 0) DCL44.N (mkSt Ll44_0_0 Lg44_0_0 st) K) := by
  have hs : mkSt Ll44_0_0 Lg44_0_0 st = ⟨[.ptr 0 [] 174, .junk, .junk, .junk, .junk, .junk, .junk, .sub 4 0 (lN st.loc 7), .int .i64 (lI st.loc 8), .junk, .junk, .junk, .junk, .junk, .junk], [.box 174 (.nd 174 [.int .i64 (gI1 st.G 0 0), .nd 23 [.int .i64 (gI2 st.G 0 1 0), .int .i64 (gI2 st.G 0 1 1), .int .i64 (gI2 st.G 0 1 2)], .nd 26 [.int .i64 (gI2 st.G 0 2 0), .view 3 (gV2 st.G 0 2 1) (gF2 st.G 0 2 1), .view 3 (gV2 st.G 0 2 2) (gF2 st.G 0 2 2)], .int .i64 (gI1 st.G 0 3), .sub 1 0 (gN1 st.G 0 4), .sub 2 0 (gN1 st.G 0 5), .sub 3 0 (gN1 st.G 0 6), .view 3 (gV1 st.G 0 7) (gF1 st.G 0 7), .int .i64 (gI1 st.G 0 8), .nd 23 [.int .i64 (gI2 st.G 0 9 0), .int .i64 (gI2 st.G 0 9 1), .int .i64 (gI2 st.G 0 9 2)]]), .row 4 (rN st.G 1) (rF st.G 1), .row 40 (rN st.G 2) (rF st.G 2), .row 4 (rN st.G 3) (rF st.G 3), .row 40 (rN st.G 4) (rF st.G 4)]⟩ := by kernel_rfl
  have hn : DCL44.N = NN := by kernel_rfl
  unfold Lr44_0_0 at h
  rw [NNo_eq] at h
  rw [hs, hn, lp44_0_0]
  exact h
theorem hlD44 : LoopsL DCL44 Try.f44.ntmps (loopsIn (codeOf Try.f44) 0) := by
  have e : loopsIn (codeOf Try.f44) 0 = [(0, loopBody Try.f44 0)] := by kernel_rfl
  rw [e]
  exact (loops_two (loopOK_of (by kernel_rfl) (loopE_told (c := DCL44) (nt := Try.f44.ntmps) (k := 0) (b := loopBody Try.f44 0) (m0 := 4) (l := Ll44_0_0) (g := Lg44_0_0) (run := @Lr44_0_0) (h := @ll44_0_0))) loops_none')
theorem okDB44 : EntryOK Try.prog T 44 DB44 := @ok_of Try.prog T tabOK mixedOK DCL44 (by kernel_rfl) (fnsL_cons okD85 (fnsL_cons okD86 (fnsL_cons okD87 fnsL_nil))) 44 Try.f44 Try.func44 (by kernel_rfl) (by kernel_rfl) (by kernel_rfl) hlD44 [] (joins_none (by kernel_rfl))
theorem ff44_0 {β : Type} {PP : β → Prop} (a : List V) (G : List Reg) (K : V → List Reg → R β) (h : All PP (Sr44_0 a G K)) : All PP (DB44.run (mkVs Sl44_0 (locAt a) 0) (mkG Sg44_0 (regAt G) 0) K) := by
  have h1 : DB44.run (mkVs Sl44_0 (locAt a) 0) (mkG Sg44_0 (regAt G) 0) K = DB44.run [.ptr 0 [] 174, .int .i64 (lI a 1), .nd 23 [.int .i64 (lI1 a 2 0), .int .i64 (lI1 a 2 1), .int .i64 (lI1 a 2 2)], .nd 40 [.nd 23 [.int .i64 (intV (partV (partV (locAt a 3) 0) 0)), .int .i64 (intV (partV (partV (locAt a 3) 0) 1)), .int .i64 (intV (partV (partV (locAt a 3) 0) 2))], .nd 23 [.int .i64 (intV (partV (partV (locAt a 3) 1) 0)), .int .i64 (intV (partV (partV (locAt a 3) 1) 1)), .int .i64 (intV (partV (partV (locAt a 3) 1) 2))], .view 3 (lV1 a 3 2) (lF1 a 3 2)]] [.box 174 (.nd 174 [.int .i64 (gI1 G 0 0), .nd 23 [.int .i64 (gI2 G 0 1 0), .int .i64 (gI2 G 0 1 1), .int .i64 (gI2 G 0 1 2)], .nd 26 [.int .i64 (gI2 G 0 2 0), .view 3 (gV2 G 0 2 1) (gF2 G 0 2 1), .view 3 (gV2 G 0 2 2) (gF2 G 0 2 2)], .int .i64 (gI1 G 0 3), .sub 1 0 (gN1 G 0 4), .sub 2 0 (gN1 G 0 5), .sub 3 0 (gN1 G 0 6), .view 3 (gV1 G 0 7) (gF1 G 0 7), .int .i64 (gI1 G 0 8), .nd 23 [.int .i64 (gI2 G 0 9 0), .int .i64 (gI2 G 0 9 1), .int .i64 (gI2 G 0 9 2)]]), .row 4 (rN G 1) (rF G 1), .row 40 (rN G 2) (rF G 2), .row 4 (rN G 3) (rF G 3)] K := by kernel_rfl
  unfold Sr44_0 at h
  rw [h1, fq44_0]
  exact h
theorem okD44 : EntryOK Try.prog T 44 DS44 := (@entryE_told Try.prog T 44 [] DB44 DB44 okDB44 okDB44 Sl44_0 Sg44_0 @Sr44_0 @ff44_0)
theorem okDB45 : EntryOK Try.prog T 45 DB45 := @ok_of Try.prog T tabOK mixedOK DCL45 (by kernel_rfl) (fnsL_cons okD85 fnsL_nil) 45 Try.f45 Try.func45 (by kernel_rfl) (by kernel_rfl) (by kernel_rfl) (loops_none (by kernel_rfl)) [] (joins_none (by kernel_rfl))
theorem ff45_0 {β : Type} {PP : β → Prop} (a : List V) (G : List Reg) (K : V → List Reg → R β) (h : All PP (Sr45_0 a G K)) : All PP (DB45.run (mkVs Sl45_0 (locAt a) 0) (mkG Sg45_0 (regAt G) 0) K) := by
  have h1 : DB45.run (mkVs Sl45_0 (locAt a) 0) (mkG Sg45_0 (regAt G) 0) K = DB45.run [.ptr 0 [] 174, .int .i64 (lI a 1), .nd 23 [.int .i64 (lI1 a 2 0), .int .i64 (lI1 a 2 1), .int .i64 (lI1 a 2 2)]] [.box 174 (.nd 174 [.int .i64 (gI1 G 0 0), .nd 23 [.int .i64 (gI2 G 0 1 0), .int .i64 (gI2 G 0 1 1), .int .i64 (gI2 G 0 1 2)], .nd 26 [.int .i64 (gI2 G 0 2 0), .view 3 (gV2 G 0 2 1) (gF2 G 0 2 1), .view 3 (gV2 G 0 2 2) (gF2 G 0 2 2)], .int .i64 (gI1 G 0 3), .sub 1 0 (gN1 G 0 4), .sub 2 0 (gN1 G 0 5), .sub 3 0 (gN1 G 0 6), .view 3 (gV1 G 0 7) (gF1 G 0 7), .int .i64 (gI1 G 0 8), .nd 23 [.int .i64 (gI2 G 0 9 0), .int .i64 (gI2 G 0 9 1), .int .i64 (gI2 G 0 9 2)]]), .row 4 (rN G 1) (rF G 1), .row 40 (rN G 2) (rF G 2), .row 4 (rN G 3) (rF G 3)] K := by kernel_rfl
  unfold Sr45_0 at h
  rw [h1, fq45_0]
  exact h
theorem okD45 : EntryOK Try.prog T 45 DS45 := (@entryE_told Try.prog T 45 [] DB45 DB45 okDB45 okDB45 Sl45_0 Sg45_0 @Sr45_0 @ff45_0)
theorem okDB46 : EntryOK Try.prog T 46 DB46 := @ok_of Try.prog T tabOK mixedOK DCL46 (by kernel_rfl) (fnsL_cons okD23 fnsL_nil) 46 Try.f46 Try.func46 (by kernel_rfl) (by kernel_rfl) (by kernel_rfl) (loops_none (by kernel_rfl)) [] (joins_none (by kernel_rfl))
theorem ff46_0 {β : Type} {PP : β → Prop} (a : List V) (G : List Reg) (K : V → List Reg → R β) (h : All PP (Sr46_0 a G K)) : All PP (DB46.run (mkVs Sl46_0 (locAt a) 0) (mkG Sg46_0 (regAt G) 0) K) := by
  have h1 : DB46.run (mkVs Sl46_0 (locAt a) 0) (mkG Sg46_0 (regAt G) 0) K = DB46.run [.ptr 0 [] 174, .int .i64 (lI a 1), .nd 23 [.int .i64 (lI1 a 2 0), .int .i64 (lI1 a 2 1), .int .i64 (lI1 a 2 2)], .nd 23 [.int .i64 (lI1 a 3 0), .int .i64 (lI1 a 3 1), .int .i64 (lI1 a 3 2)]] [.box 174 (.nd 174 [.int .i64 (gI1 G 0 0), .nd 23 [.int .i64 (gI2 G 0 1 0), .int .i64 (gI2 G 0 1 1), .int .i64 (gI2 G 0 1 2)], .nd 26 [.int .i64 (gI2 G 0 2 0), .view 3 (gV2 G 0 2 1) (gF2 G 0 2 1), .view 3 (gV2 G 0 2 2) (gF2 G 0 2 2)], .int .i64 (gI1 G 0 3), .sub 1 0 (gN1 G 0 4), .sub 2 0 (gN1 G 0 5), .sub 3 0 (gN1 G 0 6), .view 3 (gV1 G 0 7) (gF1 G 0 7), .int .i64 (gI1 G 0 8), .nd 23 [.int .i64 (gI2 G 0 9 0), .int .i64 (gI2 G 0 9 1), .int .i64 (gI2 G 0 9 2)]]), .row 4 (rN G 1) (rF G 1), .row 40 (rN G 2) (rF G 2), .row 4 (rN G 3) (rF G 3)] K := by kernel_rfl
  unfold Sr46_0 at h
  rw [h1, fq46_0]
  exact h
theorem okD46 : EntryOK Try.prog T 46 DS46 := (@entryE_told Try.prog T 46 [] DB46 DB46 okDB46 okDB46 Sl46_0 Sg46_0 @Sr46_0 @ff46_0)
theorem okD16 : EntryOK Try.prog T 16 DR16 := @ok_of Try.prog T tabOK mixedOK DCL16 (by kernel_rfl) fnsL_nil 16 Try.f16 Try.func16 (by kernel_rfl) (by kernel_rfl) (by kernel_rfl) (loops_none (by kernel_rfl)) [] (joins_none (by kernel_rfl))
theorem okD18 : EntryOK Try.prog T 18 DR18 := @ok_of Try.prog T tabOK mixedOK DCL18 (by kernel_rfl) (fnsL_cons ok49 fnsL_nil) 18 Try.f18 Try.func18 (by kernel_rfl) (by kernel_rfl) (by kernel_rfl) (loops_none (by kernel_rfl)) [] (joins_none (by kernel_rfl))
theorem okD12 : EntryOK Try.prog T 12 DR12 := @ok_of Try.prog T tabOK mixedOK DCL12 (by kernel_rfl) (fnsL_cons okD16 (fnsL_cons okD18 fnsL_nil)) 12 Try.f12 Try.func12 (by kernel_rfl) (by kernel_rfl) (by kernel_rfl) (loops_none (by kernel_rfl)) [] (joins_none (by kernel_rfl))
theorem okD17 : EntryOK Try.prog T 17 DR17 := @ok_of Try.prog T tabOK mixedOK DCL17 (by kernel_rfl) fnsL_nil 17 Try.f17 Try.func17 (by kernel_rfl) (by kernel_rfl) (by kernel_rfl) (loops_none (by kernel_rfl)) [] (joins_none (by kernel_rfl))
theorem okD19 : EntryOK Try.prog T 19 DR19 := @ok_of Try.prog T tabOK mixedOK DCL19 (by kernel_rfl) fnsL_nil 19 Try.f19 Try.func19 (by kernel_rfl) (by kernel_rfl) (by kernel_rfl) (loops_none (by kernel_rfl)) [] (joins_none (by kernel_rfl))
theorem lp47_0_0 {β : Type} (K : Ex → St → R β) (n0 : Nat) (i1 : Int) (i3 : Int) (i4 : Int) (i5 : Int) (i6 : Int) (i7 : Int) (n8 : Nat) (n9 : Nat) (i10 : Int) (n11 : Nat) (b12 : Bool) (n13 : Nat) (i14 : Int) (i15 : Int) (i16 : Int) (i17 : Int) (i18 : Int) (i19 : Int) (i20 : Int) (i21 : Int) (i22 : Int) (n23 : Nat) (f24 : (Nat → V)) (n25 : Nat) (f26 : (Nat → V)) (i27 : Int) (n28 : Nat) (n29 : Nat) (n30 : Nat) (n31 : Nat) (f32 : (Nat → V)) (i33 : Int) (i34 : Int) (i35 : Int) (i36 : Int) (n37 : Nat) (f38 : (Nat → V)) (n39 : Nat) (f40 : (Nat → V)) (n41 : Nat) (m42 : (List (Nat × V × V))) (n43 : Nat) (m44 : (List (Nat × V × V))) (n45 : Nat) (f46 : (Nat → V)) (n47 : Nat) (f48 : (Nat → V)) (n49 : Nat) (f50 : (Nat → V)) (n51 : Nat) (f52 : (Nat → V)) (n53 : Nat) : ∀ (k : Nat) (i2 : Int) (f54 : (Nat → V)), loopN (exec { DCL47 with m := 10, nt := Try.f47.ntmps } (loopBody Try.f47 0) 0) (canonK { DCL47 with m := 10, nt := Try.f47.ntmps } 0) k ⟨[.ptr 0 [] 116, .ptr 1 [] 174, .junk, .junk, .junk, .sub 10 0 n0, .junk, .junk, .junk, .int .i64 i1, .int .i64 i2, .junk], [.box 116 (.nd 116 [.int .i64 i3, .nd 23 [.int .i64 i4, .int .i64 i5, .int .i64 i6], .nd 26 [.int .i64 i7, .sub 2 0 n8, .sub 3 0 n9], .int .i64 i10, .mp 4, .mp 5, .sub 6 0 n11, .ei b12 n13 i14, .nd 23 [.int .i64 i15, .int .i64 i16, .int .i64 i17]]), .box 174 (.nd 174 [.int .i64 i18, .nd 23 [.int .i64 i19, .int .i64 i20, .int .i64 i21], .nd 26 [.int .i64 i22, .view 3 n23 f24, .view 3 n25 f26], .int .i64 i27, .sub 7 0 n28, .sub 8 0 n29, .sub 9 0 n30, .view 3 n31 f32, .int .i64 i33, .nd 23 [.int .i64 i34, .int .i64 i35, .int .i64 i36]]), .row 3 n37 f38, .row 3 n39 f40, .map 113 n41 m42, .map 114 n43 m44, .row 3 n45 f46, .row 4 n47 f48, .row 40 n49 f50, .row 4 n51 f52, .row 3 n53 f54]⟩ K = Ls47_0_0 K n0 i1 i3 i4 i5 i6 i7 n8 n9 i10 n11 b12 n13 i14 i15 i16 i17 i18 i19 i20 i21 i22 n23 f24 n25 f26 i27 n28 n29 n30 n31 f32 i33 i34 i35 i36 n37 f38 n39 f40 n41 m42 n43 m44 n45 f46 n47 f48 n49 f50 n51 f52 n53 k i2 f54
  | 0, _, _ => rfl
  | k + 1, i2, f54 => by
    rw [loopN_succ, rq47_0_0]
    simp only [lp47_0_0 K n0 i1 i3 i4 i5 i6 i7 n8 n9 i10 n11 b12 n13 i14 i15 i16 i17 i18 i19 i20 i21 i22 n23 f24 n25 f26 i27 n28 n29 n30 n31 f32 i33 i34 i35 i36 n37 f38 n39 f40 n41 m42 n43 m44 n45 f46 n47 f48 n49 f50 n51 f52 n53 k]
    rfl
theorem ll47_0_0 {β : Type} {PP : β → Prop} (st : St) (K : Ex → St → R β) (h : All PP (Lr47_0_0 st K)) : All PP (loopN (exec { DCL47 with m := 10, nt := Try.f47.ntmps } (loopBody Try.f47 0) 0) (canonK { DCL47 with m := 10, nt := Try.f47.ntmps } 0) DCL47.N (mkSt Ll47_0_0 Lg47_0_0 st) K) := by
  have hs : mkSt Ll47_0_0 Lg47_0_0 st = ⟨[.ptr 0 [] 116, .ptr 1 [] 174, .junk, .junk, .junk, .sub 10 0 (lN st.loc 5), .junk, .junk, .junk, .int .i64 (lI st.loc 9), .int .i64 (lI st.loc 10), .junk], [.box 116 (.nd 116 [.int .i64 (gI1 st.G 0 0), .nd 23 [.int .i64 (gI2 st.G 0 1 0), .int .i64 (gI2 st.G 0 1 1), .int .i64 (gI2 st.G 0 1 2)], .nd 26 [.int .i64 (gI2 st.G 0 2 0), .sub 2 0 (gN2 st.G 0 2 1), .sub 3 0 (gN2 st.G 0 2 2)], .int .i64 (gI1 st.G 0 3), .mp 4, .mp 5, .sub 6 0 (gN1 st.G 0 6), .ei (eiB (partV (regV (regAt st.G 0)) 7)) (eiT (partV (regV (regAt st.G 0)) 7)) (eiN (partV (regV (regAt st.G 0)) 7)), .nd 23 [.int .i64 (gI2 st.G 0 8 0), .int .i64 (gI2 st.G 0 8 1), .int .i64 (gI2 st.G 0 8 2)]]), .box 174 (.nd 174 [.int .i64 (gI1 st.G 1 0), .nd 23 [.int .i64 (gI2 st.G 1 1 0), .int .i64 (gI2 st.G 1 1 1), .int .i64 (gI2 st.G 1 1 2)], .nd 26 [.int .i64 (gI2 st.G 1 2 0), .view 3 (gV2 st.G 1 2 1) (gF2 st.G 1 2 1), .view 3 (gV2 st.G 1 2 2) (gF2 st.G 1 2 2)], .int .i64 (gI1 st.G 1 3), .sub 7 0 (gN1 st.G 1 4), .sub 8 0 (gN1 st.G 1 5), .sub 9 0 (gN1 st.G 1 6), .view 3 (gV1 st.G 1 7) (gF1 st.G 1 7), .int .i64 (gI1 st.G 1 8), .nd 23 [.int .i64 (gI2 st.G 1 9 0), .int .i64 (gI2 st.G 1 9 1), .int .i64 (gI2 st.G 1 9 2)]]), .row 3 (rN st.G 2) (rF st.G 2), .row 3 (rN st.G 3) (rF st.G 3), .map 113 (mapC (regAt st.G 4)) (mapL (regAt st.G 4)), .map 114 (mapC (regAt st.G 5)) (mapL (regAt st.G 5)), .row 3 (rN st.G 6) (rF st.G 6), .row 4 (rN st.G 7) (rF st.G 7), .row 40 (rN st.G 8) (rF st.G 8), .row 4 (rN st.G 9) (rF st.G 9), .row 3 (rN st.G 10) (rF st.G 10)]⟩ := by kernel_rfl
  have hn : DCL47.N = NN := by kernel_rfl
  unfold Lr47_0_0 at h
  rw [NNo_eq] at h
  rw [hs, hn, lp47_0_0]
  exact h
theorem hlD47 : LoopsL DCL47 Try.f47.ntmps (loopsIn (codeOf Try.f47) 0) := by
  have e : loopsIn (codeOf Try.f47) 0 = [(0, loopBody Try.f47 0)] := by kernel_rfl
  rw [e]
  exact (loops_two (loopOK_of (by kernel_rfl) (loopE_told (c := DCL47) (nt := Try.f47.ntmps) (k := 0) (b := loopBody Try.f47 0) (m0 := 10) (l := Ll47_0_0) (g := Lg47_0_0) (run := @Lr47_0_0) (h := @ll47_0_0))) loops_none')
theorem okDB47 : EntryOK Try.prog T 47 DB47 := @ok_of Try.prog T tabOK mixedOK DCL47 (by kernel_rfl) (fnsL_cons okD12 (fnsL_cons okD16 (fnsL_cons okD17 (fnsL_cons okD18 (fnsL_cons okD19 (fnsL_cons okD25 (fnsL_cons okD43 fnsL_nil))))))) 47 Try.f47 Try.func47 (by kernel_rfl) (by kernel_rfl) (by kernel_rfl) hlD47 [] (joins_none (by kernel_rfl))
theorem ff47_0 {β : Type} {PP : β → Prop} (a : List V) (G : List Reg) (K : V → List Reg → R β) (h : All PP (Sr47_0 a G K)) : All PP (DB47.run (mkVs Sl47_0 (locAt a) 0) (mkG Sg47_0 (regAt G) 0) K) := by
  have h1 : DB47.run (mkVs Sl47_0 (locAt a) 0) (mkG Sg47_0 (regAt G) 0) K = DB47.run [.ptr 0 [] 116, .ptr 1 [] 174] [.box 116 (.nd 116 [.int .i64 (gI1 G 0 0), .nd 23 [.int .i64 (gI2 G 0 1 0), .int .i64 (gI2 G 0 1 1), .int .i64 (gI2 G 0 1 2)], .nd 26 [.int .i64 (gI2 G 0 2 0), .sub 2 0 (gN2 G 0 2 1), .sub 3 0 (gN2 G 0 2 2)], .int .i64 (gI1 G 0 3), .mp 4, .mp 5, .sub 6 0 (gN1 G 0 6), .ei (eiB (partV (regV (regAt G 0)) 7)) (eiT (partV (regV (regAt G 0)) 7)) (eiN (partV (regV (regAt G 0)) 7)), .nd 23 [.int .i64 (gI2 G 0 8 0), .int .i64 (gI2 G 0 8 1), .int .i64 (gI2 G 0 8 2)]]), .box 174 (.nd 174 [.int .i64 (gI1 G 1 0), .nd 23 [.int .i64 (gI2 G 1 1 0), .int .i64 (gI2 G 1 1 1), .int .i64 (gI2 G 1 1 2)], .nd 26 [.int .i64 (gI2 G 1 2 0), .view 3 (gV2 G 1 2 1) (gF2 G 1 2 1), .view 3 (gV2 G 1 2 2) (gF2 G 1 2 2)], .int .i64 (gI1 G 1 3), .sub 7 0 (gN1 G 1 4), .sub 8 0 (gN1 G 1 5), .sub 9 0 (gN1 G 1 6), .view 3 (gV1 G 1 7) (gF1 G 1 7), .int .i64 (gI1 G 1 8), .nd 23 [.int .i64 (gI2 G 1 9 0), .int .i64 (gI2 G 1 9 1), .int .i64 (gI2 G 1 9 2)]]), .row 3 (rN G 2) (rF G 2), .row 3 (rN G 3) (rF G 3), .map 113 (mapC (regAt G 4)) (mapL (regAt G 4)), .map 114 (mapC (regAt G 5)) (mapL (regAt G 5)), .row 3 (rN G 6) (rF G 6), .row 4 (rN G 7) (rF G 7), .row 40 (rN G 8) (rF G 8), .row 4 (rN G 9) (rF G 9)] K := by kernel_rfl
  unfold Sr47_0 at h
  rw [h1, fq47_0]
  exact h
theorem okD47 : EntryOK Try.prog T 47 DS47 := (@entryE_told Try.prog T 47 [] DB47 DB47 okDB47 okDB47 Sl47_0 Sg47_0 @Sr47_0 @ff47_0)
theorem lp10_0_0 {β : Type} (K : Ex → St → R β) (n0 : Nat) (f1 : (Nat → V)) (i2 : Int) (i4 : Int) (i5 : Int) (i6 : Int) (i7 : Int) (i8 : Int) (i9 : Int) (i10 : Int) (i11 : Int) (n12 : Nat) (n13 : Nat) (i22 : Int) (i23 : Int) (i24 : Int) (i25 : Int) (i26 : Int) (n27 : Nat) (f28 : (Nat → V)) (n29 : Nat) (f30 : (Nat → V)) (n32 : Nat) (n33 : Nat) (n34 : Nat) (n41 : Nat) (f42 : (Nat → V)) (n43 : Nat) (f44 : (Nat → V)) (n51 : Nat) (n53 : Nat) (n55 : Nat) : ∀ (k : Nat) (i3 : Int) (i14 : Int) (n15 : Nat) (b16 : Bool) (n17 : Nat) (i18 : Int) (i19 : Int) (i20 : Int) (i21 : Int) (i31 : Int) (n35 : Nat) (f36 : (Nat → V)) (i37 : Int) (i38 : Int) (i39 : Int) (i40 : Int) (n45 : Nat) (m46 : (List (Nat × V × V))) (n47 : Nat) (m48 : (List (Nat × V × V))) (n49 : Nat) (f50 : (Nat → V)) (f52 : (Nat → V)) (f54 : (Nat → V)) (f56 : (Nat → V)), loopN (exec { DCL10 with m := 0, nt := Try.f10.ntmps } (loopBody Try.f10 0) 0) (canonK { DCL10 with m := 0, nt := Try.f10.ntmps } 0) k ⟨[.junk, .junk, .junk, .junk, .ptr 0 [] 23, .junk, .junk, .ptr 1 [] 116, .junk, .ptr 2 [] 174, .junk, .junk, .junk, .junk, .junk, .junk, .junk, .junk, .junk, .view 50 n0 f1, .int .i64 i2, .int .i64 i3, .junk, .junk, .junk, .junk, .junk, .junk, .junk, .junk, .junk, .junk, .junk], [.box 23 (.nd 23 [.int .i64 i4, .int .i64 i5, .int .i64 i6]), .box 116 (.nd 116 [.int .i64 i7, .nd 23 [.int .i64 i8, .int .i64 i9, .int .i64 i10], .nd 26 [.int .i64 i11, .sub 3 0 n12, .sub 4 0 n13], .int .i64 i14, .mp 5, .mp 6, .sub 7 0 n15, .ei b16 n17 i18, .nd 23 [.int .i64 i19, .int .i64 i20, .int .i64 i21]]), .box 174 (.nd 174 [.int .i64 i22, .nd 23 [.int .i64 i23, .int .i64 i24, .int .i64 i25], .nd 26 [.int .i64 i26, .view 3 n27 f28, .view 3 n29 f30], .int .i64 i31, .sub 8 0 n32, .sub 9 0 n33, .sub 10 0 n34, .view 3 n35 f36, .int .i64 i37, .nd 23 [.int .i64 i38, .int .i64 i39, .int .i64 i40]]), .row 3 n41 f42, .row 3 n43 f44, .map 113 n45 m46, .map 114 n47 m48, .row 3 n49 f50, .row 4 n51 f52, .row 40 n53 f54, .row 4 n55 f56]⟩ K = Ls10_0_0 K n0 f1 i2 i4 i5 i6 i7 i8 i9 i10 i11 n12 n13 i22 i23 i24 i25 i26 n27 f28 n29 f30 n32 n33 n34 n41 f42 n43 f44 n51 n53 n55 k i3 i14 n15 b16 n17 i18 i19 i20 i21 i31 n35 f36 i37 i38 i39 i40 n45 m46 n47 m48 n49 f50 f52 f54 f56
  | 0, _, _, _, _, _, _, _, _, _, _, _, _, _, _, _, _, _, _, _, _, _, _, _, _, _ => rfl
  | k + 1, i3, i14, n15, b16, n17, i18, i19, i20, i21, i31, n35, f36, i37, i38, i39, i40, n45, m46, n47, m48, n49, f50, f52, f54, f56 => by
    rw [loopN_succ, rq10_0_0]
    simp only [lp10_0_0 K n0 f1 i2 i4 i5 i6 i7 i8 i9 i10 i11 n12 n13 i22 i23 i24 i25 i26 n27 f28 n29 f30 n32 n33 n34 n41 f42 n43 f44 n51 n53 n55 k]
    rfl
theorem lp10_3_0 {β : Type} (K : Ex → St → R β) (b0 : Bool) (b1 : Bool) (n2 : Nat) (f3 : (Nat → V)) (i4 : Int) (i5 : Int) (i6 : Int) (i8 : Int) (i9 : Int) (i10 : Int) (i11 : Int) (i12 : Int) (i13 : Int) (i14 : Int) (i15 : Int) (n16 : Nat) (n17 : Nat) (i18 : Int) (n19 : Nat) (b20 : Bool) (n21 : Nat) (i22 : Int) (i23 : Int) (i24 : Int) (i25 : Int) (i26 : Int) (i27 : Int) (i28 : Int) (i29 : Int) (i30 : Int) (n31 : Nat) (f32 : (Nat → V)) (n33 : Nat) (f34 : (Nat → V)) (i35 : Int) (n36 : Nat) (n37 : Nat) (n38 : Nat) (n39 : Nat) (f40 : (Nat → V)) (i41 : Int) (i42 : Int) (i43 : Int) (i44 : Int) (i45 : Int) (i46 : Int) (i47 : Int) (i48 : Int) (i49 : Int) (i50 : Int) (n51 : Nat) (n52 : Nat) (f53 : (Nat → V)) (n54 : Nat) (f55 : (Nat → V)) (n56 : Nat) (m57 : (List (Nat × V × V))) (n58 : Nat) (m59 : (List (Nat × V × V))) (n60 : Nat) (f61 : (Nat → V)) (n62 : Nat) (f63 : (Nat → V)) (n64 : Nat) (f65 : (Nat → V)) (n66 : Nat) (f67 : (Nat → V)) (n68 : Nat) : ∀ (k : Nat) (i7 : Int) (f69 : (Nat → V)), loopN (exec { DCL10 with m := 0, nt := Try.f10.ntmps } (loopBody Try.f10 3) 3) (canonK { DCL10 with m := 0, nt := Try.f10.ntmps } 3) k ⟨[.junk, .junk, .junk, .junk, .ptr 0 [] 23, .junk, .junk, .ptr 1 [] 116, .junk, .ptr 2 [] 174, .junk, .junk, .ptr 3 [] 40, .bool b0, .bool b1, .junk, .junk, .junk, .junk, .view 50 n2 f3, .int .i64 i4, .int .i64 i5, .junk, .junk, .junk, .junk, .junk, .junk, .junk, .int .i64 i6, .int .i64 i7, .junk, .junk], [.box 23 (.nd 23 [.int .i64 i8, .int .i64 i9, .int .i64 i10]), .box 116 (.nd 116 [.int .i64 i11, .nd 23 [.int .i64 i12, .int .i64 i13, .int .i64 i14], .nd 26 [.int .i64 i15, .sub 4 0 n16, .sub 5 0 n17], .int .i64 i18, .mp 6, .mp 7, .sub 8 0 n19, .ei b20 n21 i22, .nd 23 [.int .i64 i23, .int .i64 i24, .int .i64 i25]]), .box 174 (.nd 174 [.int .i64 i26, .nd 23 [.int .i64 i27, .int .i64 i28, .int .i64 i29], .nd 26 [.int .i64 i30, .view 3 n31 f32, .view 3 n33 f34], .int .i64 i35, .sub 9 0 n36, .sub 10 0 n37, .sub 11 0 n38, .view 3 n39 f40, .int .i64 i41, .nd 23 [.int .i64 i42, .int .i64 i43, .int .i64 i44]]), .box 40 (.nd 40 [.nd 23 [.int .i64 i45, .int .i64 i46, .int .i64 i47], .nd 23 [.int .i64 i48, .int .i64 i49, .int .i64 i50], .sub 12 0 n51]), .row 3 n52 f53, .row 3 n54 f55, .map 113 n56 m57, .map 114 n58 m59, .row 3 n60 f61, .row 4 n62 f63, .row 40 n64 f65, .row 4 n66 f67, .row 3 n68 f69]⟩ K = Ls10_3_0 K b0 b1 n2 f3 i4 i5 i6 i8 i9 i10 i11 i12 i13 i14 i15 n16 n17 i18 n19 b20 n21 i22 i23 i24 i25 i26 i27 i28 i29 i30 n31 f32 n33 f34 i35 n36 n37 n38 n39 f40 i41 i42 i43 i44 i45 i46 i47 i48 i49 i50 n51 n52 f53 n54 f55 n56 m57 n58 m59 n60 f61 n62 f63 n64 f65 n66 f67 n68 k i7 f69
  | 0, _, _ => rfl
  | k + 1, i7, f69 => by
    rw [loopN_succ, rq10_3_0]
    simp only [lp10_3_0 K b0 b1 n2 f3 i4 i5 i6 i8 i9 i10 i11 i12 i13 i14 i15 n16 n17 i18 n19 b20 n21 i22 i23 i24 i25 i26 i27 i28 i29 i30 n31 f32 n33 f34 i35 n36 n37 n38 n39 f40 i41 i42 i43 i44 i45 i46 i47 i48 i49 i50 n51 n52 f53 n54 f55 n56 m57 n58 m59 n60 f61 n62 f63 n64 f65 n66 f67 n68 k]
    rfl
theorem ll10_0_0 {β : Type} {PP : β → Prop} (st : St) (K : Ex → St → R β) (h : All PP (Lr10_0_0 st K)) : All PP (loopN (exec { DCL10 with m := 0, nt := Try.f10.ntmps } (loopBody Try.f10 0) 0) (canonK { DCL10 with m := 0, nt := Try.f10.ntmps } 0) DCL10.N (mkSt Ll10_0_0 Lg10_0_0 st) K) := by
  have hs : mkSt Ll10_0_0 Lg10_0_0 st = ⟨[.junk, .junk, .junk, .junk, .ptr 0 [] 23, .junk, .junk, .ptr 1 [] 116, .junk, .ptr 2 [] 174, .junk, .junk, .junk, .junk, .junk, .junk, .junk, .junk, .junk, .view 50 (lV st.loc 19) (lF st.loc 19), .int .i64 (lI st.loc 20), .int .i64 (lI st.loc 21), .junk, .junk, .junk, .junk, .junk, .junk, .junk, .junk, .junk, .junk, .junk], [.box 23 (.nd 23 [.int .i64 (gI1 st.G 0 0), .int .i64 (gI1 st.G 0 1), .int .i64 (gI1 st.G 0 2)]), .box 116 (.nd 116 [.int .i64 (gI1 st.G 1 0), .nd 23 [.int .i64 (gI2 st.G 1 1 0), .int .i64 (gI2 st.G 1 1 1), .int .i64 (gI2 st.G 1 1 2)], .nd 26 [.int .i64 (gI2 st.G 1 2 0), .sub 3 0 (gN2 st.G 1 2 1), .sub 4 0 (gN2 st.G 1 2 2)], .int .i64 (gI1 st.G 1 3), .mp 5, .mp 6, .sub 7 0 (gN1 st.G 1 6), .ei (eiB (partV (regV (regAt st.G 1)) 7)) (eiT (partV (regV (regAt st.G 1)) 7)) (eiN (partV (regV (regAt st.G 1)) 7)), .nd 23 [.int .i64 (gI2 st.G 1 8 0), .int .i64 (gI2 st.G 1 8 1), .int .i64 (gI2 st.G 1 8 2)]]), .box 174 (.nd 174 [.int .i64 (gI1 st.G 2 0), .nd 23 [.int .i64 (gI2 st.G 2 1 0), .int .i64 (gI2 st.G 2 1 1), .int .i64 (gI2 st.G 2 1 2)], .nd 26 [.int .i64 (gI2 st.G 2 2 0), .view 3 (gV2 st.G 2 2 1) (gF2 st.G 2 2 1), .view 3 (gV2 st.G 2 2 2) (gF2 st.G 2 2 2)], .int .i64 (gI1 st.G 2 3), .sub 8 0 (gN1 st.G 2 4), .sub 9 0 (gN1 st.G 2 5), .sub 10 0 (gN1 st.G 2 6), .view 3 (gV1 st.G 2 7) (gF1 st.G 2 7), .int .i64 (gI1 st.G 2 8), .nd 23 [.int .i64 (gI2 st.G 2 9 0), .int .i64 (gI2 st.G 2 9 1), .int .i64 (gI2 st.G 2 9 2)]]), .row 3 (rN st.G 3) (rF st.G 3), .row 3 (rN st.G 4) (rF st.G 4), .map 113 (mapC (regAt st.G 5)) (mapL (regAt st.G 5)), .map 114 (mapC (regAt st.G 6)) (mapL (regAt st.G 6)), .row 3 (rN st.G 7) (rF st.G 7), .row 4 (rN st.G 8) (rF st.G 8), .row 40 (rN st.G 9) (rF st.G 9), .row 4 (rN st.G 10) (rF st.G 10)]⟩ := by kernel_rfl
  have hn : DCL10.N = NN := by kernel_rfl
  unfold Lr10_0_0 at h
  rw [NNo_eq] at h
  rw [hs, hn, lp10_0_0]
  exact h
theorem ll10_3_0 {β : Type} {PP : β → Prop} (st : St) (K : Ex → St → R β) (h : All PP (Lr10_3_0 st K)) : All PP (loopN (exec { DCL10 with m := 0, nt := Try.f10.ntmps } (loopBody Try.f10 3) 3) (canonK { DCL10 with m := 0, nt := Try.f10.ntmps } 3) DCL10.N (mkSt Ll10_3_0 Lg10_3_0 st) K) := by
  have hs : mkSt Ll10_3_0 Lg10_3_0 st = ⟨[.junk, .junk, .junk, .junk, .ptr 0 [] 23, .junk, .junk, .ptr 1 [] 116, .junk, .ptr 2 [] 174, .junk, .junk, .ptr 3 [] 40, .bool (lB st.loc 13), .bool (lB st.loc 14), .junk, .junk, .junk, .junk, .view 50 (lV st.loc 19) (lF st.loc 19), .int .i64 (lI st.loc 20), .int .i64 (lI st.loc 21), .junk, .junk, .junk, .junk, .junk, .junk, .junk, .int .i64 (lI st.loc 29), .int .i64 (lI st.loc 30), .junk, .junk], [.box 23 (.nd 23 [.int .i64 (gI1 st.G 0 0), .int .i64 (gI1 st.G 0 1), .int .i64 (gI1 st.G 0 2)]), .box 116 (.nd 116 [.int .i64 (gI1 st.G 1 0), .nd 23 [.int .i64 (gI2 st.G 1 1 0), .int .i64 (gI2 st.G 1 1 1), .int .i64 (gI2 st.G 1 1 2)], .nd 26 [.int .i64 (gI2 st.G 1 2 0), .sub 4 0 (gN2 st.G 1 2 1), .sub 5 0 (gN2 st.G 1 2 2)], .int .i64 (gI1 st.G 1 3), .mp 6, .mp 7, .sub 8 0 (gN1 st.G 1 6), .ei (eiB (partV (regV (regAt st.G 1)) 7)) (eiT (partV (regV (regAt st.G 1)) 7)) (eiN (partV (regV (regAt st.G 1)) 7)), .nd 23 [.int .i64 (gI2 st.G 1 8 0), .int .i64 (gI2 st.G 1 8 1), .int .i64 (gI2 st.G 1 8 2)]]), .box 174 (.nd 174 [.int .i64 (gI1 st.G 2 0), .nd 23 [.int .i64 (gI2 st.G 2 1 0), .int .i64 (gI2 st.G 2 1 1), .int .i64 (gI2 st.G 2 1 2)], .nd 26 [.int .i64 (gI2 st.G 2 2 0), .view 3 (gV2 st.G 2 2 1) (gF2 st.G 2 2 1), .view 3 (gV2 st.G 2 2 2) (gF2 st.G 2 2 2)], .int .i64 (gI1 st.G 2 3), .sub 9 0 (gN1 st.G 2 4), .sub 10 0 (gN1 st.G 2 5), .sub 11 0 (gN1 st.G 2 6), .view 3 (gV1 st.G 2 7) (gF1 st.G 2 7), .int .i64 (gI1 st.G 2 8), .nd 23 [.int .i64 (gI2 st.G 2 9 0), .int .i64 (gI2 st.G 2 9 1), .int .i64 (gI2 st.G 2 9 2)]]), .box 40 (.nd 40 [.nd 23 [.int .i64 (gI2 st.G 3 0 0), .int .i64 (gI2 st.G 3 0 1), .int .i64 (gI2 st.G 3 0 2)], .nd 23 [.int .i64 (gI2 st.G 3 1 0), .int .i64 (gI2 st.G 3 1 1), .int .i64 (gI2 st.G 3 1 2)], .sub 12 0 (gN1 st.G 3 2)]), .row 3 (rN st.G 4) (rF st.G 4), .row 3 (rN st.G 5) (rF st.G 5), .map 113 (mapC (regAt st.G 6)) (mapL (regAt st.G 6)), .map 114 (mapC (regAt st.G 7)) (mapL (regAt st.G 7)), .row 3 (rN st.G 8) (rF st.G 8), .row 4 (rN st.G 9) (rF st.G 9), .row 40 (rN st.G 10) (rF st.G 10), .row 4 (rN st.G 11) (rF st.G 11), .row 3 (rN st.G 12) (rF st.G 12)]⟩ := by kernel_rfl
  have hn : DCL10.N = NN := by kernel_rfl
  unfold Lr10_3_0 at h
  rw [NNo_eq] at h
  rw [hs, hn, lp10_3_0]
  exact h
theorem jl10_16_0 {β : Type} {PP : β → Prop} (st : St) (K : Ex → St → R β) (h : All PP (Kr10_16_0 st K)) : All PP (exec { DCL10 with m := 0, nt := Try.f10.ntmps } (joinBody Try.f10 16).1 (joinBody Try.f10 16).2 (mkSt Kl10_16_0 Kg10_16_0 st) (endK DCL10.keep [5, 9, 11, 64, 65, 66, 157, 158, 159, 160] K)) := by
  have hs : mkSt Kl10_16_0 Kg10_16_0 st = ⟨[.junk, .junk, .junk, .junk, .ptr 0 [] 23, .junk, .junk, .ptr 1 [] 116, .junk, .ptr 2 [] 174, .junk, .ptr 3 [] 50, .junk, .junk, .junk, .junk, .junk, .junk, .junk, .view 50 (lV st.loc 19) (lF st.loc 19), .int .i64 (lI st.loc 20), .int .i64 (lI st.loc 21), .junk, .junk, .junk, .junk, .junk, .junk, .junk, .junk, .junk, .junk, .junk], [.box 23 (.nd 23 [.int .i64 (gI1 st.G 0 0), .int .i64 (gI1 st.G 0 1), .int .i64 (gI1 st.G 0 2)]), .box 116 (.nd 116 [.int .i64 (gI1 st.G 1 0), .nd 23 [.int .i64 (gI2 st.G 1 1 0), .int .i64 (gI2 st.G 1 1 1), .int .i64 (gI2 st.G 1 1 2)], .nd 26 [.int .i64 (gI2 st.G 1 2 0), .sub 4 0 (gN2 st.G 1 2 1), .sub 5 0 (gN2 st.G 1 2 2)], .int .i64 (gI1 st.G 1 3), .mp 6, .mp 7, .sub 8 0 (gN1 st.G 1 6), .ei (eiB (partV (regV (regAt st.G 1)) 7)) (eiT (partV (regV (regAt st.G 1)) 7)) (eiN (partV (regV (regAt st.G 1)) 7)), .nd 23 [.int .i64 (gI2 st.G 1 8 0), .int .i64 (gI2 st.G 1 8 1), .int .i64 (gI2 st.G 1 8 2)]]), .box 174 (.nd 174 [.int .i64 (gI1 st.G 2 0), .nd 23 [.int .i64 (gI2 st.G 2 1 0), .int .i64 (gI2 st.G 2 1 1), .int .i64 (gI2 st.G 2 1 2)], .nd 26 [.int .i64 (gI2 st.G 2 2 0), .view 3 (gV2 st.G 2 2 1) (gF2 st.G 2 2 1), .view 3 (gV2 st.G 2 2 2) (gF2 st.G 2 2 2)], .int .i64 (gI1 st.G 2 3), .sub 9 0 (gN1 st.G 2 4), .sub 10 0 (gN1 st.G 2 5), .sub 11 0 (gN1 st.G 2 6), .view 3 (gV1 st.G 2 7) (gF1 st.G 2 7), .int .i64 (gI1 st.G 2 8), .nd 23 [.int .i64 (gI2 st.G 2 9 0), .int .i64 (gI2 st.G 2 9 1), .int .i64 (gI2 st.G 2 9 2)]]), .box 50 (.nd 50 [.int .i64 (gI1 st.G 3 0), .int .i64 (gI1 st.G 3 1), .bool (gB1 st.G 3 2), .nd 23 [.int .i64 (gI2 st.G 3 3 0), .int .i64 (gI2 st.G 3 3 1), .int .i64 (gI2 st.G 3 3 2)], .nd 23 [.int .i64 (gI2 st.G 3 4 0), .int .i64 (gI2 st.G 3 4 1), .int .i64 (gI2 st.G 3 4 2)], .nd 40 [.nd 23 [.int .i64 (intV (partV (partV (partV (regV (regAt st.G 3)) 5) 0) 0)), .int .i64 (intV (partV (partV (partV (regV (regAt st.G 3)) 5) 0) 1)), .int .i64 (intV (partV (partV (partV (regV (regAt st.G 3)) 5) 0) 2))], .nd 23 [.int .i64 (intV (partV (partV (partV (regV (regAt st.G 3)) 5) 1) 0)), .int .i64 (intV (partV (partV (partV (regV (regAt st.G 3)) 5) 1) 1)), .int .i64 (intV (partV (partV (partV (regV (regAt st.G 3)) 5) 1) 2))], .view 3 (gV2 st.G 3 5 2) (gF2 st.G 3 5 2)]]), .row 3 (rN st.G 4) (rF st.G 4), .row 3 (rN st.G 5) (rF st.G 5), .map 113 (mapC (regAt st.G 6)) (mapL (regAt st.G 6)), .map 114 (mapC (regAt st.G 7)) (mapL (regAt st.G 7)), .row 3 (rN st.G 8) (rF st.G 8), .row 4 (rN st.G 9) (rF st.G 9), .row 40 (rN st.G 10) (rF st.G 10), .row 4 (rN st.G 11) (rF st.G 11)]⟩ := by kernel_rfl
  unfold Kr10_16_0 at h
  rw [hs, jq10_16_0]
  exact h
theorem jl10_25_0 {β : Type} {PP : β → Prop} (st : St) (K : Ex → St → R β) (h : All PP (Kr10_25_0 st K)) : All PP (exec { DCL10 with m := 0, nt := Try.f10.ntmps } (joinBody Try.f10 25).1 (joinBody Try.f10 25).2 (mkSt Kl10_25_0 Kg10_25_0 st) (endK DCL10.keep [5, 9, 11, 64, 65, 66, 157, 158, 159, 160] K)) := by
  have hs : mkSt Kl10_25_0 Kg10_25_0 st = ⟨[.junk, .junk, .junk, .junk, .ptr 0 [] 23, .junk, .junk, .ptr 1 [] 116, .junk, .ptr 2 [] 174, .junk, .ptr 3 [] 50, .ptr 4 [] 40, .bool (lB st.loc 13), .bool (lB st.loc 14), .junk, .junk, .junk, .junk, .view 50 (lV st.loc 19) (lF st.loc 19), .int .i64 (lI st.loc 20), .int .i64 (lI st.loc 21), .junk, .junk, .junk, .junk, .junk, .junk, .junk, .junk, .junk, .junk, .junk], [.box 23 (.nd 23 [.int .i64 (gI1 st.G 0 0), .int .i64 (gI1 st.G 0 1), .int .i64 (gI1 st.G 0 2)]), .box 116 (.nd 116 [.int .i64 (gI1 st.G 1 0), .nd 23 [.int .i64 (gI2 st.G 1 1 0), .int .i64 (gI2 st.G 1 1 1), .int .i64 (gI2 st.G 1 1 2)], .nd 26 [.int .i64 (gI2 st.G 1 2 0), .sub 5 0 (gN2 st.G 1 2 1), .sub 6 0 (gN2 st.G 1 2 2)], .int .i64 (gI1 st.G 1 3), .mp 7, .mp 8, .sub 9 0 (gN1 st.G 1 6), .ei (eiB (partV (regV (regAt st.G 1)) 7)) (eiT (partV (regV (regAt st.G 1)) 7)) (eiN (partV (regV (regAt st.G 1)) 7)), .nd 23 [.int .i64 (gI2 st.G 1 8 0), .int .i64 (gI2 st.G 1 8 1), .int .i64 (gI2 st.G 1 8 2)]]), .box 174 (.nd 174 [.int .i64 (gI1 st.G 2 0), .nd 23 [.int .i64 (gI2 st.G 2 1 0), .int .i64 (gI2 st.G 2 1 1), .int .i64 (gI2 st.G 2 1 2)], .nd 26 [.int .i64 (gI2 st.G 2 2 0), .view 3 (gV2 st.G 2 2 1) (gF2 st.G 2 2 1), .view 3 (gV2 st.G 2 2 2) (gF2 st.G 2 2 2)], .int .i64 (gI1 st.G 2 3), .sub 10 0 (gN1 st.G 2 4), .sub 11 0 (gN1 st.G 2 5), .sub 12 0 (gN1 st.G 2 6), .view 3 (gV1 st.G 2 7) (gF1 st.G 2 7), .int .i64 (gI1 st.G 2 8), .nd 23 [.int .i64 (gI2 st.G 2 9 0), .int .i64 (gI2 st.G 2 9 1), .int .i64 (gI2 st.G 2 9 2)]]), .box 50 (.nd 50 [.int .i64 (gI1 st.G 3 0), .int .i64 (gI1 st.G 3 1), .bool (gB1 st.G 3 2), .nd 23 [.int .i64 (gI2 st.G 3 3 0), .int .i64 (gI2 st.G 3 3 1), .int .i64 (gI2 st.G 3 3 2)], .nd 23 [.int .i64 (gI2 st.G 3 4 0), .int .i64 (gI2 st.G 3 4 1), .int .i64 (gI2 st.G 3 4 2)], .nd 40 [.nd 23 [.int .i64 (intV (partV (partV (partV (regV (regAt st.G 3)) 5) 0) 0)), .int .i64 (intV (partV (partV (partV (regV (regAt st.G 3)) 5) 0) 1)), .int .i64 (intV (partV (partV (partV (regV (regAt st.G 3)) 5) 0) 2))], .nd 23 [.int .i64 (intV (partV (partV (partV (regV (regAt st.G 3)) 5) 1) 0)), .int .i64 (intV (partV (partV (partV (regV (regAt st.G 3)) 5) 1) 1)), .int .i64 (intV (partV (partV (partV (regV (regAt st.G 3)) 5) 1) 2))], .view 3 (gV2 st.G 3 5 2) (gF2 st.G 3 5 2)]]), .box 40 (.nd 40 [.nd 23 [.int .i64 (gI2 st.G 4 0 0), .int .i64 (gI2 st.G 4 0 1), .int .i64 (gI2 st.G 4 0 2)], .nd 23 [.int .i64 (gI2 st.G 4 1 0), .int .i64 (gI2 st.G 4 1 1), .int .i64 (gI2 st.G 4 1 2)], .sub 13 0 (gN1 st.G 4 2)]), .row 3 (rN st.G 5) (rF st.G 5), .row 3 (rN st.G 6) (rF st.G 6), .map 113 (mapC (regAt st.G 7)) (mapL (regAt st.G 7)), .map 114 (mapC (regAt st.G 8)) (mapL (regAt st.G 8)), .row 3 (rN st.G 9) (rF st.G 9), .row 4 (rN st.G 10) (rF st.G 10), .row 40 (rN st.G 11) (rF st.G 11), .row 4 (rN st.G 12) (rF st.G 12), .row 3 (rN st.G 13) (rF st.G 13)]⟩ := by kernel_rfl
  unfold Kr10_25_0 at h
  rw [hs, jq10_25_0]
  exact h
theorem jl10_32_0 {β : Type} {PP : β → Prop} (st : St) (K : Ex → St → R β) (h : All PP (Kr10_32_0 st K)) : All PP (exec { DCL10 with m := 0, nt := Try.f10.ntmps } (joinBody Try.f10 32).1 (joinBody Try.f10 32).2 (mkSt Kl10_32_0 Kg10_32_0 st) (endK DCL10.keep [5, 9, 11, 64, 65, 66, 157, 158, 159, 160] K)) := by
  have hs : mkSt Kl10_32_0 Kg10_32_0 st = ⟨[.junk, .junk, .junk, .junk, .ptr 0 [] 23, .junk, .junk, .ptr 1 [] 116, .junk, .ptr 2 [] 174, .junk, .junk, .junk, .bool (lB st.loc 13), .bool (lB st.loc 14), .junk, .junk, .junk, .junk, .view 50 (lV st.loc 19) (lF st.loc 19), .int .i64 (lI st.loc 20), .int .i64 (lI st.loc 21), .junk, .junk, .junk, .junk, .junk, .junk, .junk, .junk, .junk, .junk, .junk], [.box 23 (.nd 23 [.int .i64 (gI1 st.G 0 0), .int .i64 (gI1 st.G 0 1), .int .i64 (gI1 st.G 0 2)]), .box 116 (.nd 116 [.int .i64 (gI1 st.G 1 0), .nd 23 [.int .i64 (gI2 st.G 1 1 0), .int .i64 (gI2 st.G 1 1 1), .int .i64 (gI2 st.G 1 1 2)], .nd 26 [.int .i64 (gI2 st.G 1 2 0), .sub 3 0 (gN2 st.G 1 2 1), .sub 4 0 (gN2 st.G 1 2 2)], .int .i64 (gI1 st.G 1 3), .mp 5, .mp 6, .sub 7 0 (gN1 st.G 1 6), .ei (eiB (partV (regV (regAt st.G 1)) 7)) (eiT (partV (regV (regAt st.G 1)) 7)) (eiN (partV (regV (regAt st.G 1)) 7)), .nd 23 [.int .i64 (gI2 st.G 1 8 0), .int .i64 (gI2 st.G 1 8 1), .int .i64 (gI2 st.G 1 8 2)]]), .box 174 (.nd 174 [.int .i64 (gI1 st.G 2 0), .nd 23 [.int .i64 (gI2 st.G 2 1 0), .int .i64 (gI2 st.G 2 1 1), .int .i64 (gI2 st.G 2 1 2)], .nd 26 [.int .i64 (gI2 st.G 2 2 0), .view 3 (gV2 st.G 2 2 1) (gF2 st.G 2 2 1), .view 3 (gV2 st.G 2 2 2) (gF2 st.G 2 2 2)], .int .i64 (gI1 st.G 2 3), .sub 8 0 (gN1 st.G 2 4), .sub 9 0 (gN1 st.G 2 5), .sub 10 0 (gN1 st.G 2 6), .view 3 (gV1 st.G 2 7) (gF1 st.G 2 7), .int .i64 (gI1 st.G 2 8), .nd 23 [.int .i64 (gI2 st.G 2 9 0), .int .i64 (gI2 st.G 2 9 1), .int .i64 (gI2 st.G 2 9 2)]]), .row 3 (rN st.G 3) (rF st.G 3), .row 3 (rN st.G 4) (rF st.G 4), .map 113 (mapC (regAt st.G 5)) (mapL (regAt st.G 5)), .map 114 (mapC (regAt st.G 6)) (mapL (regAt st.G 6)), .row 3 (rN st.G 7) (rF st.G 7), .row 4 (rN st.G 8) (rF st.G 8), .row 40 (rN st.G 9) (rF st.G 9), .row 4 (rN st.G 10) (rF st.G 10)]⟩ := by kernel_rfl
  unfold Kr10_32_0 at h
  rw [hs, jq10_32_0]
  exact h
theorem jo10_16 : JoinTold DCL10 Try.f10.ntmps (joinBody Try.f10 16).1 (joinBody Try.f10 16).2 [5, 9, 11, 64, 65, 66, 157, 158, 159, 160] (loopE 0 Kl10_16_0 Kg10_16_0 Kr10_16_0) := by
  exact @joinE_told DCL10 Try.f10.ntmps _ _ _ 0 Kl10_16_0 Kg10_16_0 @Kr10_16_0 @jl10_16_0
theorem j110_16 : oneJoin Try.f10 16 = true := by kernel_rfl
theorem jo10_25 : JoinTold DCL10 Try.f10.ntmps (joinBody Try.f10 25).1 (joinBody Try.f10 25).2 [5, 9, 11, 64, 65, 66, 157, 158, 159, 160] (loopE 0 Kl10_25_0 Kg10_25_0 Kr10_25_0) := by
  exact @joinE_told DCL10 Try.f10.ntmps _ _ _ 0 Kl10_25_0 Kg10_25_0 @Kr10_25_0 @jl10_25_0
theorem j110_25 : oneJoin Try.f10 25 = true := by kernel_rfl
theorem jo10_32 : JoinTold DCL10 Try.f10.ntmps (joinBody Try.f10 32).1 (joinBody Try.f10 32).2 [5, 9, 11, 64, 65, 66, 157, 158, 159, 160] (loopE 0 Kl10_32_0 Kg10_32_0 Kr10_32_0) := by
  exact @joinE_told DCL10 Try.f10.ntmps _ _ _ 0 Kl10_32_0 Kg10_32_0 @Kr10_32_0 @jl10_32_0
theorem j110_32 : oneJoin Try.f10 32 = true := by kernel_rfl
theorem hjD10 : JoinsL DCL10 Try.f10.ntmps (joinsIn (codeOf Try.f10) 0) := @joins_all DCL10 Try.f10.ntmps Try.f10 (@joinsB_cons DCL10 Try.f10.ntmps Try.f10 16 ([5, 9, 11, 14, 64, 65, 66, 157, 158, 159, 160], [5, 9, 11, 64, 65, 66, 157, 158, 159, 160]) (loopE 0 Kl10_16_0 Kg10_16_0 Kr10_16_0) _ j110_16 @jo10_16 (@joinsB_cons DCL10 Try.f10.ntmps Try.f10 25 ([5, 9, 11, 14, 15, 16, 17, 64, 65, 66, 157, 158, 159, 160], [5, 9, 11, 64, 65, 66, 157, 158, 159, 160]) (loopE 0 Kl10_25_0 Kg10_25_0 Kr10_25_0) _ j110_25 @jo10_25 (@joinsB_cons DCL10 Try.f10.ntmps Try.f10 32 ([5, 9, 11, 16, 17, 64, 65, 66, 157, 158, 159, 160], [5, 9, 11, 64, 65, 66, 157, 158, 159, 160]) (loopE 0 Kl10_32_0 Kg10_32_0 Kr10_32_0) _ j110_32 @jo10_32 (@joinsB_nil DCL10 Try.f10.ntmps Try.f10))))
theorem hlD10 : LoopsL DCL10 Try.f10.ntmps (loopsIn (codeOf Try.f10) 0) := by
  have e : loopsIn (codeOf Try.f10) 0 = [(0, loopBody Try.f10 0), (3, loopBody Try.f10 3)] := by kernel_rfl
  rw [e]
  exact (loops_two (loopOK_of (by kernel_rfl) (loopE_told (c := DCL10) (nt := Try.f10.ntmps) (k := 0) (b := loopBody Try.f10 0) (m0 := 0) (l := Ll10_0_0) (g := Lg10_0_0) (run := @Lr10_0_0) (h := @ll10_0_0))) (loops_two (loopOK_of (by kernel_rfl) (loopE_told (c := DCL10) (nt := Try.f10.ntmps) (k := 3) (b := loopBody Try.f10 3) (m0 := 0) (l := Ll10_3_0) (g := Lg10_3_0) (run := @Lr10_3_0) (h := @ll10_3_0))) loops_none'))
theorem okDB10 : EntryOK Try.prog T 10 DB10 := @ok_of Try.prog T tabOK mixedOK DCL10 (by kernel_rfl) (fnsL_cons ok11 (fnsL_cons okD13 (fnsL_cons okD14 (fnsL_cons okD15 (fnsL_cons okD20 (fnsL_cons okD25 (fnsL_cons okD42 (fnsL_cons okD43 (fnsL_cons okD44 (fnsL_cons okD45 (fnsL_cons okD46 (fnsL_cons okD47 fnsL_nil)))))))))))) 10 Try.f10 Try.func10 (by kernel_rfl) (by kernel_rfl) (by kernel_rfl) hlD10 [] hjD10
theorem ff10_0 {β : Type} {PP : β → Prop} (a : List V) (G : List Reg) (K : V → List Reg → R β) (h : All PP (Sr10_0 a G K)) : All PP (DB10.run (mkVs Sl10_0 (locAt a) 0) (mkG Sg10_0 (regAt G) 0) K) := by
  have h1 : DB10.run (mkVs Sl10_0 (locAt a) 0) (mkG Sg10_0 (regAt G) 0) K = DB10.run [.int .i64 (lI a 0), .nd 23 [.int .i64 (lI1 a 1 0), .int .i64 (lI1 a 1 1), .int .i64 (lI1 a 1 2)], .nd 26 [.int .i64 (lI1 a 2 0), .view 3 (lV1 a 2 1) (lF1 a 2 1), .view 3 (lV1 a 2 2) (lF1 a 2 2)], .view 50 (lV a 3) (lF a 3)] [] K := by kernel_rfl
  unfold Sr10_0 at h
  rw [h1, fq10_0]
  exact h
theorem okD10 : EntryOK Try.prog T 10 DS10 := (@entryE_told Try.prog T 10 [] DB10 DB10 okDB10 okDB10 Sl10_0 Sg10_0 @Sr10_0 @ff10_0)
theorem okDB3 : EntryOK Try.prog T 3 DB3 := @ok_of Try.prog T tabOK mixedOK DCL3 (by kernel_rfl) (fnsL_cons okD10 fnsL_nil) 3 Try.f3 Try.func3 (by kernel_rfl) (by kernel_rfl) (by kernel_rfl) (loops_none (by kernel_rfl)) [] (joins_none (by kernel_rfl))
theorem ff3_0 {β : Type} {PP : β → Prop} (a : List V) (G : List Reg) (K : V → List Reg → R β) (h : All PP (Sr3_0 a G K)) : All PP (DB3.run (mkVs Sl3_0 (locAt a) 0) (mkG Sg3_0 (regAt G) 0) K) := by
  have h1 : DB3.run (mkVs Sl3_0 (locAt a) 0) (mkG Sg3_0 (regAt G) 0) K = DB3.run [.nd 29 [.int .i64 (lI1 a 0 0), .nd 23 [.int .i64 (intV (partV (partV (locAt a 0) 1) 0)), .int .i64 (intV (partV (partV (locAt a 0) 1) 1)), .int .i64 (intV (partV (partV (locAt a 0) 1) 2))], .nd 26 [.int .i64 (intV (partV (partV (locAt a 0) 2) 0)), .view 3 (viewN (partV (partV (locAt a 0) 2) 1)) (viewF (partV (partV (locAt a 0) 2) 1)), .view 3 (viewN (partV (partV (locAt a 0) 2) 2)) (viewF (partV (partV (locAt a 0) 2) 2))], .view 50 (lV1 a 0 3) (lF1 a 0 3)]] [] K := by kernel_rfl
  unfold Sr3_0 at h
  rw [h1, fq3_0]
  exact h
theorem okD3 : EntryOK Try.prog T 3 DS3 := (@entryE_told Try.prog T 3 [] DB3 DB3 okDB3 okDB3 Sl3_0 Sg3_0 @Sr3_0 @ff3_0)
end Go.Proofs.Ytcafnbjmebichaa
