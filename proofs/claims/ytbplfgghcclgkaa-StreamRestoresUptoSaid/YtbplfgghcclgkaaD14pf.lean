/- Loops and functions do what their texts say. No conditions. -/
import Derived.Test.YtbplfgghcclgkaaD14eq
import Derived.Test.YtbplfgghcclgkaaVmk
open Go Go.VM
namespace Go.Proofs.Ytbplfgghcclgkaa
set_option maxRecDepth 100000
theorem entryE_told {P : Program} {T : Tab} {n : Nat} {own : List Nat} {B alt : Entry} (h0 : EntryOK P T n B) (ha : EntryOK P T n alt) {l : List Sh} {g : List RSh} {run : {β : Type} → List V → List Reg → (V → List Reg → R β) → R β}
    (h : ∀ {β : Type} {PP : β → Prop} (args : List V) (G : List Reg) (K : V → List Reg → R β), All PP (run args G K) → All PP (B.run (mkVs l (locAt args) 0) (mkG g (regAt G) 0) K)) : EntryOK P T n (entryE own l g run alt) := by
  intro β PP X args xs K hX hA hr Q hQ
  have hr2 : All PP (match shVs l args && shG g X.G with | true => run args X.G K | false => alt.run args X.G K) := hr
  cases hs : shVs l args && shG g X.G with
  | false => rw [hs] at hr2; exact ha hX hA hr2 Q hQ
  | true =>
    rw [hs] at hr2
    simp only [Bool.and_eq_true] at hs
    have ht := h args X.G K hr2
    rw [mkVs_eq hs.1, mkG_eq hs.2] at ht
    exact h0 hX hA ht Q hQ
theorem loops_none' {c : Ctx} {nt : Nat} : LoopsL c nt [] := by
  intro q hq
  cases hq
theorem okD23 : EntryOK Try.prog T 23 DR23 := @ok_of Try.prog T tabOK mixedOK DCL23 (by kernel_rfl) fnsL_nil 23 Try.f23 Try.func23 (by kernel_rfl) (by kernel_rfl) (by kernel_rfl) (loops_none (by kernel_rfl)) [] (joins_none (by kernel_rfl))
theorem lp28_0_0 {β : Type} (K : Ex → St → R β) (n1 : Nat) (f2 : (Nat → V)) (i3 : Int) : ∀ (k : Nat) (i0 : Int) (i4 : Int), loopN (exec { DCL28 with m := 0, nt := Try.f28.ntmps } (loopBody Try.f28 0) 0) (canonK { DCL28 with m := 0, nt := Try.f28.ntmps } 0) k ⟨[.junk, .junk, .junk, .int .i64 i0, .junk, .view 79 n1 f2, .int .i64 i3, .int .i64 i4, .junk], []⟩ K = Ls28_0_0 K n1 f2 i3 k i0 i4
  | 0, _, _ => rfl
  | k + 1, i0, i4 => by
    rw [loopN_succ, rq28_0_0]
    simp only [lp28_0_0 K n1 f2 i3 k]
    rfl
theorem ll28_0_0 {β : Type} {PP : β → Prop} (st : St) (K : Ex → St → R β) (h : All PP (Lr28_0_0 st K)) : All PP (loopN (exec { DCL28 with m := 0, nt := Try.f28.ntmps } (loopBody Try.f28 0) 0) (canonK { DCL28 with m := 0, nt := Try.f28.ntmps } 0) DCL28.N (mkSt Ll28_0_0 Lg28_0_0 st) K) := by
  have hs : mkSt Ll28_0_0 Lg28_0_0 st = ⟨[.junk, .junk, .junk, .int .i64 (lI st.loc 3), .junk, .view 79 (lV st.loc 5) (lF st.loc 5), .int .i64 (lI st.loc 6), .int .i64 (lI st.loc 7), .junk], []⟩ := by kernel_rfl
  have hn : DCL28.N = NN := by kernel_rfl
  unfold Lr28_0_0 at h
  rw [NNo_eq] at h
  rw [hs, hn, lp28_0_0]
  exact h
theorem hlD28 : LoopsL DCL28 Try.f28.ntmps (loopsIn (codeOf Try.f28) 0) := by
  have e : loopsIn (codeOf Try.f28) 0 = [(0, loopBody Try.f28 0)] := by kernel_rfl
  rw [e]
  exact (loops_two (loopOK_of (by kernel_rfl) (loopE_told (c := DCL28) (nt := Try.f28.ntmps) (k := 0) (b := loopBody Try.f28 0) (m0 := 0) (l := Ll28_0_0) (g := Lg28_0_0) (run := @Lr28_0_0) (h := @ll28_0_0))) loops_none')
theorem okDB28 : EntryOK Try.prog T 28 DB28 := @ok_of Try.prog T tabOK mixedOK DCL28 (by kernel_rfl) fnsL_nil 28 Try.f28 Try.func28 (by kernel_rfl) (by kernel_rfl) (by kernel_rfl) hlD28 [] (joins_none (by kernel_rfl))
theorem ff28_0 {β : Type} {PP : β → Prop} (a : List V) (G : List Reg) (K : V → List Reg → R β) (h : All PP (Sr28_0 a G K)) : All PP (DB28.run (mkVs Sl28_0 (locAt a) 0) (mkG Sg28_0 (regAt G) 0) K) := by
  have h1 : DB28.run (mkVs Sl28_0 (locAt a) 0) (mkG Sg28_0 (regAt G) 0) K = DB28.run [.nd 73 [.view 3 (lV1 a 0 0) (lF1 a 0 0), .int .i64 (lI1 a 0 1), .int .i64 (lI1 a 0 2), .view 79 (lV1 a 0 3) (lF1 a 0 3)]] [] K := by kernel_rfl
  unfold Sr28_0 at h
  rw [h1, fq28_0]
  exact h
theorem okD28 : EntryOK Try.prog T 28 DS28 := (@entryE_told Try.prog T 28 [] DB28 DB28 okDB28 okDB28 Sl28_0 Sg28_0 @Sr28_0 @ff28_0)
theorem lp68_0_0 {β : Type} (K : Ex → St → R β) (n0 : Nat) (f1 : (Nat → V)) : ∀ (k : Nat) (i2 : Int) (i3 : Int), loopN (exec { DCL68 with m := 0, nt := Try.f68.ntmps } (loopBody Try.f68 0) 0) (canonK { DCL68 with m := 0, nt := Try.f68.ntmps } 0) k ⟨[.view 3 n0 f1, .junk, .int .i64 i2, .int .i64 i3, .junk, .junk], []⟩ K = Ls68_0_0 K n0 f1 k i2 i3
  | 0, _, _ => rfl
  | k + 1, i2, i3 => by
    rw [loopN_succ, rq68_0_0]
    simp only [lp68_0_0 K n0 f1 k]
    rfl
theorem ll68_0_0 {β : Type} {PP : β → Prop} (st : St) (K : Ex → St → R β) (h : All PP (Lr68_0_0 st K)) : All PP (loopN (exec { DCL68 with m := 0, nt := Try.f68.ntmps } (loopBody Try.f68 0) 0) (canonK { DCL68 with m := 0, nt := Try.f68.ntmps } 0) DCL68.N (mkSt Ll68_0_0 Lg68_0_0 st) K) := by
  have hs : mkSt Ll68_0_0 Lg68_0_0 st = ⟨[.view 3 (lV st.loc 0) (lF st.loc 0), .junk, .int .i64 (lI st.loc 2), .int .i64 (lI st.loc 3), .junk, .junk], []⟩ := by kernel_rfl
  have hn : DCL68.N = NN := by kernel_rfl
  unfold Lr68_0_0 at h
  rw [NNo_eq] at h
  rw [hs, hn, lp68_0_0]
  exact h
theorem hlD68 : LoopsL DCL68 Try.f68.ntmps (loopsIn (codeOf Try.f68) 0) := by
  have e : loopsIn (codeOf Try.f68) 0 = [(0, loopBody Try.f68 0)] := by kernel_rfl
  rw [e]
  exact (loops_two (loopOK_of (by kernel_rfl) (loopE_told (c := DCL68) (nt := Try.f68.ntmps) (k := 0) (b := loopBody Try.f68 0) (m0 := 0) (l := Ll68_0_0) (g := Lg68_0_0) (run := @Lr68_0_0) (h := @ll68_0_0))) loops_none')
theorem okDB68 : EntryOK Try.prog T 68 DB68 := @ok_of Try.prog T tabOK mixedOK DCL68 (by kernel_rfl) fnsL_nil 68 Try.f68 Try.func68 (by kernel_rfl) (by kernel_rfl) (by kernel_rfl) hlD68 [] (joins_none (by kernel_rfl))
theorem ff68_0 {β : Type} {PP : β → Prop} (a : List V) (G : List Reg) (K : V → List Reg → R β) (h : All PP (Sr68_0 a G K)) : All PP (DB68.run (mkVs Sl68_0 (locAt a) 0) (mkG Sg68_0 (regAt G) 0) K) := by
  have h1 : DB68.run (mkVs Sl68_0 (locAt a) 0) (mkG Sg68_0 (regAt G) 0) K = DB68.run [.view 3 (lV a 0) (lF a 0)] [] K := by kernel_rfl
  unfold Sr68_0 at h
  rw [h1, fq68_0]
  exact h
theorem okD68 : EntryOK Try.prog T 68 DS68 := (@entryE_told Try.prog T 68 [] DB68 DB68 okDB68 okDB68 Sl68_0 Sg68_0 @Sr68_0 @ff68_0)
theorem okD70 : EntryOK Try.prog T 70 DR70 := @ok_of Try.prog T tabOK mixedOK DCL70 (by kernel_rfl) fnsL_nil 70 Try.f70 Try.func70 (by kernel_rfl) (by kernel_rfl) (by kernel_rfl) (loops_none (by kernel_rfl)) [] (joins_none (by kernel_rfl))
theorem okD71 : EntryOK Try.prog T 71 DR71 := @ok_of Try.prog T tabOK mixedOK DCL71 (by kernel_rfl) fnsL_nil 71 Try.f71 Try.func71 (by kernel_rfl) (by kernel_rfl) (by kernel_rfl) (loops_none (by kernel_rfl)) [] (joins_none (by kernel_rfl))
theorem lp29_0_0 {β : Type} (K : Ex → St → R β) (i0 : Int) (n2 : Nat) (i3 : Int) (i4 : Int) (i5 : Int) (i6 : Int) (i7 : Int) (i8 : Int) (i9 : Int) (i10 : Int) (n11 : Nat) (n13 : Nat) (f14 : (Nat → V)) (n15 : Nat) (f16 : (Nat → V)) : ∀ (k : Nat) (i1 : Int) (n12 : Nat) (n17 : Nat) (f18 : (Nat → V)), loopN (exec { DCL29 with m := 0, nt := Try.f29.ntmps } (loopBody Try.f29 0) 0) (canonK { DCL29 with m := 0, nt := Try.f29.ntmps } 0) k ⟨[.junk, .junk, .junk, .junk, .junk, .ptr 0 [] 150, .junk, .int .i64 i0, .int .i64 i1, .junk], [.box 150 (.nd 150 [.nd 148 [.sub 1 0 n2, .int .i64 i3], .int .i64 i4, .int .i64 i5, .nd 38 [.int .i64 i6, .int .i64 i7, .int .i64 i8, .int .i64 i9, .int .i64 i10], .sub 2 0 n11, .sub 3 0 n12]), .row 3 n13 f14, .row 38 n15 f16, .row 53 n17 f18]⟩ K = Ls29_0_0 K i0 n2 i3 i4 i5 i6 i7 i8 i9 i10 n11 n13 f14 n15 f16 k i1 n12 n17 f18
  | 0, _, _, _, _ => rfl
  | k + 1, i1, n12, n17, f18 => by
    rw [loopN_succ, rq29_0_0]
    simp only [lp29_0_0 K i0 n2 i3 i4 i5 i6 i7 i8 i9 i10 n11 n13 f14 n15 f16 k]
    rfl
theorem ll29_0_0 {β : Type} {PP : β → Prop} (st : St) (K : Ex → St → R β) (h : All PP (Lr29_0_0 st K)) : All PP (loopN (exec { DCL29 with m := 0, nt := Try.f29.ntmps } (loopBody Try.f29 0) 0) (canonK { DCL29 with m := 0, nt := Try.f29.ntmps } 0) DCL29.N (mkSt Ll29_0_0 Lg29_0_0 st) K) := by
  have hs : mkSt Ll29_0_0 Lg29_0_0 st = ⟨[.junk, .junk, .junk, .junk, .junk, .ptr 0 [] 150, .junk, .int .i64 (lI st.loc 7), .int .i64 (lI st.loc 8), .junk], [.box 150 (.nd 150 [.nd 148 [.sub 1 0 (gN2 st.G 0 0 0), .int .i64 (gI2 st.G 0 0 1)], .int .i64 (gI1 st.G 0 1), .int .i64 (gI1 st.G 0 2), .nd 38 [.int .i64 (gI2 st.G 0 3 0), .int .i64 (gI2 st.G 0 3 1), .int .i64 (gI2 st.G 0 3 2), .int .i64 (gI2 st.G 0 3 3), .int .i64 (gI2 st.G 0 3 4)], .sub 2 0 (gN1 st.G 0 4), .sub 3 0 (gN1 st.G 0 5)]), .row 3 (rN st.G 1) (rF st.G 1), .row 38 (rN st.G 2) (rF st.G 2), .row 53 (rN st.G 3) (rF st.G 3)]⟩ := by kernel_rfl
  have hn : DCL29.N = NN := by kernel_rfl
  unfold Lr29_0_0 at h
  rw [NNo_eq] at h
  rw [hs, hn, lp29_0_0]
  exact h
theorem hlD29 : LoopsL DCL29 Try.f29.ntmps (loopsIn (codeOf Try.f29) 0) := by
  have e : loopsIn (codeOf Try.f29) 0 = [(0, loopBody Try.f29 0)] := by kernel_rfl
  rw [e]
  exact (loops_two (loopOK_of (by kernel_rfl) (loopE_told (c := DCL29) (nt := Try.f29.ntmps) (k := 0) (b := loopBody Try.f29 0) (m0 := 0) (l := Ll29_0_0) (g := Lg29_0_0) (run := @Lr29_0_0) (h := @ll29_0_0))) loops_none')
theorem okDB29 : EntryOK Try.prog T 29 DB29 := @ok_of Try.prog T tabOK mixedOK DCL29 (by kernel_rfl) (fnsL_cons okD68 (fnsL_cons ok69 (fnsL_cons okD70 (fnsL_cons okD71 fnsL_nil)))) 29 Try.f29 Try.func29 (by kernel_rfl) (by kernel_rfl) (by kernel_rfl) hlD29 [] (joins_none (by kernel_rfl))
theorem ff29_0 {β : Type} {PP : β → Prop} (a : List V) (G : List Reg) (K : V → List Reg → R β) (h : All PP (Sr29_0 a G K)) : All PP (DB29.run (mkVs Sl29_0 (locAt a) 0) (mkG Sg29_0 (regAt G) 0) K) := by
  have h1 : DB29.run (mkVs Sl29_0 (locAt a) 0) (mkG Sg29_0 (regAt G) 0) K = DB29.run [.view 3 (lV a 0) (lF a 0), .int .i64 (lI a 1), .int .i64 (lI a 2)] [] K := by kernel_rfl
  unfold Sr29_0 at h
  rw [h1, fq29_0]
  exact h
theorem okD29 : EntryOK Try.prog T 29 DS29 := (@entryE_told Try.prog T 29 [] DB29 DB29 okDB29 okDB29 Sl29_0 Sg29_0 @Sr29_0 @ff29_0)
theorem okD32 : EntryOK Try.prog T 32 DR32 := @ok_of Try.prog T tabOK mixedOK DCL32 (by kernel_rfl) (fnsL_cons ok73 fnsL_nil) 32 Try.f32 Try.func32 (by kernel_rfl) (by kernel_rfl) (by kernel_rfl) (loops_none (by kernel_rfl)) [] (joins_none (by kernel_rfl))
theorem lp34_0_0 {β : Type} (K : Ex → St → R β) (n0 : Nat) (f1 : (Nat → V)) (n2 : Nat) (f3 : (Nat → V)) (i4 : Int) : ∀ (k : Nat) (i5 : Int), loopN (exec { DCL34 with m := 0, nt := Try.f34.ntmps } (loopBody Try.f34 0) 0) (canonK { DCL34 with m := 0, nt := Try.f34.ntmps } 0) k ⟨[.view 38 n0 f1, .view 38 n2 f3, .junk, .junk, .junk, .int .i64 i4, .int .i64 i5, .junk, .junk], []⟩ K = Ls34_0_0 K n0 f1 n2 f3 i4 k i5
  | 0, _ => rfl
  | k + 1, i5 => by
    rw [loopN_succ, rq34_0_0]
    simp only [lp34_0_0 K n0 f1 n2 f3 i4 k]
    rfl
theorem ll34_0_0 {β : Type} {PP : β → Prop} (st : St) (K : Ex → St → R β) (h : All PP (Lr34_0_0 st K)) : All PP (loopN (exec { DCL34 with m := 0, nt := Try.f34.ntmps } (loopBody Try.f34 0) 0) (canonK { DCL34 with m := 0, nt := Try.f34.ntmps } 0) DCL34.N (mkSt Ll34_0_0 Lg34_0_0 st) K) := by
  have hs : mkSt Ll34_0_0 Lg34_0_0 st = ⟨[.view 38 (lV st.loc 0) (lF st.loc 0), .view 38 (lV st.loc 1) (lF st.loc 1), .junk, .junk, .junk, .int .i64 (lI st.loc 5), .int .i64 (lI st.loc 6), .junk, .junk], []⟩ := by kernel_rfl
  have hn : DCL34.N = NN := by kernel_rfl
  unfold Lr34_0_0 at h
  rw [NNo_eq] at h
  rw [hs, hn, lp34_0_0]
  exact h
theorem hlD34 : LoopsL DCL34 Try.f34.ntmps (loopsIn (codeOf Try.f34) 0) := by
  have e : loopsIn (codeOf Try.f34) 0 = [(0, loopBody Try.f34 0)] := by kernel_rfl
  rw [e]
  exact (loops_two (loopOK_of (by kernel_rfl) (loopE_told (c := DCL34) (nt := Try.f34.ntmps) (k := 0) (b := loopBody Try.f34 0) (m0 := 0) (l := Ll34_0_0) (g := Lg34_0_0) (run := @Lr34_0_0) (h := @ll34_0_0))) loops_none')
theorem okDB34 : EntryOK Try.prog T 34 DB34 := @ok_of Try.prog T tabOK mixedOK DCL34 (by kernel_rfl) fnsL_nil 34 Try.f34 Try.func34 (by kernel_rfl) (by kernel_rfl) (by kernel_rfl) hlD34 [] (joins_none (by kernel_rfl))
theorem ff34_0 {β : Type} {PP : β → Prop} (a : List V) (G : List Reg) (K : V → List Reg → R β) (h : All PP (Sr34_0 a G K)) : All PP (DB34.run (mkVs Sl34_0 (locAt a) 0) (mkG Sg34_0 (regAt G) 0) K) := by
  have h1 : DB34.run (mkVs Sl34_0 (locAt a) 0) (mkG Sg34_0 (regAt G) 0) K = DB34.run [.view 38 (lV a 0) (lF a 0), .view 38 (lV a 1) (lF a 1)] [] K := by kernel_rfl
  unfold Sr34_0 at h
  rw [h1, fq34_0]
  exact h
theorem okD34 : EntryOK Try.prog T 34 DS34 := (@entryE_told Try.prog T 34 [] DB34 DB34 okDB34 okDB34 Sl34_0 Sg34_0 @Sr34_0 @ff34_0)
theorem okD37 : EntryOK Try.prog T 37 DR37 := @ok_of Try.prog T tabOK mixedOK DCL37 (by kernel_rfl) fnsL_nil 37 Try.f37 Try.func37 (by kernel_rfl) (by kernel_rfl) (by kernel_rfl) (loops_none (by kernel_rfl)) [] (joins_none (by kernel_rfl))
theorem okD39 : EntryOK Try.prog T 39 DR39 := @ok_of Try.prog T tabOK mixedOK DCL39 (by kernel_rfl) fnsL_nil 39 Try.f39 Try.func39 (by kernel_rfl) (by kernel_rfl) (by kernel_rfl) (loops_none (by kernel_rfl)) [] (joins_none (by kernel_rfl))
theorem okD65 : EntryOK Try.prog T 65 DR65 := @ok_of Try.prog T tabOK mixedOK DCL65 (by kernel_rfl) fnsL_nil 65 Try.f65 Try.func65 (by kernel_rfl) (by kernel_rfl) (by kernel_rfl) (loops_none (by kernel_rfl)) [] (joins_none (by kernel_rfl))
theorem lp41_0_0 {β : Type} (K : Ex → St → R β) (n0 : Nat) (f1 : (Nat → V)) (i2 : Int) (i3 : Int) (i6 : Int) (i7 : Int) (i8 : Int) (n9 : Nat) (n10 : Nat) (n14 : Nat) (f15 : (Nat → V)) (n16 : Nat) (f17 : (Nat → V)) : ∀ (k : Nat) (i4 : Int) (n5 : Nat) (n11 : Nat) (n12 : Nat) (f13 : (Nat → V)) (n18 : Nat) (f19 : (Nat → V)), loopN (exec { DCL41 with m := 0, nt := Try.f41.ntmps } (loopBody Try.f41 0) 0) (canonK { DCL41 with m := 0, nt := Try.f41.ntmps } 0) k ⟨[.view 3 n0 f1, .int .i64 i2, .junk, .junk, .junk, .int .i64 i3, .ptr 0 [] 106, .int .i64 i4, .junk, .junk, .junk, .junk, .junk], [.box 106 (.nd 106 [.sub 1 0 n5, .int .i64 i6, .int .i64 i7, .int .i64 i8, .sub 2 0 n9, .sub 3 0 n10, .sub 4 0 n11]), .row 3 n12 f13, .row 38 n14 f15, .row 4 n16 f17, .row 53 n18 f19]⟩ K = Ls41_0_0 K n0 f1 i2 i3 i6 i7 i8 n9 n10 n14 f15 n16 f17 k i4 n5 n11 n12 f13 n18 f19
  | 0, _, _, _, _, _, _, _ => rfl
  | k + 1, i4, n5, n11, n12, f13, n18, f19 => by
    rw [loopN_succ, rq41_0_0]
    simp only [lp41_0_0 K n0 f1 i2 i3 i6 i7 i8 n9 n10 n14 f15 n16 f17 k]
    rfl
theorem lp41_2_0 {β : Type} (K : Ex → St → R β) (n0 : Nat) (f1 : (Nat → V)) (i2 : Int) (i3 : Int) (i4 : Int) (n6 : Nat) (i7 : Int) (i8 : Int) (i9 : Int) (n10 : Nat) (n11 : Nat) (n13 : Nat) (f14 : (Nat → V)) (n15 : Nat) (f16 : (Nat → V)) (n17 : Nat) (f18 : (Nat → V)) : ∀ (k : Nat) (i5 : Int) (n12 : Nat) (n19 : Nat) (f20 : (Nat → V)), loopN (exec { DCL41 with m := 0, nt := Try.f41.ntmps } (loopBody Try.f41 2) 2) (canonK { DCL41 with m := 0, nt := Try.f41.ntmps } 2) k ⟨[.view 3 n0 f1, .int .i64 i2, .junk, .junk, .junk, .int .i64 i3, .ptr 0 [] 106, .int .i64 i4, .int .i64 i5, .junk, .junk, .junk, .junk], [.box 106 (.nd 106 [.sub 1 0 n6, .int .i64 i7, .int .i64 i8, .int .i64 i9, .sub 2 0 n10, .sub 3 0 n11, .sub 4 0 n12]), .row 3 n13 f14, .row 38 n15 f16, .row 4 n17 f18, .row 53 n19 f20]⟩ K = Ls41_2_0 K n0 f1 i2 i3 i4 n6 i7 i8 i9 n10 n11 n13 f14 n15 f16 n17 f18 k i5 n12 n19 f20
  | 0, _, _, _, _ => rfl
  | k + 1, i5, n12, n19, f20 => by
    rw [loopN_succ, rq41_2_0]
    simp only [lp41_2_0 K n0 f1 i2 i3 i4 n6 i7 i8 i9 n10 n11 n13 f14 n15 f16 n17 f18 k]
    rfl
theorem ll41_0_0 {β : Type} {PP : β → Prop} (st : St) (K : Ex → St → R β) (h : All PP (Lr41_0_0 st K)) : All PP (loopN (exec { DCL41 with m := 0, nt := Try.f41.ntmps } (loopBody Try.f41 0) 0) (canonK { DCL41 with m := 0, nt := Try.f41.ntmps } 0) DCL41.N (mkSt Ll41_0_0 Lg41_0_0 st) K) := by
  have hs : mkSt Ll41_0_0 Lg41_0_0 st = ⟨[.view 3 (lV st.loc 0) (lF st.loc 0), .int .i64 (lI st.loc 1), .junk, .junk, .junk, .int .i64 (lI st.loc 5), .ptr 0 [] 106, .int .i64 (lI st.loc 7), .junk, .junk, .junk, .junk, .junk], [.box 106 (.nd 106 [.sub 1 0 (gN1 st.G 0 0), .int .i64 (gI1 st.G 0 1), .int .i64 (gI1 st.G 0 2), .int .i64 (gI1 st.G 0 3), .sub 2 0 (gN1 st.G 0 4), .sub 3 0 (gN1 st.G 0 5), .sub 4 0 (gN1 st.G 0 6)]), .row 3 (rN st.G 1) (rF st.G 1), .row 38 (rN st.G 2) (rF st.G 2), .row 4 (rN st.G 3) (rF st.G 3), .row 53 (rN st.G 4) (rF st.G 4)]⟩ := by kernel_rfl
  have hn : DCL41.N = NN := by kernel_rfl
  unfold Lr41_0_0 at h
  rw [NNo_eq] at h
  rw [hs, hn, lp41_0_0]
  exact h
theorem ll41_2_0 {β : Type} {PP : β → Prop} (st : St) (K : Ex → St → R β) (h : All PP (Lr41_2_0 st K)) : All PP (loopN (exec { DCL41 with m := 0, nt := Try.f41.ntmps } (loopBody Try.f41 2) 2) (canonK { DCL41 with m := 0, nt := Try.f41.ntmps } 2) DCL41.N (mkSt Ll41_2_0 Lg41_2_0 st) K) := by
  have hs : mkSt Ll41_2_0 Lg41_2_0 st = ⟨[.view 3 (lV st.loc 0) (lF st.loc 0), .int .i64 (lI st.loc 1), .junk, .junk, .junk, .int .i64 (lI st.loc 5), .ptr 0 [] 106, .int .i64 (lI st.loc 7), .int .i64 (lI st.loc 8), .junk, .junk, .junk, .junk], [.box 106 (.nd 106 [.sub 1 0 (gN1 st.G 0 0), .int .i64 (gI1 st.G 0 1), .int .i64 (gI1 st.G 0 2), .int .i64 (gI1 st.G 0 3), .sub 2 0 (gN1 st.G 0 4), .sub 3 0 (gN1 st.G 0 5), .sub 4 0 (gN1 st.G 0 6)]), .row 3 (rN st.G 1) (rF st.G 1), .row 38 (rN st.G 2) (rF st.G 2), .row 4 (rN st.G 3) (rF st.G 3), .row 53 (rN st.G 4) (rF st.G 4)]⟩ := by kernel_rfl
  have hn : DCL41.N = NN := by kernel_rfl
  unfold Lr41_2_0 at h
  rw [NNo_eq] at h
  rw [hs, hn, lp41_2_0]
  exact h
theorem hlD41 : LoopsL DCL41 Try.f41.ntmps (loopsIn (codeOf Try.f41) 0) := by
  have e : loopsIn (codeOf Try.f41) 0 = [(0, loopBody Try.f41 0), (2, loopBody Try.f41 2)] := by kernel_rfl
  rw [e]
  exact (loops_two (loopOK_of (by kernel_rfl) (loopE_told (c := DCL41) (nt := Try.f41.ntmps) (k := 0) (b := loopBody Try.f41 0) (m0 := 0) (l := Ll41_0_0) (g := Lg41_0_0) (run := @Lr41_0_0) (h := @ll41_0_0))) (loops_two (loopOK_of (by kernel_rfl) (loopE_told (c := DCL41) (nt := Try.f41.ntmps) (k := 2) (b := loopBody Try.f41 2) (m0 := 0) (l := Ll41_2_0) (g := Lg41_2_0) (run := @Lr41_2_0) (h := @ll41_2_0))) loops_none'))
theorem okDB41 : EntryOK Try.prog T 41 DB41 := @ok_of Try.prog T tabOK mixedOK DCL41 (by kernel_rfl) (fnsL_cons okD65 fnsL_nil) 41 Try.f41 Try.func41 (by kernel_rfl) (by kernel_rfl) (by kernel_rfl) hlD41 [] (joins_none (by kernel_rfl))
theorem ff41_0 {β : Type} {PP : β → Prop} (a : List V) (G : List Reg) (K : V → List Reg → R β) (h : All PP (Sr41_0 a G K)) : All PP (DB41.run (mkVs Sl41_0 (locAt a) 0) (mkG Sg41_0 (regAt G) 0) K) := by
  have h1 : DB41.run (mkVs Sl41_0 (locAt a) 0) (mkG Sg41_0 (regAt G) 0) K = DB41.run [.view 3 (lV a 0) (lF a 0), .int .i64 (lI a 1), .int .i64 (lI a 2)] [] K := by kernel_rfl
  unfold Sr41_0 at h
  rw [h1, fq41_0]
  exact h
theorem okD41 : EntryOK Try.prog T 41 DS41 := (@entryE_told Try.prog T 41 [] DB41 DB41 okDB41 okDB41 Sl41_0 Sg41_0 @Sr41_0 @ff41_0)
theorem okD72 : EntryOK Try.prog T 72 DR72 := @ok_of Try.prog T tabOK mixedOK DCL72 (by kernel_rfl) fnsL_nil 72 Try.f72 Try.func72 (by kernel_rfl) (by kernel_rfl) (by kernel_rfl) (loops_none (by kernel_rfl)) [] (joins_none (by kernel_rfl))
theorem okD30 : EntryOK Try.prog T 30 DR30 := @ok_of Try.prog T tabOK mixedOK DCL30 (by kernel_rfl) (fnsL_cons okD72 fnsL_nil) 30 Try.f30 Try.func30 (by kernel_rfl) (by kernel_rfl) (by kernel_rfl) (loops_none (by kernel_rfl)) [] (joins_none (by kernel_rfl))
theorem okD31 : EntryOK Try.prog T 31 DR31 := @ok_of Try.prog T tabOK mixedOK DCL31 (by kernel_rfl) (fnsL_cons okD72 fnsL_nil) 31 Try.f31 Try.func31 (by kernel_rfl) (by kernel_rfl) (by kernel_rfl) (loops_none (by kernel_rfl)) [] (joins_none (by kernel_rfl))
theorem okD80 : EntryOK Try.prog T 80 DR80 := @ok_of Try.prog T tabOK mixedOK DCL80 (by kernel_rfl) fnsL_nil 80 Try.f80 Try.func80 (by kernel_rfl) (by kernel_rfl) (by kernel_rfl) (loops_none (by kernel_rfl)) [] (joins_none (by kernel_rfl))
theorem okD101 : EntryOK Try.prog T 101 DR101 := @ok_of Try.prog T tabOK mixedOK DCL101 (by kernel_rfl) fnsL_nil 101 Try.f101 Try.func101 (by kernel_rfl) (by kernel_rfl) (by kernel_rfl) (loops_none (by kernel_rfl)) [] (joins_none (by kernel_rfl))
theorem lp111_0_0 {β : Type} (K : Ex → St → R β) (n0 : Nat) (i1 : Int) (n3 : Nat) (i4 : Int) (i5 : Int) (i6 : Int) (i7 : Int) (i8 : Int) (i9 : Int) (i10 : Int) (i11 : Int) (n12 : Nat) (n13 : Nat) (n14 : Nat) (f15 : (Nat → V)) (n16 : Nat) (f17 : (Nat → V)) (n18 : Nat) (f19 : (Nat → V)) : ∀ (k : Nat) (i2 : Int), loopN (exec { DCL111 with m := 5, nt := Try.f111.ntmps } (loopBody Try.f111 0) 0) (canonK { DCL111 with m := 5, nt := Try.f111.ntmps } 0) k ⟨[.sub 3 0 n0, .fn 75 [.ptr 0 [] 75], .junk, .junk, .int .i64 i1, .int .i64 i2, .junk, .junk], [.box 75 (.ptr 1 [] 150), .box 150 (.nd 150 [.nd 148 [.sub 2 0 n3, .int .i64 i4], .int .i64 i5, .int .i64 i6, .nd 38 [.int .i64 i7, .int .i64 i8, .int .i64 i9, .int .i64 i10, .int .i64 i11], .sub 3 0 n12, .sub 4 0 n13]), .row 3 n14 f15, .row 38 n16 f17, .row 53 n18 f19]⟩ K = Ls111_0_0 K n0 i1 n3 i4 i5 i6 i7 i8 i9 i10 i11 n12 n13 n14 f15 n16 f17 n18 f19 k i2
  | 0, _ => rfl
  | k + 1, i2 => by
    rw [loopN_succ, rq111_0_0]
    simp only [lp111_0_0 K n0 i1 n3 i4 i5 i6 i7 i8 i9 i10 i11 n12 n13 n14 f15 n16 f17 n18 f19 k]
    rfl
theorem lp111_0_1 {β : Type} (K : Ex → St → R β) (n0 : Nat) (f1 : (Nat → V)) (i2 : Int) (i4 : Int) : ∀ (k : Nat) (i3 : Int), loopN (exec { DCL111 with m := 1, nt := Try.f111.ntmps } (loopBody Try.f111 0) 0) (canonK { DCL111 with m := 1, nt := Try.f111.ntmps } 0) k ⟨[.view 38 n0 f1, .fn 80 [.ptr 0 [] 3], .junk, .junk, .int .i64 i2, .int .i64 i3, .junk, .junk], [.box 3 (.int .i64 i4)]⟩ K = Ls111_0_1 K n0 f1 i2 i4 k i3
  | 0, _ => rfl
  | k + 1, i3 => by
    rw [loopN_succ, rq111_0_1]
    simp only [lp111_0_1 K n0 f1 i2 i4 k]
    rfl
theorem ll111_0_0 {β : Type} {PP : β → Prop} (st : St) (K : Ex → St → R β) (h : All PP (Lr111_0_0 st K)) : All PP (loopN (exec { DCL111 with m := 5, nt := Try.f111.ntmps } (loopBody Try.f111 0) 0) (canonK { DCL111 with m := 5, nt := Try.f111.ntmps } 0) DCL111.N (mkSt Ll111_0_0 Lg111_0_0 st) K) := by
  have hs : mkSt Ll111_0_0 Lg111_0_0 st = ⟨[.sub 3 0 (lN st.loc 0), .fn 75 [.ptr 0 [] 75], .junk, .junk, .int .i64 (lI st.loc 4), .int .i64 (lI st.loc 5), .junk, .junk], [.box 75 (.ptr 1 [] 150), .box 150 (.nd 150 [.nd 148 [.sub 2 0 (gN2 st.G 1 0 0), .int .i64 (gI2 st.G 1 0 1)], .int .i64 (gI1 st.G 1 1), .int .i64 (gI1 st.G 1 2), .nd 38 [.int .i64 (gI2 st.G 1 3 0), .int .i64 (gI2 st.G 1 3 1), .int .i64 (gI2 st.G 1 3 2), .int .i64 (gI2 st.G 1 3 3), .int .i64 (gI2 st.G 1 3 4)], .sub 3 0 (gN1 st.G 1 4), .sub 4 0 (gN1 st.G 1 5)]), .row 3 (rN st.G 2) (rF st.G 2), .row 38 (rN st.G 3) (rF st.G 3), .row 53 (rN st.G 4) (rF st.G 4)]⟩ := by kernel_rfl
  have hn : DCL111.N = NN := by kernel_rfl
  unfold Lr111_0_0 at h
  rw [NNo_eq] at h
  rw [hs, hn, lp111_0_0]
  exact h
theorem ll111_0_1 {β : Type} {PP : β → Prop} (st : St) (K : Ex → St → R β) (h : All PP (Lr111_0_1 st K)) : All PP (loopN (exec { DCL111 with m := 1, nt := Try.f111.ntmps } (loopBody Try.f111 0) 0) (canonK { DCL111 with m := 1, nt := Try.f111.ntmps } 0) DCL111.N (mkSt Ll111_0_1 Lg111_0_1 st) K) := by
  have hs : mkSt Ll111_0_1 Lg111_0_1 st = ⟨[.view 38 (lV st.loc 0) (lF st.loc 0), .fn 80 [.ptr 0 [] 3], .junk, .junk, .int .i64 (lI st.loc 4), .int .i64 (lI st.loc 5), .junk, .junk], [.box 3 (.int .i64 (intV (regV (regAt st.G 0))))]⟩ := by kernel_rfl
  have hn : DCL111.N = NN := by kernel_rfl
  unfold Lr111_0_1 at h
  rw [NNo_eq] at h
  rw [hs, hn, lp111_0_1]
  exact h
theorem hlD111 : LoopsL DCL111 Try.f111.ntmps (loopsIn (codeOf Try.f111) 0) := by
  have e : loopsIn (codeOf Try.f111) 0 = [(0, loopBody Try.f111 0)] := by kernel_rfl
  rw [e]
  exact (loops_two (loopOK_of (by kernel_rfl) (loopO_told (loopE_told (c := DCL111) (nt := Try.f111.ntmps) (k := 0) (b := loopBody Try.f111 0) (m0 := 5) (l := Ll111_0_0) (g := Lg111_0_0) (run := @Lr111_0_0) (h := @ll111_0_0)) (loopE_told (c := DCL111) (nt := Try.f111.ntmps) (k := 0) (b := loopBody Try.f111 0) (m0 := 1) (l := Ll111_0_1) (g := Lg111_0_1) (run := @Lr111_0_1) (h := @ll111_0_1)))) loops_none')
theorem okDB111 : EntryOK Try.prog T 111 DB111 := @ok_of Try.prog T tabOK mixedOK DCL111 (by kernel_rfl) (fnsL_cons ok75 (fnsL_cons okD80 (fnsL_cons okD101 fnsL_nil))) 111 Try.f111 Try.func111 (by kernel_rfl) (by kernel_rfl) (by kernel_rfl) hlD111 [] (joins_none (by kernel_rfl))
theorem ff111_1 {β : Type} {PP : β → Prop} (a : List V) (G : List Reg) (K : V → List Reg → R β) (h : All PP (Sr111_1 a G K)) : All PP (DB111.run (mkVs Sl111_1 (locAt a) 0) (mkG Sg111_1 (regAt G) 0) K) := by
  have h1 : DB111.run (mkVs Sl111_1 (locAt a) 0) (mkG Sg111_1 (regAt G) 0) K = DB111.run [.view 38 (lV a 0) (lF a 0), .fn 80 [.ptr 0 [] 3]] [.box 3 (.int .i64 (intV (regV (regAt G 0))))] K := by kernel_rfl
  unfold Sr111_1 at h
  rw [h1, fq111_1]
  exact h
theorem ff111_0 {β : Type} {PP : β → Prop} (a : List V) (G : List Reg) (K : V → List Reg → R β) (h : All PP (Sr111_0 a G K)) : All PP (DB111.run (mkVs Sl111_0 (locAt a) 0) (mkG Sg111_0 (regAt G) 0) K) := by
  have h1 : DB111.run (mkVs Sl111_0 (locAt a) 0) (mkG Sg111_0 (regAt G) 0) K = DB111.run [.sub 3 0 (lN a 0), .fn 75 [.ptr 0 [] 75]] [.box 75 (.ptr 1 [] 150), .box 150 (.nd 150 [.nd 148 [.sub 2 0 (gN2 G 1 0 0), .int .i64 (gI2 G 1 0 1)], .int .i64 (gI1 G 1 1), .int .i64 (gI1 G 1 2), .nd 38 [.int .i64 (gI2 G 1 3 0), .int .i64 (gI2 G 1 3 1), .int .i64 (gI2 G 1 3 2), .int .i64 (gI2 G 1 3 3), .int .i64 (gI2 G 1 3 4)], .sub 3 0 (gN1 G 1 4), .sub 4 0 (gN1 G 1 5)]), .row 3 (rN G 2) (rF G 2), .row 38 (rN G 3) (rF G 3), .row 53 (rN G 4) (rF G 4)] K := by kernel_rfl
  unfold Sr111_0 at h
  rw [h1, fq111_0]
  exact h
theorem okD111 : EntryOK Try.prog T 111 DS111 := (@entryE_told Try.prog T 111 [] DB111 (entryE [] Sl111_1 Sg111_1 Sr111_1 DB111) okDB111 (@entryE_told Try.prog T 111 [] DB111 DB111 okDB111 okDB111 Sl111_1 Sg111_1 @Sr111_1 @ff111_1) Sl111_0 Sg111_0 @Sr111_0 @ff111_0)
theorem lp74_0_0 {β : Type} (K : Ex → St → R β) (n0 : Nat) (n3 : Nat) (n5 : Nat) (i6 : Int) (i7 : Int) (i8 : Int) (i9 : Int) (i10 : Int) (i11 : Int) (i12 : Int) (i13 : Int) (n14 : Nat) (n15 : Nat) (n16 : Nat) (f17 : (Nat → V)) (n18 : Nat) (f19 : (Nat → V)) : ∀ (k : Nat) (i1 : Int) (i2 : Int) (f4 : (Nat → V)), loopN (exec { DCL74 with m := 5, nt := Try.f74.ntmps } (loopBody Try.f74 0) 0) (canonK { DCL74 with m := 5, nt := Try.f74.ntmps } 0) k ⟨[.sub 1 0 n0, .fn 75 [.ptr 0 [] 75], .junk, .int .i64 i1, .int .i64 i2, .junk, .junk, .junk, .junk], [.box 75 (.ptr 2 [] 150), .row 38 n3 f4, .box 150 (.nd 150 [.nd 148 [.sub 3 0 n5, .int .i64 i6], .int .i64 i7, .int .i64 i8, .nd 38 [.int .i64 i9, .int .i64 i10, .int .i64 i11, .int .i64 i12, .int .i64 i13], .sub 1 0 n14, .sub 4 0 n15]), .row 3 n16 f17, .row 53 n18 f19]⟩ K = Ls74_0_0 K n0 n3 n5 i6 i7 i8 i9 i10 i11 i12 i13 n14 n15 n16 f17 n18 f19 k i1 i2 f4
  | 0, _, _, _ => rfl
  | k + 1, i1, i2, f4 => by
    rw [loopN_succ, rq74_0_0]
    simp only [lp74_0_0 K n0 n3 n5 i6 i7 i8 i9 i10 i11 i12 i13 n14 n15 n16 f17 n18 f19 k]
    rfl
theorem lp74_0_1 {β : Type} (K : Ex → St → R β) (n0 : Nat) (i3 : Int) (n4 : Nat) : ∀ (k : Nat) (i1 : Int) (i2 : Int) (f5 : (Nat → V)), loopN (exec { DCL74 with m := 2, nt := Try.f74.ntmps } (loopBody Try.f74 0) 0) (canonK { DCL74 with m := 2, nt := Try.f74.ntmps } 0) k ⟨[.sub 1 0 n0, .fn 80 [.ptr 0 [] 3], .junk, .int .i64 i1, .int .i64 i2, .junk, .junk, .junk, .junk], [.box 3 (.int .i64 i3), .row 38 n4 f5]⟩ K = Ls74_0_1 K n0 i3 n4 k i1 i2 f5
  | 0, _, _, _ => rfl
  | k + 1, i1, i2, f5 => by
    rw [loopN_succ, rq74_0_1]
    simp only [lp74_0_1 K n0 i3 n4 k]
    rfl
theorem ll74_0_0 {β : Type} {PP : β → Prop} (st : St) (K : Ex → St → R β) (h : All PP (Lr74_0_0 st K)) : All PP (loopN (exec { DCL74 with m := 5, nt := Try.f74.ntmps } (loopBody Try.f74 0) 0) (canonK { DCL74 with m := 5, nt := Try.f74.ntmps } 0) DCL74.N (mkSt Ll74_0_0 Lg74_0_0 st) K) := by
  have hs : mkSt Ll74_0_0 Lg74_0_0 st = ⟨[.sub 1 0 (lN st.loc 0), .fn 75 [.ptr 0 [] 75], .junk, .int .i64 (lI st.loc 3), .int .i64 (lI st.loc 4), .junk, .junk, .junk, .junk], [.box 75 (.ptr 2 [] 150), .row 38 (rN st.G 1) (rF st.G 1), .box 150 (.nd 150 [.nd 148 [.sub 3 0 (gN2 st.G 2 0 0), .int .i64 (gI2 st.G 2 0 1)], .int .i64 (gI1 st.G 2 1), .int .i64 (gI1 st.G 2 2), .nd 38 [.int .i64 (gI2 st.G 2 3 0), .int .i64 (gI2 st.G 2 3 1), .int .i64 (gI2 st.G 2 3 2), .int .i64 (gI2 st.G 2 3 3), .int .i64 (gI2 st.G 2 3 4)], .sub 1 0 (gN1 st.G 2 4), .sub 4 0 (gN1 st.G 2 5)]), .row 3 (rN st.G 3) (rF st.G 3), .row 53 (rN st.G 4) (rF st.G 4)]⟩ := by kernel_rfl
  have hn : DCL74.N = NN := by kernel_rfl
  unfold Lr74_0_0 at h
  rw [NNo_eq] at h
  rw [hs, hn, lp74_0_0]
  exact h
theorem ll74_0_1 {β : Type} {PP : β → Prop} (st : St) (K : Ex → St → R β) (h : All PP (Lr74_0_1 st K)) : All PP (loopN (exec { DCL74 with m := 2, nt := Try.f74.ntmps } (loopBody Try.f74 0) 0) (canonK { DCL74 with m := 2, nt := Try.f74.ntmps } 0) DCL74.N (mkSt Ll74_0_1 Lg74_0_1 st) K) := by
  have hs : mkSt Ll74_0_1 Lg74_0_1 st = ⟨[.sub 1 0 (lN st.loc 0), .fn 80 [.ptr 0 [] 3], .junk, .int .i64 (lI st.loc 3), .int .i64 (lI st.loc 4), .junk, .junk, .junk, .junk], [.box 3 (.int .i64 (intV (regV (regAt st.G 0)))), .row 38 (rN st.G 1) (rF st.G 1)]⟩ := by kernel_rfl
  have hn : DCL74.N = NN := by kernel_rfl
  unfold Lr74_0_1 at h
  rw [NNo_eq] at h
  rw [hs, hn, lp74_0_1]
  exact h
theorem hlD74 : LoopsL DCL74 Try.f74.ntmps (loopsIn (codeOf Try.f74) 0) := by
  have e : loopsIn (codeOf Try.f74) 0 = [(0, loopBody Try.f74 0)] := by kernel_rfl
  rw [e]
  exact (loops_two (loopOK_of (by kernel_rfl) (loopO_told (loopE_told (c := DCL74) (nt := Try.f74.ntmps) (k := 0) (b := loopBody Try.f74 0) (m0 := 5) (l := Ll74_0_0) (g := Lg74_0_0) (run := @Lr74_0_0) (h := @ll74_0_0)) (loopE_told (c := DCL74) (nt := Try.f74.ntmps) (k := 0) (b := loopBody Try.f74 0) (m0 := 2) (l := Ll74_0_1) (g := Lg74_0_1) (run := @Lr74_0_1) (h := @ll74_0_1)))) loops_none')
theorem okDB74 : EntryOK Try.prog T 74 DB74 := @ok_of Try.prog T tabOK mixedOK DCL74 (by kernel_rfl) (fnsL_cons ok75 (fnsL_cons okD80 (fnsL_cons okD101 (fnsL_cons okD111 fnsL_nil)))) 74 Try.f74 Try.func74 (by kernel_rfl) (by kernel_rfl) (by kernel_rfl) hlD74 [0] (joins_none (by kernel_rfl))
theorem ff74_1 {β : Type} {PP : β → Prop} (a : List V) (G : List Reg) (K : V → List Reg → R β) (h : All PP (Sr74_1 a G K)) : All PP (DB74.run (mkVs Sl74_1 (locAt a) 0) (mkG Sg74_1 (regAt G) 0) K) := by
  have h1 : DB74.run (mkVs Sl74_1 (locAt a) 0) (mkG Sg74_1 (regAt G) 0) K = DB74.run [.sub 1 0 (lN a 0), .fn 80 [.ptr 0 [] 3]] [.box 3 (.int .i64 (intV (regV (regAt G 0)))), .row 38 (rN G 1) (rF G 1)] K := by kernel_rfl
  unfold Sr74_1 at h
  rw [h1, fq74_1]
  exact h
theorem ff74_0 {β : Type} {PP : β → Prop} (a : List V) (G : List Reg) (K : V → List Reg → R β) (h : All PP (Sr74_0 a G K)) : All PP (DB74.run (mkVs Sl74_0 (locAt a) 0) (mkG Sg74_0 (regAt G) 0) K) := by
  have h1 : DB74.run (mkVs Sl74_0 (locAt a) 0) (mkG Sg74_0 (regAt G) 0) K = DB74.run [.sub 1 0 (lN a 0), .fn 75 [.ptr 0 [] 75]] [.box 75 (.ptr 2 [] 150), .row 38 (rN G 1) (rF G 1), .box 150 (.nd 150 [.nd 148 [.sub 3 0 (gN2 G 2 0 0), .int .i64 (gI2 G 2 0 1)], .int .i64 (gI1 G 2 1), .int .i64 (gI1 G 2 2), .nd 38 [.int .i64 (gI2 G 2 3 0), .int .i64 (gI2 G 2 3 1), .int .i64 (gI2 G 2 3 2), .int .i64 (gI2 G 2 3 3), .int .i64 (gI2 G 2 3 4)], .sub 1 0 (gN1 G 2 4), .sub 4 0 (gN1 G 2 5)]), .row 3 (rN G 3) (rF G 3), .row 53 (rN G 4) (rF G 4)] K := by kernel_rfl
  unfold Sr74_0 at h
  rw [h1, fq74_0]
  exact h
theorem okD74 : EntryOK Try.prog T 74 DS74 := (@entryE_told Try.prog T 74 [0] DB74 (entryE [0] Sl74_1 Sg74_1 Sr74_1 DB74) okDB74 (@entryE_told Try.prog T 74 [0] DB74 DB74 okDB74 okDB74 Sl74_1 Sg74_1 @Sr74_1 @ff74_1) Sl74_0 Sg74_0 @Sr74_0 @ff74_0)
theorem lp33_0_0 {β : Type} (K : Ex → St → R β) (n0 : Nat) (f1 : (Nat → V)) (i2 : Int) (n4 : Nat) (i5 : Int) (i6 : Int) (i7 : Int) (i8 : Int) (i9 : Int) (i10 : Int) (i11 : Int) (i12 : Int) (n13 : Nat) (n14 : Nat) (n15 : Nat) (f16 : (Nat → V)) (n17 : Nat) (f18 : (Nat → V)) (n19 : Nat) : ∀ (k : Nat) (i3 : Int) (f20 : (Nat → V)), loopN (exec { DCL33 with m := 4, nt := Try.f33.ntmps } (loopBody Try.f33 0) 0) (canonK { DCL33 with m := 4, nt := Try.f33.ntmps } 0) k ⟨[.junk, .junk, .ptr 4 [] 75, .junk, .junk, .junk, .junk, .junk, .junk, .view 53 n0 f1, .int .i64 i2, .int .i64 i3, .junk, .junk], [.box 150 (.nd 150 [.nd 148 [.sub 1 0 n4, .int .i64 i5], .int .i64 i6, .int .i64 i7, .nd 38 [.int .i64 i8, .int .i64 i9, .int .i64 i10, .int .i64 i11, .int .i64 i12], .sub 2 0 n13, .sub 3 0 n14]), .row 3 n15 f16, .row 38 n17 f18, .row 53 n19 f20, .box 75 (.ptr 0 [] 150)]⟩ K = Ls33_0_0 K n0 f1 i2 n4 i5 i6 i7 i8 i9 i10 i11 i12 n13 n14 n15 f16 n17 f18 n19 k i3 f20
  | 0, _, _ => rfl
  | k + 1, i3, f20 => by
    rw [loopN_succ, rq33_0_0]
    simp only [lp33_0_0 K n0 f1 i2 n4 i5 i6 i7 i8 i9 i10 i11 i12 n13 n14 n15 f16 n17 f18 n19 k]
    rfl
theorem ll33_0_0 {β : Type} {PP : β → Prop} (st : St) (K : Ex → St → R β) (h : All PP (Lr33_0_0 st K)) : All PP (loopN (exec { DCL33 with m := 4, nt := Try.f33.ntmps } (loopBody Try.f33 0) 0) (canonK { DCL33 with m := 4, nt := Try.f33.ntmps } 0) DCL33.N (mkSt Ll33_0_0 Lg33_0_0 st) K) := by
  have hs : mkSt Ll33_0_0 Lg33_0_0 st = ⟨[.junk, .junk, .ptr 4 [] 75, .junk, .junk, .junk, .junk, .junk, .junk, .view 53 (lV st.loc 9) (lF st.loc 9), .int .i64 (lI st.loc 10), .int .i64 (lI st.loc 11), .junk, .junk], [.box 150 (.nd 150 [.nd 148 [.sub 1 0 (gN2 st.G 0 0 0), .int .i64 (gI2 st.G 0 0 1)], .int .i64 (gI1 st.G 0 1), .int .i64 (gI1 st.G 0 2), .nd 38 [.int .i64 (gI2 st.G 0 3 0), .int .i64 (gI2 st.G 0 3 1), .int .i64 (gI2 st.G 0 3 2), .int .i64 (gI2 st.G 0 3 3), .int .i64 (gI2 st.G 0 3 4)], .sub 2 0 (gN1 st.G 0 4), .sub 3 0 (gN1 st.G 0 5)]), .row 3 (rN st.G 1) (rF st.G 1), .row 38 (rN st.G 2) (rF st.G 2), .row 53 (rN st.G 3) (rF st.G 3), .box 75 (.ptr 0 [] 150)]⟩ := by kernel_rfl
  have hn : DCL33.N = NN := by kernel_rfl
  unfold Lr33_0_0 at h
  rw [NNo_eq] at h
  rw [hs, hn, lp33_0_0]
  exact h
theorem hlD33 : LoopsL DCL33 Try.f33.ntmps (loopsIn (codeOf Try.f33) 0) := by
  have e : loopsIn (codeOf Try.f33) 0 = [(0, loopBody Try.f33 0)] := by kernel_rfl
  rw [e]
  exact (loops_two (loopOK_of (by kernel_rfl) (loopE_told (c := DCL33) (nt := Try.f33.ntmps) (k := 0) (b := loopBody Try.f33 0) (m0 := 4) (l := Ll33_0_0) (g := Lg33_0_0) (run := @Lr33_0_0) (h := @ll33_0_0))) loops_none')
theorem okDB33 : EntryOK Try.prog T 33 DB33 := @ok_of Try.prog T tabOK mixedOK DCL33 (by kernel_rfl) (fnsL_cons ok61 (fnsL_cons okD70 (fnsL_cons okD74 fnsL_nil))) 33 Try.f33 Try.func33 (by kernel_rfl) (by kernel_rfl) (by kernel_rfl) hlD33 [] (joins_none (by kernel_rfl))
theorem ff33_0 {β : Type} {PP : β → Prop} (a : List V) (G : List Reg) (K : V → List Reg → R β) (h : All PP (Sr33_0 a G K)) : All PP (DB33.run (mkVs Sl33_0 (locAt a) 0) (mkG Sg33_0 (regAt G) 0) K) := by
  have h1 : DB33.run (mkVs Sl33_0 (locAt a) 0) (mkG Sg33_0 (regAt G) 0) K = DB33.run [.ptr 0 [] 150, .view 53 (lV a 1) (lF a 1)] [.box 150 (.nd 150 [.nd 148 [.sub 1 0 (gN2 G 0 0 0), .int .i64 (gI2 G 0 0 1)], .int .i64 (gI1 G 0 1), .int .i64 (gI1 G 0 2), .nd 38 [.int .i64 (gI2 G 0 3 0), .int .i64 (gI2 G 0 3 1), .int .i64 (gI2 G 0 3 2), .int .i64 (gI2 G 0 3 3), .int .i64 (gI2 G 0 3 4)], .sub 2 0 (gN1 G 0 4), .sub 3 0 (gN1 G 0 5)]), .row 3 (rN G 1) (rF G 1), .row 38 (rN G 2) (rF G 2), .row 53 (rN G 3) (rF G 3)] K := by kernel_rfl
  unfold Sr33_0 at h
  rw [h1, fq33_0]
  exact h
theorem okD33 : EntryOK Try.prog T 33 DS33 := (@entryE_told Try.prog T 33 [] DB33 DB33 okDB33 okDB33 Sl33_0 Sg33_0 @Sr33_0 @ff33_0)
theorem okD38 : EntryOK Try.prog T 38 DR38 := @ok_of Try.prog T tabOK mixedOK DCL38 (by kernel_rfl) (fnsL_cons okD72 fnsL_nil) 38 Try.f38 Try.func38 (by kernel_rfl) (by kernel_rfl) (by kernel_rfl) (loops_none (by kernel_rfl)) [] (joins_none (by kernel_rfl))
theorem okD114 : EntryOK Try.prog T 114 DR114 := @ok_of Try.prog T tabOK mixedOK DCL114 (by kernel_rfl) fnsL_nil 114 Try.f114 Try.func114 (by kernel_rfl) (by kernel_rfl) (by kernel_rfl) (loops_none (by kernel_rfl)) [] (joins_none (by kernel_rfl))
theorem lp113_0_0 {β : Type} (K : Ex → St → R β) (n0 : Nat) (f1 : (Nat → V)) (i2 : Int) (i5 : Int) (i6 : Int) (i7 : Int) (i8 : Int) (i9 : Int) : ∀ (k : Nat) (i3 : Int) (i4 : Int), loopN (exec { DCL113 with m := 0, nt := Try.f113.ntmps } (loopBody Try.f113 0) 0) (canonK { DCL113 with m := 0, nt := Try.f113.ntmps } 0) k ⟨[.view 38 n0 f1, .junk, .fn 114 [], .ptr 0 [] 38, .junk, .junk, .int .i64 i2, .int .i64 i3, .int .i64 i4, .junk, .junk, .junk], [.box 38 (.nd 38 [.int .i64 i5, .int .i64 i6, .int .i64 i7, .int .i64 i8, .int .i64 i9])]⟩ K = Ls113_0_0 K n0 f1 i2 i5 i6 i7 i8 i9 k i3 i4
  | 0, _, _ => rfl
  | k + 1, i3, i4 => by
    rw [loopN_succ, rq113_0_0]
    simp only [lp113_0_0 K n0 f1 i2 i5 i6 i7 i8 i9 k]
    rfl
theorem ll113_0_0 {β : Type} {PP : β → Prop} (st : St) (K : Ex → St → R β) (h : All PP (Lr113_0_0 st K)) : All PP (loopN (exec { DCL113 with m := 0, nt := Try.f113.ntmps } (loopBody Try.f113 0) 0) (canonK { DCL113 with m := 0, nt := Try.f113.ntmps } 0) DCL113.N (mkSt Ll113_0_0 Lg113_0_0 st) K) := by
  have hs : mkSt Ll113_0_0 Lg113_0_0 st = ⟨[.view 38 (lV st.loc 0) (lF st.loc 0), .junk, .fn 114 [], .ptr 0 [] 38, .junk, .junk, .int .i64 (lI st.loc 6), .int .i64 (lI st.loc 7), .int .i64 (lI st.loc 8), .junk, .junk, .junk], [.box 38 (.nd 38 [.int .i64 (gI1 st.G 0 0), .int .i64 (gI1 st.G 0 1), .int .i64 (gI1 st.G 0 2), .int .i64 (gI1 st.G 0 3), .int .i64 (gI1 st.G 0 4)])]⟩ := by kernel_rfl
  have hn : DCL113.N = NN := by kernel_rfl
  unfold Lr113_0_0 at h
  rw [NNo_eq] at h
  rw [hs, hn, lp113_0_0]
  exact h
theorem hlD113 : LoopsL DCL113 Try.f113.ntmps (loopsIn (codeOf Try.f113) 0) := by
  have e : loopsIn (codeOf Try.f113) 0 = [(0, loopBody Try.f113 0)] := by kernel_rfl
  rw [e]
  exact (loops_two (loopOK_of (by kernel_rfl) (loopE_told (c := DCL113) (nt := Try.f113.ntmps) (k := 0) (b := loopBody Try.f113 0) (m0 := 0) (l := Ll113_0_0) (g := Lg113_0_0) (run := @Lr113_0_0) (h := @ll113_0_0))) loops_none')
theorem okDB113 : EntryOK Try.prog T 113 DB113 := @ok_of Try.prog T tabOK mixedOK DCL113 (by kernel_rfl) (fnsL_cons okD114 fnsL_nil) 113 Try.f113 Try.func113 (by kernel_rfl) (by kernel_rfl) (by kernel_rfl) hlD113 [] (joins_none (by kernel_rfl))
theorem ff113_0 {β : Type} {PP : β → Prop} (a : List V) (G : List Reg) (K : V → List Reg → R β) (h : All PP (Sr113_0 a G K)) : All PP (DB113.run (mkVs Sl113_0 (locAt a) 0) (mkG Sg113_0 (regAt G) 0) K) := by
  have h1 : DB113.run (mkVs Sl113_0 (locAt a) 0) (mkG Sg113_0 (regAt G) 0) K = DB113.run [.view 38 (lV a 0) (lF a 0), .nd 38 [.int .i64 (lI1 a 1 0), .int .i64 (lI1 a 1 1), .int .i64 (lI1 a 1 2), .int .i64 (lI1 a 1 3), .int .i64 (lI1 a 1 4)], .fn 114 []] [] K := by kernel_rfl
  unfold Sr113_0 at h
  rw [h1, fq113_0]
  exact h
theorem okD113 : EntryOK Try.prog T 113 DS113 := (@entryE_told Try.prog T 113 [] DB113 DB113 okDB113 okDB113 Sl113_0 Sg113_0 @Sr113_0 @ff113_0)
theorem okDB79 : EntryOK Try.prog T 79 DB79 := @ok_of Try.prog T tabOK mixedOK DCL79 (by kernel_rfl) (fnsL_cons ok73 (fnsL_cons okD113 (fnsL_cons ok115 fnsL_nil))) 79 Try.f79 Try.func79 (by kernel_rfl) (by kernel_rfl) (by kernel_rfl) (loops_none (by kernel_rfl)) [] (joins_none (by kernel_rfl))
theorem ff79_0 {β : Type} {PP : β → Prop} (a : List V) (G : List Reg) (K : V → List Reg → R β) (h : All PP (Sr79_0 a G K)) : All PP (DB79.run (mkVs Sl79_0 (locAt a) 0) (mkG Sg79_0 (regAt G) 0) K) := by
  have h1 : DB79.run (mkVs Sl79_0 (locAt a) 0) (mkG Sg79_0 (regAt G) 0) K = DB79.run [.ptr 0 [] 150] [.box 150 (.nd 150 [.nd 148 [.sub 1 0 (gN2 G 0 0 0), .int .i64 (gI2 G 0 0 1)], .int .i64 (gI1 G 0 1), .int .i64 (gI1 G 0 2), .nd 38 [.int .i64 (gI2 G 0 3 0), .int .i64 (gI2 G 0 3 1), .int .i64 (gI2 G 0 3 2), .int .i64 (gI2 G 0 3 3), .int .i64 (gI2 G 0 3 4)], .sub 2 0 (gN1 G 0 4), .sub 3 0 (gN1 G 0 5)]), .row 3 (rN G 1) (rF G 1), .row 38 (rN G 2) (rF G 2), .row 53 (rN G 3) (rF G 3)] K := by kernel_rfl
  unfold Sr79_0 at h
  rw [h1, fq79_0]
  exact h
theorem okD79 : EntryOK Try.prog T 79 DS79 := (@entryE_told Try.prog T 79 [] DB79 DB79 okDB79 okDB79 Sl79_0 Sg79_0 @Sr79_0 @ff79_0)
theorem okDB40 : EntryOK Try.prog T 40 DB40 := @ok_of Try.prog T tabOK mixedOK DCL40 (by kernel_rfl) (fnsL_cons okD74 (fnsL_cons okD79 fnsL_nil)) 40 Try.f40 Try.func40 (by kernel_rfl) (by kernel_rfl) (by kernel_rfl) (loops_none (by kernel_rfl)) [] (joins_none (by kernel_rfl))
theorem ff40_0 {β : Type} {PP : β → Prop} (a : List V) (G : List Reg) (K : V → List Reg → R β) (h : All PP (Sr40_0 a G K)) : All PP (DB40.run (mkVs Sl40_0 (locAt a) 0) (mkG Sg40_0 (regAt G) 0) K) := by
  have h1 : DB40.run (mkVs Sl40_0 (locAt a) 0) (mkG Sg40_0 (regAt G) 0) K = DB40.run [.ptr 0 [] 150, .int .i64 (lI a 1), .int .i64 (lI a 2)] [.box 150 (.nd 150 [.nd 148 [.sub 1 0 (gN2 G 0 0 0), .int .i64 (gI2 G 0 0 1)], .int .i64 (gI1 G 0 1), .int .i64 (gI1 G 0 2), .nd 38 [.int .i64 (gI2 G 0 3 0), .int .i64 (gI2 G 0 3 1), .int .i64 (gI2 G 0 3 2), .int .i64 (gI2 G 0 3 3), .int .i64 (gI2 G 0 3 4)], .sub 2 0 (gN1 G 0 4), .sub 3 0 (gN1 G 0 5)]), .row 3 (rN G 1) (rF G 1), .row 38 (rN G 2) (rF G 2), .row 53 (rN G 3) (rF G 3)] K := by kernel_rfl
  unfold Sr40_0 at h
  rw [h1, fq40_0]
  exact h
theorem okD40 : EntryOK Try.prog T 40 DS40 := (@entryE_told Try.prog T 40 [] DB40 DB40 okDB40 okDB40 Sl40_0 Sg40_0 @Sr40_0 @ff40_0)
theorem lp48_0_0 {β : Type} (K : Ex → St → R β) (n0 : Nat) (f1 : (Nat → V)) (n2 : Nat) (f3 : (Nat → V)) (i4 : Int) : ∀ (k : Nat) (i5 : Int), loopN (exec { DCL48 with m := 0, nt := Try.f48.ntmps } (loopBody Try.f48 0) 0) (canonK { DCL48 with m := 0, nt := Try.f48.ntmps } 0) k ⟨[.view 53 n0 f1, .view 53 n2 f3, .junk, .junk, .junk, .int .i64 i4, .int .i64 i5, .junk, .junk], []⟩ K = Ls48_0_0 K n0 f1 n2 f3 i4 k i5
  | 0, _ => rfl
  | k + 1, i5 => by
    rw [loopN_succ, rq48_0_0]
    simp only [lp48_0_0 K n0 f1 n2 f3 i4 k]
    rfl
theorem ll48_0_0 {β : Type} {PP : β → Prop} (st : St) (K : Ex → St → R β) (h : All PP (Lr48_0_0 st K)) : All PP (loopN (exec { DCL48 with m := 0, nt := Try.f48.ntmps } (loopBody Try.f48 0) 0) (canonK { DCL48 with m := 0, nt := Try.f48.ntmps } 0) DCL48.N (mkSt Ll48_0_0 Lg48_0_0 st) K) := by
  have hs : mkSt Ll48_0_0 Lg48_0_0 st = ⟨[.view 53 (lV st.loc 0) (lF st.loc 0), .view 53 (lV st.loc 1) (lF st.loc 1), .junk, .junk, .junk, .int .i64 (lI st.loc 5), .int .i64 (lI st.loc 6), .junk, .junk], []⟩ := by kernel_rfl
  have hn : DCL48.N = NN := by kernel_rfl
  unfold Lr48_0_0 at h
  rw [NNo_eq] at h
  rw [hs, hn, lp48_0_0]
  exact h
theorem hlD48 : LoopsL DCL48 Try.f48.ntmps (loopsIn (codeOf Try.f48) 0) := by
  have e : loopsIn (codeOf Try.f48) 0 = [(0, loopBody Try.f48 0)] := by kernel_rfl
  rw [e]
  exact (loops_two (loopOK_of (by kernel_rfl) (loopE_told (c := DCL48) (nt := Try.f48.ntmps) (k := 0) (b := loopBody Try.f48 0) (m0 := 0) (l := Ll48_0_0) (g := Lg48_0_0) (run := @Lr48_0_0) (h := @ll48_0_0))) loops_none')
theorem okDB48 : EntryOK Try.prog T 48 DB48 := @ok_of Try.prog T tabOK mixedOK DCL48 (by kernel_rfl) fnsL_nil 48 Try.f48 Try.func48 (by kernel_rfl) (by kernel_rfl) (by kernel_rfl) hlD48 [] (joins_none (by kernel_rfl))
theorem ff48_0 {β : Type} {PP : β → Prop} (a : List V) (G : List Reg) (K : V → List Reg → R β) (h : All PP (Sr48_0 a G K)) : All PP (DB48.run (mkVs Sl48_0 (locAt a) 0) (mkG Sg48_0 (regAt G) 0) K) := by
  have h1 : DB48.run (mkVs Sl48_0 (locAt a) 0) (mkG Sg48_0 (regAt G) 0) K = DB48.run [.view 53 (lV a 0) (lF a 0), .view 53 (lV a 1) (lF a 1)] [] K := by kernel_rfl
  unfold Sr48_0 at h
  rw [h1, fq48_0]
  exact h
theorem okD48 : EntryOK Try.prog T 48 DS48 := (@entryE_told Try.prog T 48 [] DB48 DB48 okDB48 okDB48 Sl48_0 Sg48_0 @Sr48_0 @ff48_0)
theorem lp88_0_0 {β : Type} (K : Ex → St → R β) (n2 : Nat) (i3 : Int) (i4 : Int) (i5 : Int) (n6 : Nat) (n7 : Nat) (n8 : Nat) (n9 : Nat) (f10 : (Nat → V)) (n11 : Nat) (f12 : (Nat → V)) (n13 : Nat) (f14 : (Nat → V)) (n15 : Nat) (f16 : (Nat → V)) : ∀ (k : Nat) (n0 : Nat) (i1 : Int) (n17 : Nat) (f18 : (Nat → V)), loopN (exec { DCL88 with m := 5, nt := Try.f88.ntmps } (loopBody Try.f88 0) 0) (canonK { DCL88 with m := 5, nt := Try.f88.ntmps } 0) k ⟨[.ptr 0 [] 106, .junk, .sub 5 0 n0, .int .i64 i1, .junk, .junk], [.box 106 (.nd 106 [.sub 1 0 n2, .int .i64 i3, .int .i64 i4, .int .i64 i5, .sub 2 0 n6, .sub 3 0 n7, .sub 4 0 n8]), .row 3 n9 f10, .row 38 n11 f12, .row 4 n13 f14, .row 53 n15 f16, .row 38 n17 f18]⟩ K = Ls88_0_0 K n2 i3 i4 i5 n6 n7 n8 n9 f10 n11 f12 n13 f14 n15 f16 k n0 i1 n17 f18
  | 0, _, _, _, _ => rfl
  | k + 1, n0, i1, n17, f18 => by
    rw [loopN_succ, rq88_0_0]
    simp only [lp88_0_0 K n2 i3 i4 i5 n6 n7 n8 n9 f10 n11 f12 n13 f14 n15 f16 k]
    rfl
theorem ll88_0_0 {β : Type} {PP : β → Prop} (st : St) (K : Ex → St → R β) (h : All PP (Lr88_0_0 st K)) : All PP (loopN (exec { DCL88 with m := 5, nt := Try.f88.ntmps } (loopBody Try.f88 0) 0) (canonK { DCL88 with m := 5, nt := Try.f88.ntmps } 0) DCL88.N (mkSt Ll88_0_0 Lg88_0_0 st) K) := by
  have hs : mkSt Ll88_0_0 Lg88_0_0 st = ⟨[.ptr 0 [] 106, .junk, .sub 5 0 (lN st.loc 2), .int .i64 (lI st.loc 3), .junk, .junk], [.box 106 (.nd 106 [.sub 1 0 (gN1 st.G 0 0), .int .i64 (gI1 st.G 0 1), .int .i64 (gI1 st.G 0 2), .int .i64 (gI1 st.G 0 3), .sub 2 0 (gN1 st.G 0 4), .sub 3 0 (gN1 st.G 0 5), .sub 4 0 (gN1 st.G 0 6)]), .row 3 (rN st.G 1) (rF st.G 1), .row 38 (rN st.G 2) (rF st.G 2), .row 4 (rN st.G 3) (rF st.G 3), .row 53 (rN st.G 4) (rF st.G 4), .row 38 (rN st.G 5) (rF st.G 5)]⟩ := by kernel_rfl
  have hn : DCL88.N = NN := by kernel_rfl
  unfold Lr88_0_0 at h
  rw [NNo_eq] at h
  rw [hs, hn, lp88_0_0]
  exact h
theorem hlD88 : LoopsL DCL88 Try.f88.ntmps (loopsIn (codeOf Try.f88) 0) := by
  have e : loopsIn (codeOf Try.f88) 0 = [(0, loopBody Try.f88 0)] := by kernel_rfl
  rw [e]
  exact (loops_two (loopOK_of (by kernel_rfl) (loopE_told (c := DCL88) (nt := Try.f88.ntmps) (k := 0) (b := loopBody Try.f88 0) (m0 := 5) (l := Ll88_0_0) (g := Lg88_0_0) (run := @Lr88_0_0) (h := @ll88_0_0))) loops_none')
theorem okDB88 : EntryOK Try.prog T 88 DB88 := @ok_of Try.prog T tabOK mixedOK DCL88 (by kernel_rfl) fnsL_nil 88 Try.f88 Try.func88 (by kernel_rfl) (by kernel_rfl) (by kernel_rfl) hlD88 [] (joins_none (by kernel_rfl))
theorem ff88_0 {β : Type} {PP : β → Prop} (a : List V) (G : List Reg) (K : V → List Reg → R β) (h : All PP (Sr88_0 a G K)) : All PP (DB88.run (mkVs Sl88_0 (locAt a) 0) (mkG Sg88_0 (regAt G) 0) K) := by
  have h1 : DB88.run (mkVs Sl88_0 (locAt a) 0) (mkG Sg88_0 (regAt G) 0) K = DB88.run [.ptr 0 [] 106] [.box 106 (.nd 106 [.sub 1 0 (gN1 G 0 0), .int .i64 (gI1 G 0 1), .int .i64 (gI1 G 0 2), .int .i64 (gI1 G 0 3), .sub 2 0 (gN1 G 0 4), .sub 3 0 (gN1 G 0 5), .sub 4 0 (gN1 G 0 6)]), .row 3 (rN G 1) (rF G 1), .row 38 (rN G 2) (rF G 2), .row 4 (rN G 3) (rF G 3), .row 53 (rN G 4) (rF G 4)] K := by kernel_rfl
  unfold Sr88_0 at h
  rw [h1, fq88_0]
  exact h
theorem okD88 : EntryOK Try.prog T 88 DS88 := (@entryE_told Try.prog T 88 [] DB88 DB88 okDB88 okDB88 Sl88_0 Sg88_0 @Sr88_0 @ff88_0)
theorem lp87_0_0 {β : Type} (K : Ex → St → R β) (n1 : Nat) (i2 : Int) (i3 : Int) (i4 : Int) (n5 : Nat) (n6 : Nat) (n7 : Nat) (n8 : Nat) (f9 : (Nat → V)) (n10 : Nat) (f11 : (Nat → V)) (n12 : Nat) (f13 : (Nat → V)) (n14 : Nat) (f15 : (Nat → V)) (i16 : Int) (i17 : Int) (i18 : Int) (i19 : Int) (i20 : Int) : ∀ (k : Nat) (i0 : Int), loopN (exec { DCL87 with m := 5, nt := Try.f87.ntmps } (loopBody Try.f87 0) 0) (canonK { DCL87 with m := 5, nt := Try.f87.ntmps } 0) k ⟨[.ptr 0 [] 106, .ptr 5 [] 38, .junk, .int .i64 i0, .junk, .junk], [.box 106 (.nd 106 [.sub 1 0 n1, .int .i64 i2, .int .i64 i3, .int .i64 i4, .sub 2 0 n5, .sub 3 0 n6, .sub 4 0 n7]), .row 3 n8 f9, .row 38 n10 f11, .row 4 n12 f13, .row 53 n14 f15, .box 38 (.nd 38 [.int .i64 i16, .int .i64 i17, .int .i64 i18, .int .i64 i19, .int .i64 i20])]⟩ K = Ls87_0_0 K n1 i2 i3 i4 n5 n6 n7 n8 f9 n10 f11 n12 f13 n14 f15 i16 i17 i18 i19 i20 k i0
  | 0, _ => rfl
  | k + 1, i0 => by
    rw [loopN_succ, rq87_0_0]
    simp only [lp87_0_0 K n1 i2 i3 i4 n5 n6 n7 n8 f9 n10 f11 n12 f13 n14 f15 i16 i17 i18 i19 i20 k]
    rfl
theorem ll87_0_0 {β : Type} {PP : β → Prop} (st : St) (K : Ex → St → R β) (h : All PP (Lr87_0_0 st K)) : All PP (loopN (exec { DCL87 with m := 5, nt := Try.f87.ntmps } (loopBody Try.f87 0) 0) (canonK { DCL87 with m := 5, nt := Try.f87.ntmps } 0) DCL87.N (mkSt Ll87_0_0 Lg87_0_0 st) K) := by
  have hs : mkSt Ll87_0_0 Lg87_0_0 st = ⟨[.ptr 0 [] 106, .ptr 5 [] 38, .junk, .int .i64 (lI st.loc 3), .junk, .junk], [.box 106 (.nd 106 [.sub 1 0 (gN1 st.G 0 0), .int .i64 (gI1 st.G 0 1), .int .i64 (gI1 st.G 0 2), .int .i64 (gI1 st.G 0 3), .sub 2 0 (gN1 st.G 0 4), .sub 3 0 (gN1 st.G 0 5), .sub 4 0 (gN1 st.G 0 6)]), .row 3 (rN st.G 1) (rF st.G 1), .row 38 (rN st.G 2) (rF st.G 2), .row 4 (rN st.G 3) (rF st.G 3), .row 53 (rN st.G 4) (rF st.G 4), .box 38 (.nd 38 [.int .i64 (gI1 st.G 5 0), .int .i64 (gI1 st.G 5 1), .int .i64 (gI1 st.G 5 2), .int .i64 (gI1 st.G 5 3), .int .i64 (gI1 st.G 5 4)])]⟩ := by kernel_rfl
  have hn : DCL87.N = NN := by kernel_rfl
  unfold Lr87_0_0 at h
  rw [NNo_eq] at h
  rw [hs, hn, lp87_0_0]
  exact h
theorem hlD87 : LoopsL DCL87 Try.f87.ntmps (loopsIn (codeOf Try.f87) 0) := by
  have e : loopsIn (codeOf Try.f87) 0 = [(0, loopBody Try.f87 0)] := by kernel_rfl
  rw [e]
  exact (loops_two (loopOK_of (by kernel_rfl) (loopE_told (c := DCL87) (nt := Try.f87.ntmps) (k := 0) (b := loopBody Try.f87 0) (m0 := 5) (l := Ll87_0_0) (g := Lg87_0_0) (run := @Lr87_0_0) (h := @ll87_0_0))) loops_none')
theorem okDB87 : EntryOK Try.prog T 87 DB87 := @ok_of Try.prog T tabOK mixedOK DCL87 (by kernel_rfl) fnsL_nil 87 Try.f87 Try.func87 (by kernel_rfl) (by kernel_rfl) (by kernel_rfl) hlD87 [] (joins_none (by kernel_rfl))
theorem ff87_0 {β : Type} {PP : β → Prop} (a : List V) (G : List Reg) (K : V → List Reg → R β) (h : All PP (Sr87_0 a G K)) : All PP (DB87.run (mkVs Sl87_0 (locAt a) 0) (mkG Sg87_0 (regAt G) 0) K) := by
  have h1 : DB87.run (mkVs Sl87_0 (locAt a) 0) (mkG Sg87_0 (regAt G) 0) K = DB87.run [.ptr 0 [] 106] [.box 106 (.nd 106 [.sub 1 0 (gN1 G 0 0), .int .i64 (gI1 G 0 1), .int .i64 (gI1 G 0 2), .int .i64 (gI1 G 0 3), .sub 2 0 (gN1 G 0 4), .sub 3 0 (gN1 G 0 5), .sub 4 0 (gN1 G 0 6)]), .row 3 (rN G 1) (rF G 1), .row 38 (rN G 2) (rF G 2), .row 4 (rN G 3) (rF G 3), .row 53 (rN G 4) (rF G 4)] K := by kernel_rfl
  unfold Sr87_0 at h
  rw [h1, fq87_0]
  exact h
theorem okD87 : EntryOK Try.prog T 87 DS87 := (@entryE_told Try.prog T 87 [] DB87 DB87 okDB87 okDB87 Sl87_0 Sg87_0 @Sr87_0 @ff87_0)
theorem okDB116 : EntryOK Try.prog T 116 DB116 := @ok_of Try.prog T tabOK mixedOK DCL116 (by kernel_rfl) (fnsL_cons okD87 fnsL_nil) 116 Try.f116 Try.func116 (by kernel_rfl) (by kernel_rfl) (by kernel_rfl) (loops_none (by kernel_rfl)) [] (joins_none (by kernel_rfl))
theorem ff116_0 {β : Type} {PP : β → Prop} (a : List V) (G : List Reg) (K : V → List Reg → R β) (h : All PP (Sr116_0 a G K)) : All PP (DB116.run (mkVs Sl116_0 (locAt a) 0) (mkG Sg116_0 (regAt G) 0) K) := by
  have h1 : DB116.run (mkVs Sl116_0 (locAt a) 0) (mkG Sg116_0 (regAt G) 0) K = DB116.run [.ptr 0 [] 106, .int .i64 (lI a 1)] [.box 106 (.nd 106 [.sub 1 0 (gN1 G 0 0), .int .i64 (gI1 G 0 1), .int .i64 (gI1 G 0 2), .int .i64 (gI1 G 0 3), .sub 2 0 (gN1 G 0 4), .sub 3 0 (gN1 G 0 5), .sub 4 0 (gN1 G 0 6)]), .row 3 (rN G 1) (rF G 1), .row 38 (rN G 2) (rF G 2), .row 4 (rN G 3) (rF G 3), .row 53 (rN G 4) (rF G 4)] K := by kernel_rfl
  unfold Sr116_0 at h
  rw [h1, fq116_0]
  exact h
theorem okD116 : EntryOK Try.prog T 116 DS116 := (@entryE_told Try.prog T 116 [] DB116 DB116 okDB116 okDB116 Sl116_0 Sg116_0 @Sr116_0 @ff116_0)
theorem okDB82 : EntryOK Try.prog T 82 DB82 := @ok_of Try.prog T tabOK mixedOK DCL82 (by kernel_rfl) (fnsL_cons okD88 (fnsL_cons okD116 fnsL_nil)) 82 Try.f82 Try.func82 (by kernel_rfl) (by kernel_rfl) (by kernel_rfl) (loops_none (by kernel_rfl)) [] (joins_none (by kernel_rfl))
theorem ff82_0 {β : Type} {PP : β → Prop} (a : List V) (G : List Reg) (K : V → List Reg → R β) (h : All PP (Sr82_0 a G K)) : All PP (DB82.run (mkVs Sl82_0 (locAt a) 0) (mkG Sg82_0 (regAt G) 0) K) := by
  have h1 : DB82.run (mkVs Sl82_0 (locAt a) 0) (mkG Sg82_0 (regAt G) 0) K = DB82.run [.ptr 0 [] 106, .int .i64 (lI a 1), .int .i64 (lI a 2), .int .i64 (lI a 3)] [.box 106 (.nd 106 [.sub 1 0 (gN1 G 0 0), .int .i64 (gI1 G 0 1), .int .i64 (gI1 G 0 2), .int .i64 (gI1 G 0 3), .sub 2 0 (gN1 G 0 4), .sub 3 0 (gN1 G 0 5), .sub 4 0 (gN1 G 0 6)]), .row 3 (rN G 1) (rF G 1), .row 38 (rN G 2) (rF G 2), .row 4 (rN G 3) (rF G 3), .row 53 (rN G 4) (rF G 4)] K := by kernel_rfl
  unfold Sr82_0 at h
  rw [h1, fq82_0]
  exact h
theorem okD82 : EntryOK Try.prog T 82 DS82 := (@entryE_told Try.prog T 82 [] DB82 DB82 okDB82 okDB82 Sl82_0 Sg82_0 @Sr82_0 @ff82_0)
theorem okDB83 : EntryOK Try.prog T 83 DB83 := @ok_of Try.prog T tabOK mixedOK DCL83 (by kernel_rfl) (fnsL_cons okD116 fnsL_nil) 83 Try.f83 Try.func83 (by kernel_rfl) (by kernel_rfl) (by kernel_rfl) (loops_none (by kernel_rfl)) [] (joins_none (by kernel_rfl))
theorem ff83_0 {β : Type} {PP : β → Prop} (a : List V) (G : List Reg) (K : V → List Reg → R β) (h : All PP (Sr83_0 a G K)) : All PP (DB83.run (mkVs Sl83_0 (locAt a) 0) (mkG Sg83_0 (regAt G) 0) K) := by
  have h1 : DB83.run (mkVs Sl83_0 (locAt a) 0) (mkG Sg83_0 (regAt G) 0) K = DB83.run [.ptr 0 [] 106, .int .i64 (lI a 1)] [.box 106 (.nd 106 [.sub 1 0 (gN1 G 0 0), .int .i64 (gI1 G 0 1), .int .i64 (gI1 G 0 2), .int .i64 (gI1 G 0 3), .sub 2 0 (gN1 G 0 4), .sub 3 0 (gN1 G 0 5), .sub 4 0 (gN1 G 0 6)]), .row 3 (rN G 1) (rF G 1), .row 38 (rN G 2) (rF G 2), .row 4 (rN G 3) (rF G 3), .row 53 (rN G 4) (rF G 4)] K := by kernel_rfl
  unfold Sr83_0 at h
  rw [h1, fq83_0]
  exact h
theorem okD83 : EntryOK Try.prog T 83 DS83 := (@entryE_told Try.prog T 83 [] DB83 DB83 okDB83 okDB83 Sl83_0 Sg83_0 @Sr83_0 @ff83_0)
theorem okDB84 : EntryOK Try.prog T 84 DB84 := @ok_of Try.prog T tabOK mixedOK DCL84 (by kernel_rfl) (fnsL_cons okD116 fnsL_nil) 84 Try.f84 Try.func84 (by kernel_rfl) (by kernel_rfl) (by kernel_rfl) (loops_none (by kernel_rfl)) [] (joins_none (by kernel_rfl))
theorem ff84_0 {β : Type} {PP : β → Prop} (a : List V) (G : List Reg) (K : V → List Reg → R β) (h : All PP (Sr84_0 a G K)) : All PP (DB84.run (mkVs Sl84_0 (locAt a) 0) (mkG Sg84_0 (regAt G) 0) K) := by
  have h1 : DB84.run (mkVs Sl84_0 (locAt a) 0) (mkG Sg84_0 (regAt G) 0) K = DB84.run [.ptr 0 [] 106, .nd 38 [.int .i64 (lI1 a 1 0), .int .i64 (lI1 a 1 1), .int .i64 (lI1 a 1 2), .int .i64 (lI1 a 1 3), .int .i64 (lI1 a 1 4)]] [.box 106 (.nd 106 [.sub 1 0 (gN1 G 0 0), .int .i64 (gI1 G 0 1), .int .i64 (gI1 G 0 2), .int .i64 (gI1 G 0 3), .sub 2 0 (gN1 G 0 4), .sub 3 0 (gN1 G 0 5), .sub 4 0 (gN1 G 0 6)]), .row 3 (rN G 1) (rF G 1), .row 38 (rN G 2) (rF G 2), .row 4 (rN G 3) (rF G 3), .row 53 (rN G 4) (rF G 4)] K := by kernel_rfl
  unfold Sr84_0 at h
  rw [h1, fq84_0]
  exact h
theorem okD84 : EntryOK Try.prog T 84 DS84 := (@entryE_told Try.prog T 84 [] DB84 DB84 okDB84 okDB84 Sl84_0 Sg84_0 @Sr84_0 @ff84_0)
theorem okD36 : EntryOK Try.prog T 36 DR36 := @ok_of Try.prog T tabOK mixedOK DCL36 (by kernel_rfl) fnsL_nil 36 Try.f36 Try.func36 (by kernel_rfl) (by kernel_rfl) (by kernel_rfl) (loops_none (by kernel_rfl)) [] (joins_none (by kernel_rfl))
theorem okD77 : EntryOK Try.prog T 77 DR77 := @ok_of Try.prog T tabOK mixedOK DCL77 (by kernel_rfl) fnsL_nil 77 Try.f77 Try.func77 (by kernel_rfl) (by kernel_rfl) (by kernel_rfl) (loops_none (by kernel_rfl)) [] (joins_none (by kernel_rfl))
theorem okD78 : EntryOK Try.prog T 78 DR78 := @ok_of Try.prog T tabOK mixedOK DCL78 (by kernel_rfl) fnsL_nil 78 Try.f78 Try.func78 (by kernel_rfl) (by kernel_rfl) (by kernel_rfl) (loops_none (by kernel_rfl)) [] (joins_none (by kernel_rfl))
theorem lp35_0_0 {β : Type} (K : Ex → St → R β) (n0 : Nat) (f1 : (Nat → V)) (i2 : Int) (i5 : Int) (i6 : Int) (i7 : Int) (i8 : Int) (i9 : Int) : ∀ (k : Nat) (n3 : Nat) (i4 : Int) (n10 : Nat) (f11 : (Nat → V)), loopN (exec { DCL35 with m := 0, nt := Try.f35.ntmps } (loopBody Try.f35 0) 0) (canonK { DCL35 with m := 0, nt := Try.f35.ntmps } 0) k ⟨[.junk, .view 3 n0 f1, .int .i64 i2, .ptr 0 [] 38, .junk, .sub 1 0 n3, .int .i64 i4, .junk, .junk], [.box 38 (.nd 38 [.int .i64 i5, .int .i64 i6, .int .i64 i7, .int .i64 i8, .int .i64 i9]), .row 55 n10 f11]⟩ K = Ls35_0_0 K n0 f1 i2 i5 i6 i7 i8 i9 k n3 i4 n10 f11
  | 0, _, _, _, _ => rfl
  | k + 1, n3, i4, n10, f11 => by
    rw [loopN_succ, rq35_0_0]
    simp only [lp35_0_0 K n0 f1 i2 i5 i6 i7 i8 i9 k]
    rfl
theorem ll35_0_0 {β : Type} {PP : β → Prop} (st : St) (K : Ex → St → R β) (h : All PP (Lr35_0_0 st K)) : All PP (loopN (exec { DCL35 with m := 0, nt := Try.f35.ntmps } (loopBody Try.f35 0) 0) (canonK { DCL35 with m := 0, nt := Try.f35.ntmps } 0) DCL35.N (mkSt Ll35_0_0 Lg35_0_0 st) K) := by
  have hs : mkSt Ll35_0_0 Lg35_0_0 st = ⟨[.junk, .view 3 (lV st.loc 1) (lF st.loc 1), .int .i64 (lI st.loc 2), .ptr 0 [] 38, .junk, .sub 1 0 (lN st.loc 5), .int .i64 (lI st.loc 6), .junk, .junk], [.box 38 (.nd 38 [.int .i64 (gI1 st.G 0 0), .int .i64 (gI1 st.G 0 1), .int .i64 (gI1 st.G 0 2), .int .i64 (gI1 st.G 0 3), .int .i64 (gI1 st.G 0 4)]), .row 55 (rN st.G 1) (rF st.G 1)]⟩ := by kernel_rfl
  have hn : DCL35.N = NN := by kernel_rfl
  unfold Lr35_0_0 at h
  rw [NNo_eq] at h
  rw [hs, hn, lp35_0_0]
  exact h
theorem hlD35 : LoopsL DCL35 Try.f35.ntmps (loopsIn (codeOf Try.f35) 0) := by
  have e : loopsIn (codeOf Try.f35) 0 = [(0, loopBody Try.f35 0)] := by kernel_rfl
  rw [e]
  exact (loops_two (loopOK_of (by kernel_rfl) (loopE_told (c := DCL35) (nt := Try.f35.ntmps) (k := 0) (b := loopBody Try.f35 0) (m0 := 0) (l := Ll35_0_0) (g := Lg35_0_0) (run := @Lr35_0_0) (h := @ll35_0_0))) loops_none')
theorem okDB35 : EntryOK Try.prog T 35 DB35 := @ok_of Try.prog T tabOK mixedOK DCL35 (by kernel_rfl) (fnsL_cons okD77 (fnsL_cons okD78 fnsL_nil)) 35 Try.f35 Try.func35 (by kernel_rfl) (by kernel_rfl) (by kernel_rfl) hlD35 [] (joins_none (by kernel_rfl))
theorem ff35_0 {β : Type} {PP : β → Prop} (a : List V) (G : List Reg) (K : V → List Reg → R β) (h : All PP (Sr35_0 a G K)) : All PP (DB35.run (mkVs Sl35_0 (locAt a) 0) (mkG Sg35_0 (regAt G) 0) K) := by
  have h1 : DB35.run (mkVs Sl35_0 (locAt a) 0) (mkG Sg35_0 (regAt G) 0) K = DB35.run [.nd 38 [.int .i64 (lI1 a 0 0), .int .i64 (lI1 a 0 1), .int .i64 (lI1 a 0 2), .int .i64 (lI1 a 0 3), .int .i64 (lI1 a 0 4)], .view 3 (lV a 1) (lF a 1), .int .i64 (lI a 2)] [] K := by kernel_rfl
  unfold Sr35_0 at h
  rw [h1, fq35_0]
  exact h
theorem okD35 : EntryOK Try.prog T 35 DS35 := (@entryE_told Try.prog T 35 [] DB35 DB35 okDB35 okDB35 Sl35_0 Sg35_0 @Sr35_0 @ff35_0)
theorem lp117_0_0 {β : Type} (K : Ex → St → R β) (n0 : Nat) (f1 : (Nat → V)) (n2 : Nat) (n5 : Nat) (f6 : (Nat → V)) : ∀ (k : Nat) (i3 : Int) (i4 : Int), loopN (exec { DCL117 with m := 0, nt := Try.f117.ntmps } (loopBody Try.f117 0) 0) (canonK { DCL117 with m := 0, nt := Try.f117.ntmps } 0) k ⟨[.junk, .junk, .junk, .view 53 n0 f1, .junk, .junk, .sub 0 0 n2, .int .i64 i3, .int .i64 i4, .junk, .junk], [.row 55 n5 f6]⟩ K = Ls117_0_0 K n0 f1 n2 n5 f6 k i3 i4
  | 0, _, _ => rfl
  | k + 1, i3, i4 => by
    rw [loopN_succ, rq117_0_0]
    simp only [lp117_0_0 K n0 f1 n2 n5 f6 k]
    rfl
theorem ll117_0_0 {β : Type} {PP : β → Prop} (st : St) (K : Ex → St → R β) (h : All PP (Lr117_0_0 st K)) : All PP (loopN (exec { DCL117 with m := 0, nt := Try.f117.ntmps } (loopBody Try.f117 0) 0) (canonK { DCL117 with m := 0, nt := Try.f117.ntmps } 0) DCL117.N (mkSt Ll117_0_0 Lg117_0_0 st) K) := by
  have hs : mkSt Ll117_0_0 Lg117_0_0 st = ⟨[.junk, .junk, .junk, .view 53 (lV st.loc 3) (lF st.loc 3), .junk, .junk, .sub 0 0 (lN st.loc 6), .int .i64 (lI st.loc 7), .int .i64 (lI st.loc 8), .junk, .junk], [.row 55 (rN st.G 0) (rF st.G 0)]⟩ := by kernel_rfl
  have hn : DCL117.N = NN := by kernel_rfl
  unfold Lr117_0_0 at h
  rw [NNo_eq] at h
  rw [hs, hn, lp117_0_0]
  exact h
theorem hlD117 : LoopsL DCL117 Try.f117.ntmps (loopsIn (codeOf Try.f117) 0) := by
  have e : loopsIn (codeOf Try.f117) 0 = [(0, loopBody Try.f117 0)] := by kernel_rfl
  rw [e]
  exact (loops_two (loopOK_of (by kernel_rfl) (loopE_told (c := DCL117) (nt := Try.f117.ntmps) (k := 0) (b := loopBody Try.f117 0) (m0 := 0) (l := Ll117_0_0) (g := Lg117_0_0) (run := @Lr117_0_0) (h := @ll117_0_0))) loops_none')
theorem okDB117 : EntryOK Try.prog T 117 DB117 := @ok_of Try.prog T tabOK mixedOK DCL117 (by kernel_rfl) (fnsL_cons okD35 (fnsL_cons okD36 fnsL_nil)) 117 Try.f117 Try.func117 (by kernel_rfl) (by kernel_rfl) (by kernel_rfl) hlD117 [] (joins_none (by kernel_rfl))
theorem ff117_0 {β : Type} {PP : β → Prop} (a : List V) (G : List Reg) (K : V → List Reg → R β) (h : All PP (Sr117_0 a G K)) : All PP (DB117.run (mkVs Sl117_0 (locAt a) 0) (mkG Sg117_0 (regAt G) 0) K) := by
  have h1 : DB117.run (mkVs Sl117_0 (locAt a) 0) (mkG Sg117_0 (regAt G) 0) K = DB117.run [.nd 38 [.int .i64 (lI1 a 0 0), .int .i64 (lI1 a 0 1), .int .i64 (lI1 a 0 2), .int .i64 (lI1 a 0 3), .int .i64 (lI1 a 0 4)], .view 3 (lV a 1) (lF a 1), .int .i64 (lI a 2), .view 53 (lV a 3) (lF a 3)] [] K := by kernel_rfl
  unfold Sr117_0 at h
  rw [h1, fq117_0]
  exact h
theorem okD117 : EntryOK Try.prog T 117 DS117 := (@entryE_told Try.prog T 117 [] DB117 DB117 okDB117 okDB117 Sl117_0 Sg117_0 @Sr117_0 @ff117_0)
theorem lp85_0_0 {β : Type} (K : Ex → St → R β) (n0 : Nat) (f1 : (Nat → V)) (n3 : Nat) (i4 : Int) (i5 : Int) (i6 : Int) (n7 : Nat) (n8 : Nat) (n9 : Nat) (n10 : Nat) (f11 : (Nat → V)) (n12 : Nat) (f13 : (Nat → V)) (n14 : Nat) (f15 : (Nat → V)) (n16 : Nat) : ∀ (k : Nat) (i2 : Int) (f17 : (Nat → V)), loopN (exec { DCL85 with m := 5, nt := Try.f85.ntmps } (loopBody Try.f85 0) 0) (canonK { DCL85 with m := 5, nt := Try.f85.ntmps } 0) k ⟨[.ptr 0 [] 106, .view 53 n0 f1, .junk, .junk, .int .i64 i2, .junk, .junk, .junk, .junk, .junk, .junk, .junk], [.box 106 (.nd 106 [.sub 1 0 n3, .int .i64 i4, .int .i64 i5, .int .i64 i6, .sub 2 0 n7, .sub 3 0 n8, .sub 4 0 n9]), .row 3 n10 f11, .row 38 n12 f13, .row 4 n14 f15, .row 53 n16 f17]⟩ K = Ls85_0_0 K n0 f1 n3 i4 i5 i6 n7 n8 n9 n10 f11 n12 f13 n14 f15 n16 k i2 f17
  | 0, _, _ => rfl
  | k + 1, i2, f17 => by
    rw [loopN_succ, rq85_0_0]
    simp only [lp85_0_0 K n0 f1 n3 i4 i5 i6 n7 n8 n9 n10 f11 n12 f13 n14 f15 n16 k]
    rfl
theorem lp85_2_0 {β : Type} (K : Ex → St → R β) (n2 : Nat) (i3 : Int) (i4 : Int) (i5 : Int) (n6 : Nat) (n7 : Nat) (n8 : Nat) (n9 : Nat) (f10 : (Nat → V)) (n11 : Nat) (f12 : (Nat → V)) (n13 : Nat) (n15 : Nat) (f16 : (Nat → V)) : ∀ (k : Nat) (i0 : Int) (i1 : Int) (f14 : (Nat → V)), loopN (exec { DCL85 with m := 5, nt := Try.f85.ntmps } (loopBody Try.f85 2) 2) (canonK { DCL85 with m := 5, nt := Try.f85.ntmps } 2) k ⟨[.ptr 0 [] 106, .junk, .junk, .junk, .junk, .int .i64 i0, .int .i64 i1, .junk, .junk, .junk, .junk, .junk], [.box 106 (.nd 106 [.sub 1 0 n2, .int .i64 i3, .int .i64 i4, .int .i64 i5, .sub 2 0 n6, .sub 3 0 n7, .sub 4 0 n8]), .row 3 n9 f10, .row 38 n11 f12, .row 4 n13 f14, .row 53 n15 f16]⟩ K = Ls85_2_0 K n2 i3 i4 i5 n6 n7 n8 n9 f10 n11 f12 n13 n15 f16 k i0 i1 f14
  | 0, _, _, _ => rfl
  | k + 1, i0, i1, f14 => by
    rw [loopN_succ, rq85_2_0]
    simp only [lp85_2_0 K n2 i3 i4 i5 n6 n7 n8 n9 f10 n11 f12 n13 n15 f16 k]
    rfl
theorem ll85_0_0 {β : Type} {PP : β → Prop} (st : St) (K : Ex → St → R β) (h : All PP (Lr85_0_0 st K)) : All PP (loopN (exec { DCL85 with m := 5, nt := Try.f85.ntmps } (loopBody Try.f85 0) 0) (canonK { DCL85 with m := 5, nt := Try.f85.ntmps } 0) DCL85.N (mkSt Ll85_0_0 Lg85_0_0 st) K) := by
  have hs : mkSt Ll85_0_0 Lg85_0_0 st = ⟨[.ptr 0 [] 106, .view 53 (lV st.loc 1) (lF st.loc 1), .junk, .junk, .int .i64 (lI st.loc 4), .junk, .junk, .junk, .junk, .junk, .junk, .junk], [.box 106 (.nd 106 [.sub 1 0 (gN1 st.G 0 0), .int .i64 (gI1 st.G 0 1), .int .i64 (gI1 st.G 0 2), .int .i64 (gI1 st.G 0 3), .sub 2 0 (gN1 st.G 0 4), .sub 3 0 (gN1 st.G 0 5), .sub 4 0 (gN1 st.G 0 6)]), .row 3 (rN st.G 1) (rF st.G 1), .row 38 (rN st.G 2) (rF st.G 2), .row 4 (rN st.G 3) (rF st.G 3), .row 53 (rN st.G 4) (rF st.G 4)]⟩ := by kernel_rfl
  have hn : DCL85.N = NN := by kernel_rfl
  unfold Lr85_0_0 at h
  rw [NNo_eq] at h
  rw [hs, hn, lp85_0_0]
  exact h
theorem ll85_2_0 {β : Type} {PP : β → Prop} (st : St) (K : Ex → St → R β) (h : All PP (Lr85_2_0 st K)) : All PP (loopN (exec { DCL85 with m := 5, nt := Try.f85.ntmps } (loopBody Try.f85 2) 2) (canonK { DCL85 with m := 5, nt := Try.f85.ntmps } 2) DCL85.N (mkSt Ll85_2_0 Lg85_2_0 st) K) := by
  have hs : mkSt Ll85_2_0 Lg85_2_0 st = ⟨[.ptr 0 [] 106, .junk, .junk, .junk, .junk, .int .i64 (lI st.loc 5), .int .i64 (lI st.loc 6), .junk, .junk, .junk, .junk, .junk], [.box 106 (.nd 106 [.sub 1 0 (gN1 st.G 0 0), .int .i64 (gI1 st.G 0 1), .int .i64 (gI1 st.G 0 2), .int .i64 (gI1 st.G 0 3), .sub 2 0 (gN1 st.G 0 4), .sub 3 0 (gN1 st.G 0 5), .sub 4 0 (gN1 st.G 0 6)]), .row 3 (rN st.G 1) (rF st.G 1), .row 38 (rN st.G 2) (rF st.G 2), .row 4 (rN st.G 3) (rF st.G 3), .row 53 (rN st.G 4) (rF st.G 4)]⟩ := by kernel_rfl
  have hn : DCL85.N = NN := by kernel_rfl
  unfold Lr85_2_0 at h
  rw [NNo_eq] at h
  rw [hs, hn, lp85_2_0]
  exact h
theorem hlD85 : LoopsL DCL85 Try.f85.ntmps (loopsIn (codeOf Try.f85) 0) := by
  have e : loopsIn (codeOf Try.f85) 0 = [(0, loopBody Try.f85 0), (2, loopBody Try.f85 2)] := by kernel_rfl
  rw [e]
  exact (loops_two (loopOK_of (by kernel_rfl) (loopE_told (c := DCL85) (nt := Try.f85.ntmps) (k := 0) (b := loopBody Try.f85 0) (m0 := 5) (l := Ll85_0_0) (g := Lg85_0_0) (run := @Lr85_0_0) (h := @ll85_0_0))) (loops_two (loopOK_of (by kernel_rfl) (loopE_told (c := DCL85) (nt := Try.f85.ntmps) (k := 2) (b := loopBody Try.f85 2) (m0 := 5) (l := Ll85_2_0) (g := Lg85_2_0) (run := @Lr85_2_0) (h := @ll85_2_0))) loops_none'))
theorem okDB85 : EntryOK Try.prog T 85 DB85 := @ok_of Try.prog T tabOK mixedOK DCL85 (by kernel_rfl) (fnsL_cons okD36 (fnsL_cons okD117 fnsL_nil)) 85 Try.f85 Try.func85 (by kernel_rfl) (by kernel_rfl) (by kernel_rfl) hlD85 [] (joins_none (by kernel_rfl))
theorem ff85_0 {β : Type} {PP : β → Prop} (a : List V) (G : List Reg) (K : V → List Reg → R β) (h : All PP (Sr85_0 a G K)) : All PP (DB85.run (mkVs Sl85_0 (locAt a) 0) (mkG Sg85_0 (regAt G) 0) K) := by
  have h1 : DB85.run (mkVs Sl85_0 (locAt a) 0) (mkG Sg85_0 (regAt G) 0) K = DB85.run [.ptr 0 [] 106, .view 53 (lV a 1) (lF a 1)] [.box 106 (.nd 106 [.sub 1 0 (gN1 G 0 0), .int .i64 (gI1 G 0 1), .int .i64 (gI1 G 0 2), .int .i64 (gI1 G 0 3), .sub 2 0 (gN1 G 0 4), .sub 3 0 (gN1 G 0 5), .sub 4 0 (gN1 G 0 6)]), .row 3 (rN G 1) (rF G 1), .row 38 (rN G 2) (rF G 2), .row 4 (rN G 3) (rF G 3), .row 53 (rN G 4) (rF G 4)] K := by kernel_rfl
  unfold Sr85_0 at h
  rw [h1, fq85_0]
  exact h
theorem okD85 : EntryOK Try.prog T 85 DS85 := (@entryE_told Try.prog T 85 [] DB85 DB85 okDB85 okDB85 Sl85_0 Sg85_0 @Sr85_0 @ff85_0)
theorem lp86_0_0 {β : Type} (K : Ex → St → R β) (i0 : Int) (i1 : Int) (n4 : Nat) (i5 : Int) (i6 : Int) (i7 : Int) (n8 : Nat) (n9 : Nat) (n10 : Nat) (n11 : Nat) (f12 : (Nat → V)) (n13 : Nat) (f14 : (Nat → V)) (n15 : Nat) (f16 : (Nat → V)) (n17 : Nat) (f18 : (Nat → V)) (i19 : Int) (i20 : Int) (i21 : Int) (i22 : Int) (i23 : Int) : ∀ (k : Nat) (n2 : Nat) (i3 : Int) (n24 : Nat) (f25 : (Nat → V)), loopN (exec { DCL86 with m := 5, nt := Try.f86.ntmps } (loopBody Try.f86 0) 0) (canonK { DCL86 with m := 5, nt := Try.f86.ntmps } 0) k ⟨[.ptr 0 [] 106, .int .i64 i0, .int .i64 i1, .junk, .junk, .ptr 5 [] 38, .sub 6 0 n2, .int .i64 i3, .junk, .junk, .junk, .junk, .junk, .junk], [.box 106 (.nd 106 [.sub 1 0 n4, .int .i64 i5, .int .i64 i6, .int .i64 i7, .sub 2 0 n8, .sub 3 0 n9, .sub 4 0 n10]), .row 3 n11 f12, .row 38 n13 f14, .row 4 n15 f16, .row 53 n17 f18, .box 38 (.nd 38 [.int .i64 i19, .int .i64 i20, .int .i64 i21, .int .i64 i22, .int .i64 i23]), .row 38 n24 f25]⟩ K = Ls86_0_0 K i0 i1 n4 i5 i6 i7 n8 n9 n10 n11 f12 n13 f14 n15 f16 n17 f18 i19 i20 i21 i22 i23 k n2 i3 n24 f25
  | 0, _, _, _, _ => rfl
  | k + 1, n2, i3, n24, f25 => by
    rw [loopN_succ, rq86_0_0]
    simp only [lp86_0_0 K i0 i1 n4 i5 i6 i7 n8 n9 n10 n11 f12 n13 f14 n15 f16 n17 f18 i19 i20 i21 i22 i23 k]
    rfl
theorem ll86_0_0 {β : Type} {PP : β → Prop} (st : St) (K : Ex → St → R β) (h : All PP (Lr86_0_0 st K)) : All PP (loopN (exec { DCL86 with m := 5, nt := Try.f86.ntmps } (loopBody Try.f86 0) 0) (canonK { DCL86 with m := 5, nt := Try.f86.ntmps } 0) DCL86.N (mkSt Ll86_0_0 Lg86_0_0 st) K) := by
  have hs : mkSt Ll86_0_0 Lg86_0_0 st = ⟨[.ptr 0 [] 106, .int .i64 (lI st.loc 1), .int .i64 (lI st.loc 2), .junk, .junk, .ptr 5 [] 38, .sub 6 0 (lN st.loc 6), .int .i64 (lI st.loc 7), .junk, .junk, .junk, .junk, .junk, .junk], [.box 106 (.nd 106 [.sub 1 0 (gN1 st.G 0 0), .int .i64 (gI1 st.G 0 1), .int .i64 (gI1 st.G 0 2), .int .i64 (gI1 st.G 0 3), .sub 2 0 (gN1 st.G 0 4), .sub 3 0 (gN1 st.G 0 5), .sub 4 0 (gN1 st.G 0 6)]), .row 3 (rN st.G 1) (rF st.G 1), .row 38 (rN st.G 2) (rF st.G 2), .row 4 (rN st.G 3) (rF st.G 3), .row 53 (rN st.G 4) (rF st.G 4), .box 38 (.nd 38 [.int .i64 (gI1 st.G 5 0), .int .i64 (gI1 st.G 5 1), .int .i64 (gI1 st.G 5 2), .int .i64 (gI1 st.G 5 3), .int .i64 (gI1 st.G 5 4)]), .row 38 (rN st.G 6) (rF st.G 6)]⟩ := by kernel_rfl
  have hn : DCL86.N = NN := by kernel_rfl
  unfold Lr86_0_0 at h
  rw [NNo_eq] at h
  rw [hs, hn, lp86_0_0]
  exact h
theorem hlD86 : LoopsL DCL86 Try.f86.ntmps (loopsIn (codeOf Try.f86) 0) := by
  have e : loopsIn (codeOf Try.f86) 0 = [(0, loopBody Try.f86 0)] := by kernel_rfl
  rw [e]
  exact (loops_two (loopOK_of (by kernel_rfl) (loopE_told (c := DCL86) (nt := Try.f86.ntmps) (k := 0) (b := loopBody Try.f86 0) (m0 := 5) (l := Ll86_0_0) (g := Lg86_0_0) (run := @Lr86_0_0) (h := @ll86_0_0))) loops_none')
theorem okDB86 : EntryOK Try.prog T 86 DB86 := @ok_of Try.prog T tabOK mixedOK DCL86 (by kernel_rfl) (fnsL_cons okD87 fnsL_nil) 86 Try.f86 Try.func86 (by kernel_rfl) (by kernel_rfl) (by kernel_rfl) hlD86 [] (joins_none (by kernel_rfl))
theorem ff86_0 {β : Type} {PP : β → Prop} (a : List V) (G : List Reg) (K : V → List Reg → R β) (h : All PP (Sr86_0 a G K)) : All PP (DB86.run (mkVs Sl86_0 (locAt a) 0) (mkG Sg86_0 (regAt G) 0) K) := by
  have h1 : DB86.run (mkVs Sl86_0 (locAt a) 0) (mkG Sg86_0 (regAt G) 0) K = DB86.run [.ptr 0 [] 106, .int .i64 (lI a 1), .int .i64 (lI a 2)] [.box 106 (.nd 106 [.sub 1 0 (gN1 G 0 0), .int .i64 (gI1 G 0 1), .int .i64 (gI1 G 0 2), .int .i64 (gI1 G 0 3), .sub 2 0 (gN1 G 0 4), .sub 3 0 (gN1 G 0 5), .sub 4 0 (gN1 G 0 6)]), .row 3 (rN G 1) (rF G 1), .row 38 (rN G 2) (rF G 2), .row 4 (rN G 3) (rF G 3), .row 53 (rN G 4) (rF G 4)] K := by kernel_rfl
  unfold Sr86_0 at h
  rw [h1, fq86_0]
  exact h
theorem okD86 : EntryOK Try.prog T 86 DS86 := (@entryE_told Try.prog T 86 [] DB86 DB86 okDB86 okDB86 Sl86_0 Sg86_0 @Sr86_0 @ff86_0)
theorem lp43_1_0 {β : Type} (K : Ex → St → R β) (n0 : Nat) (b1 : Bool) (i2 : Int) (n4 : Nat) (i5 : Int) (i6 : Int) (i7 : Int) (i8 : Int) (i9 : Int) (i10 : Int) (i11 : Int) (i12 : Int) (n13 : Nat) (n14 : Nat) (n15 : Nat) (i16 : Int) (i17 : Int) (i18 : Int) (n19 : Nat) (n20 : Nat) (n21 : Nat) (n22 : Nat) (f23 : (Nat → V)) (n24 : Nat) (f25 : (Nat → V)) (n26 : Nat) (f27 : (Nat → V)) (n28 : Nat) (f29 : (Nat → V)) (n30 : Nat) (f31 : (Nat → V)) (n32 : Nat) (f33 : (Nat → V)) (n34 : Nat) (f35 : (Nat → V)) (n36 : Nat) : ∀ (k : Nat) (i3 : Int) (f37 : (Nat → V)), loopN (exec { DCL43 with m := 9, nt := Try.f43.ntmps } (loopBody Try.f43 1) 1) (canonK { DCL43 with m := 9, nt := Try.f43.ntmps } 1) k ⟨[.junk, .junk, .junk, .junk, .junk, .junk, .junk, .junk, .junk, .junk, .sub 9 0 n0, .junk, .junk, .junk, .junk, .bool b1, .junk, .junk, .junk, .junk, .junk, .junk, .junk, .junk, .junk, .junk, .junk, .int .i64 i2, .int .i64 i3, .junk], [.box 150 (.nd 150 [.nd 148 [.sub 2 0 n4, .int .i64 i5], .int .i64 i6, .int .i64 i7, .nd 38 [.int .i64 i8, .int .i64 i9, .int .i64 i10, .int .i64 i11, .int .i64 i12], .sub 3 0 n13, .sub 4 0 n14]), .box 106 (.nd 106 [.sub 5 0 n15, .int .i64 i16, .int .i64 i17, .int .i64 i18, .sub 6 0 n19, .sub 7 0 n20, .sub 8 0 n21]), .row 3 n22 f23, .row 38 n24 f25, .row 53 n26 f27, .row 3 n28 f29, .row 38 n30 f31, .row 4 n32 f33, .row 53 n34 f35, .row 53 n36 f37]⟩ K = Ls43_1_0 K n0 b1 i2 n4 i5 i6 i7 i8 i9 i10 i11 i12 n13 n14 n15 i16 i17 i18 n19 n20 n21 n22 f23 n24 f25 n26 f27 n28 f29 n30 f31 n32 f33 n34 f35 n36 k i3 f37
  | 0, _, _ => rfl
  | k + 1, i3, f37 => by
    rw [loopN_succ, rq43_1_0]
    simp only [lp43_1_0 K n0 b1 i2 n4 i5 i6 i7 i8 i9 i10 i11 i12 n13 n14 n15 i16 i17 i18 n19 n20 n21 n22 f23 n24 f25 n26 f27 n28 f29 n30 f31 n32 f33 n34 f35 n36 k]
    rfl
theorem ll43_1_0 {β : Type} {PP : β → Prop} (st : St) (K : Ex → St → R β) (h : All PP (Lr43_1_0 st K)) : All PP (loopN (exec { DCL43 with m := 9, nt := Try.f43.ntmps } (loopBody Try.f43 1) 1) (canonK { DCL43 with m := 9, nt := Try.f43.ntmps } 1) DCL43.N (mkSt Ll43_1_0 Lg43_1_0 st) K) := by
  have hs : mkSt Ll43_1_0 Lg43_1_0 st = ⟨[.junk, .junk, .junk, .junk, .junk, .junk, .junk, .junk, .junk, .junk, .sub 9 0 (lN st.loc 10), .junk, .junk, .junk, .junk, .bool (lB st.loc 15), .junk, .junk, .junk, .junk, .junk, .junk, .junk, .junk, .junk, .junk, .junk, .int .i64 (lI st.loc 27), .int .i64 (lI st.loc 28), .junk], [.box 150 (.nd 150 [.nd 148 [.sub 2 0 (gN2 st.G 0 0 0), .int .i64 (gI2 st.G 0 0 1)], .int .i64 (gI1 st.G 0 1), .int .i64 (gI1 st.G 0 2), .nd 38 [.int .i64 (gI2 st.G 0 3 0), .int .i64 (gI2 st.G 0 3 1), .int .i64 (gI2 st.G 0 3 2), .int .i64 (gI2 st.G 0 3 3), .int .i64 (gI2 st.G 0 3 4)], .sub 3 0 (gN1 st.G 0 4), .sub 4 0 (gN1 st.G 0 5)]), .box 106 (.nd 106 [.sub 5 0 (gN1 st.G 1 0), .int .i64 (gI1 st.G 1 1), .int .i64 (gI1 st.G 1 2), .int .i64 (gI1 st.G 1 3), .sub 6 0 (gN1 st.G 1 4), .sub 7 0 (gN1 st.G 1 5), .sub 8 0 (gN1 st.G 1 6)]), .row 3 (rN st.G 2) (rF st.G 2), .row 38 (rN st.G 3) (rF st.G 3), .row 53 (rN st.G 4) (rF st.G 4), .row 3 (rN st.G 5) (rF st.G 5), .row 38 (rN st.G 6) (rF st.G 6), .row 4 (rN st.G 7) (rF st.G 7), .row 53 (rN st.G 8) (rF st.G 8), .row 53 (rN st.G 9) (rF st.G 9)]⟩ := by kernel_rfl
  have hn : DCL43.N = NN := by kernel_rfl
  unfold Lr43_1_0 at h
  rw [NNo_eq] at h
  rw [hs, hn, lp43_1_0]
  exact h
theorem jl43_6_0 {β : Type} {PP : β → Prop} (st : St) (K : Ex → St → R β) (h : All PP (Kr43_6_0 st K)) : All PP (exec { DCL43 with m := 9, nt := Try.f43.ntmps } (joinBody Try.f43 6).1 (joinBody Try.f43 6).2 (mkSt Kl43_6_0 Kg43_6_0 st) (endK DCL43.keep [0, 1, 5, 172, 173, 174] K)) := by
  have hs : mkSt Kl43_6_0 Kg43_6_0 st = ⟨[.ptr 0 [] 150, .ptr 1 [] 106, .junk, .ptr 9 [] 79, .junk, .fn 23 [], .ptr 10 [] 38, .ei (eiB (locAt st.loc 7)) (eiT (locAt st.loc 7)) (eiN (locAt st.loc 7)), .junk, .junk, .junk, .junk, .junk, .junk, .junk, .junk, .junk, .junk, .junk, .junk, .junk, .junk, .junk, .junk, .junk, .junk, .junk, .junk, .junk, .junk], [.box 150 (.nd 150 [.nd 148 [.sub 2 0 (gN2 st.G 0 0 0), .int .i64 (gI2 st.G 0 0 1)], .int .i64 (gI1 st.G 0 1), .int .i64 (gI1 st.G 0 2), .nd 38 [.int .i64 (gI2 st.G 0 3 0), .int .i64 (gI2 st.G 0 3 1), .int .i64 (gI2 st.G 0 3 2), .int .i64 (gI2 st.G 0 3 3), .int .i64 (gI2 st.G 0 3 4)], .sub 3 0 (gN1 st.G 0 4), .sub 4 0 (gN1 st.G 0 5)]), .box 106 (.nd 106 [.sub 5 0 (gN1 st.G 1 0), .int .i64 (gI1 st.G 1 1), .int .i64 (gI1 st.G 1 2), .int .i64 (gI1 st.G 1 3), .sub 6 0 (gN1 st.G 1 4), .sub 7 0 (gN1 st.G 1 5), .sub 8 0 (gN1 st.G 1 6)]), .row 3 (rN st.G 2) (rF st.G 2), .row 38 (rN st.G 3) (rF st.G 3), .row 53 (rN st.G 4) (rF st.G 4), .row 3 (rN st.G 5) (rF st.G 5), .row 38 (rN st.G 6) (rF st.G 6), .row 4 (rN st.G 7) (rF st.G 7), .row 53 (rN st.G 8) (rF st.G 8), .box 79 (.nd 79 [.int .i64 (gI1 st.G 9 0), .int .i64 (gI1 st.G 9 1), .int .i64 (gI1 st.G 9 2), .int .i64 (gI1 st.G 9 3), .nd 38 [.int .i64 (gI2 st.G 9 4 0), .int .i64 (gI2 st.G 9 4 1), .int .i64 (gI2 st.G 9 4 2), .int .i64 (gI2 st.G 9 4 3), .int .i64 (gI2 st.G 9 4 4)], .view 53 (gV1 st.G 9 5) (gF1 st.G 9 5)]), .box 38 (.nd 38 [.int .i64 (gI1 st.G 10 0), .int .i64 (gI1 st.G 10 1), .int .i64 (gI1 st.G 10 2), .int .i64 (gI1 st.G 10 3), .int .i64 (gI1 st.G 10 4)])]⟩ := by kernel_rfl
  unfold Kr43_6_0 at h
  rw [hs, jq43_6_0]
  exact h
theorem jl43_7_0 {β : Type} {PP : β → Prop} (st : St) (K : Ex → St → R β) (h : All PP (Kr43_7_0 st K)) : All PP (exec { DCL43 with m := 9, nt := Try.f43.ntmps } (joinBody Try.f43 7).1 (joinBody Try.f43 7).2 (mkSt Kl43_7_0 Kg43_7_0 st) (endK DCL43.keep [0, 1, 5, 172, 173, 174] K)) := by
  have hs : mkSt Kl43_7_0 Kg43_7_0 st = ⟨[.ptr 0 [] 150, .ptr 1 [] 106, .junk, .ptr 9 [] 79, .junk, .fn 23 [], .ptr 10 [] 38, .ei (eiB (locAt st.loc 7)) (eiT (locAt st.loc 7)) (eiN (locAt st.loc 7)), .ptr 11 [] 38, .int .i64 (lI st.loc 9), .junk, .junk, .junk, .junk, .junk, .junk, .junk, .junk, .junk, .junk, .junk, .junk, .junk, .junk, .junk, .junk, .junk, .junk, .junk, .junk], [.box 150 (.nd 150 [.nd 148 [.sub 2 0 (gN2 st.G 0 0 0), .int .i64 (gI2 st.G 0 0 1)], .int .i64 (gI1 st.G 0 1), .int .i64 (gI1 st.G 0 2), .nd 38 [.int .i64 (gI2 st.G 0 3 0), .int .i64 (gI2 st.G 0 3 1), .int .i64 (gI2 st.G 0 3 2), .int .i64 (gI2 st.G 0 3 3), .int .i64 (gI2 st.G 0 3 4)], .sub 3 0 (gN1 st.G 0 4), .sub 4 0 (gN1 st.G 0 5)]), .box 106 (.nd 106 [.sub 5 0 (gN1 st.G 1 0), .int .i64 (gI1 st.G 1 1), .int .i64 (gI1 st.G 1 2), .int .i64 (gI1 st.G 1 3), .sub 6 0 (gN1 st.G 1 4), .sub 7 0 (gN1 st.G 1 5), .sub 8 0 (gN1 st.G 1 6)]), .row 3 (rN st.G 2) (rF st.G 2), .row 38 (rN st.G 3) (rF st.G 3), .row 53 (rN st.G 4) (rF st.G 4), .row 3 (rN st.G 5) (rF st.G 5), .row 38 (rN st.G 6) (rF st.G 6), .row 4 (rN st.G 7) (rF st.G 7), .row 53 (rN st.G 8) (rF st.G 8), .box 79 (.nd 79 [.int .i64 (gI1 st.G 9 0), .int .i64 (gI1 st.G 9 1), .int .i64 (gI1 st.G 9 2), .int .i64 (gI1 st.G 9 3), .nd 38 [.int .i64 (gI2 st.G 9 4 0), .int .i64 (gI2 st.G 9 4 1), .int .i64 (gI2 st.G 9 4 2), .int .i64 (gI2 st.G 9 4 3), .int .i64 (gI2 st.G 9 4 4)], .view 53 (gV1 st.G 9 5) (gF1 st.G 9 5)]), .box 38 (.nd 38 [.int .i64 (gI1 st.G 10 0), .int .i64 (gI1 st.G 10 1), .int .i64 (gI1 st.G 10 2), .int .i64 (gI1 st.G 10 3), .int .i64 (gI1 st.G 10 4)]), .box 38 (.nd 38 [.int .i64 (gI1 st.G 11 0), .int .i64 (gI1 st.G 11 1), .int .i64 (gI1 st.G 11 2), .int .i64 (gI1 st.G 11 3), .int .i64 (gI1 st.G 11 4)])]⟩ := by kernel_rfl
  unfold Kr43_7_0 at h
  rw [hs, jq43_7_0]
  exact h
theorem jl43_10_0 {β : Type} {PP : β → Prop} (st : St) (K : Ex → St → R β) (h : All PP (Kr43_10_0 st K)) : All PP (exec { DCL43 with m := 9, nt := Try.f43.ntmps } (joinBody Try.f43 10).1 (joinBody Try.f43 10).2 (mkSt Kl43_10_0 Kg43_10_0 st) (endK DCL43.keep [0, 1, 5, 172, 173, 174] K)) := by
  have hs : mkSt Kl43_10_0 Kg43_10_0 st = ⟨[.ptr 0 [] 150, .ptr 1 [] 106, .junk, .junk, .junk, .fn 23 [], .ptr 9 [] 38, .ei (eiB (locAt st.loc 7)) (eiT (locAt st.loc 7)) (eiN (locAt st.loc 7)), .ptr 10 [] 38, .int .i64 (lI st.loc 9), .junk, .junk, .junk, .junk, .junk, .junk, .junk, .junk, .junk, .junk, .junk, .junk, .junk, .junk, .junk, .junk, .junk, .junk, .junk, .junk], [.box 150 (.nd 150 [.nd 148 [.sub 2 0 (gN2 st.G 0 0 0), .int .i64 (gI2 st.G 0 0 1)], .int .i64 (gI1 st.G 0 1), .int .i64 (gI1 st.G 0 2), .nd 38 [.int .i64 (gI2 st.G 0 3 0), .int .i64 (gI2 st.G 0 3 1), .int .i64 (gI2 st.G 0 3 2), .int .i64 (gI2 st.G 0 3 3), .int .i64 (gI2 st.G 0 3 4)], .sub 3 0 (gN1 st.G 0 4), .sub 4 0 (gN1 st.G 0 5)]), .box 106 (.nd 106 [.sub 5 0 (gN1 st.G 1 0), .int .i64 (gI1 st.G 1 1), .int .i64 (gI1 st.G 1 2), .int .i64 (gI1 st.G 1 3), .sub 6 0 (gN1 st.G 1 4), .sub 7 0 (gN1 st.G 1 5), .sub 8 0 (gN1 st.G 1 6)]), .row 3 (rN st.G 2) (rF st.G 2), .row 38 (rN st.G 3) (rF st.G 3), .row 53 (rN st.G 4) (rF st.G 4), .row 3 (rN st.G 5) (rF st.G 5), .row 38 (rN st.G 6) (rF st.G 6), .row 4 (rN st.G 7) (rF st.G 7), .row 53 (rN st.G 8) (rF st.G 8), .box 38 (.nd 38 [.int .i64 (gI1 st.G 9 0), .int .i64 (gI1 st.G 9 1), .int .i64 (gI1 st.G 9 2), .int .i64 (gI1 st.G 9 3), .int .i64 (gI1 st.G 9 4)]), .box 38 (.nd 38 [.int .i64 (gI1 st.G 10 0), .int .i64 (gI1 st.G 10 1), .int .i64 (gI1 st.G 10 2), .int .i64 (gI1 st.G 10 3), .int .i64 (gI1 st.G 10 4)])]⟩ := by kernel_rfl
  unfold Kr43_10_0 at h
  rw [hs, jq43_10_0]
  exact h
theorem jl43_12_0 {β : Type} {PP : β → Prop} (st : St) (K : Ex → St → R β) (h : All PP (Kr43_12_0 st K)) : All PP (exec { DCL43 with m := 9, nt := Try.f43.ntmps } (joinBody Try.f43 12).1 (joinBody Try.f43 12).2 (mkSt Kl43_12_0 Kg43_12_0 st) (endK DCL43.keep [0, 1, 5, 172, 173, 174] K)) := by
  have hs : mkSt Kl43_12_0 Kg43_12_0 st = ⟨[.ptr 0 [] 150, .ptr 1 [] 106, .junk, .junk, .junk, .junk, .ptr 9 [] 38, .junk, .ptr 10 [] 38, .int .i64 (lI st.loc 9), .junk, .junk, .junk, .junk, .junk, .junk, .junk, .junk, .junk, .junk, .junk, .junk, .junk, .junk, .junk, .junk, .junk, .junk, .junk, .junk], [.box 150 (.nd 150 [.nd 148 [.sub 2 0 (gN2 st.G 0 0 0), .int .i64 (gI2 st.G 0 0 1)], .int .i64 (gI1 st.G 0 1), .int .i64 (gI1 st.G 0 2), .nd 38 [.int .i64 (gI2 st.G 0 3 0), .int .i64 (gI2 st.G 0 3 1), .int .i64 (gI2 st.G 0 3 2), .int .i64 (gI2 st.G 0 3 3), .int .i64 (gI2 st.G 0 3 4)], .sub 3 0 (gN1 st.G 0 4), .sub 4 0 (gN1 st.G 0 5)]), .box 106 (.nd 106 [.sub 5 0 (gN1 st.G 1 0), .int .i64 (gI1 st.G 1 1), .int .i64 (gI1 st.G 1 2), .int .i64 (gI1 st.G 1 3), .sub 6 0 (gN1 st.G 1 4), .sub 7 0 (gN1 st.G 1 5), .sub 8 0 (gN1 st.G 1 6)]), .row 3 (rN st.G 2) (rF st.G 2), .row 38 (rN st.G 3) (rF st.G 3), .row 53 (rN st.G 4) (rF st.G 4), .row 3 (rN st.G 5) (rF st.G 5), .row 38 (rN st.G 6) (rF st.G 6), .row 4 (rN st.G 7) (rF st.G 7), .row 53 (rN st.G 8) (rF st.G 8), .box 38 (.nd 38 [.int .i64 (gI1 st.G 9 0), .int .i64 (gI1 st.G 9 1), .int .i64 (gI1 st.G 9 2), .int .i64 (gI1 st.G 9 3), .int .i64 (gI1 st.G 9 4)]), .box 38 (.nd 38 [.int .i64 (gI1 st.G 10 0), .int .i64 (gI1 st.G 10 1), .int .i64 (gI1 st.G 10 2), .int .i64 (gI1 st.G 10 3), .int .i64 (gI1 st.G 10 4)])]⟩ := by kernel_rfl
  unfold Kr43_12_0 at h
  rw [hs, jq43_12_0]
  exact h
theorem jl43_18_0 {β : Type} {PP : β → Prop} (st : St) (K : Ex → St → R β) (h : All PP (Kr43_18_0 st K)) : All PP (exec { DCL43 with m := 9, nt := Try.f43.ntmps } (joinBody Try.f43 18).1 (joinBody Try.f43 18).2 (mkSt Kl43_18_0 Kg43_18_0 st) (endK DCL43.keep [0, 1, 5, 172, 173, 174] K)) := by
  have hs : mkSt Kl43_18_0 Kg43_18_0 st = ⟨[.junk, .ptr 1 [] 106, .junk, .ptr 9 [] 79, .junk, .fn 23 [], .junk, .junk, .junk, .junk, .sub 10 0 (lN st.loc 10), .int .i64 (lI st.loc 11), .ei (eiB (locAt st.loc 12)) (eiT (locAt st.loc 12)) (eiN (locAt st.loc 12)), .junk, .junk, .junk, .junk, .junk, .junk, .junk, .junk, .junk, .junk, .junk, .junk, .junk, .junk, .junk, .junk, .junk], [.box 150 (.nd 150 [.nd 148 [.sub 2 0 (gN2 st.G 0 0 0), .int .i64 (gI2 st.G 0 0 1)], .int .i64 (gI1 st.G 0 1), .int .i64 (gI1 st.G 0 2), .nd 38 [.int .i64 (gI2 st.G 0 3 0), .int .i64 (gI2 st.G 0 3 1), .int .i64 (gI2 st.G 0 3 2), .int .i64 (gI2 st.G 0 3 3), .int .i64 (gI2 st.G 0 3 4)], .sub 3 0 (gN1 st.G 0 4), .sub 4 0 (gN1 st.G 0 5)]), .box 106 (.nd 106 [.sub 5 0 (gN1 st.G 1 0), .int .i64 (gI1 st.G 1 1), .int .i64 (gI1 st.G 1 2), .int .i64 (gI1 st.G 1 3), .sub 6 0 (gN1 st.G 1 4), .sub 7 0 (gN1 st.G 1 5), .sub 8 0 (gN1 st.G 1 6)]), .row 3 (rN st.G 2) (rF st.G 2), .row 38 (rN st.G 3) (rF st.G 3), .row 53 (rN st.G 4) (rF st.G 4), .row 3 (rN st.G 5) (rF st.G 5), .row 38 (rN st.G 6) (rF st.G 6), .row 4 (rN st.G 7) (rF st.G 7), .row 53 (rN st.G 8) (rF st.G 8), .box 79 (.nd 79 [.int .i64 (gI1 st.G 9 0), .int .i64 (gI1 st.G 9 1), .int .i64 (gI1 st.G 9 2), .int .i64 (gI1 st.G 9 3), .nd 38 [.int .i64 (gI2 st.G 9 4 0), .int .i64 (gI2 st.G 9 4 1), .int .i64 (gI2 st.G 9 4 2), .int .i64 (gI2 st.G 9 4 3), .int .i64 (gI2 st.G 9 4 4)], .view 53 (gV1 st.G 9 5) (gF1 st.G 9 5)]), .row 53 (rN st.G 10) (rF st.G 10)]⟩ := by kernel_rfl
  unfold Kr43_18_0 at h
  rw [hs, jq43_18_0]
  exact h
theorem jl43_19_0 {β : Type} {PP : β → Prop} (st : St) (K : Ex → St → R β) (h : All PP (Kr43_19_0 st K)) : All PP (exec { DCL43 with m := 9, nt := Try.f43.ntmps } (joinBody Try.f43 19).1 (joinBody Try.f43 19).2 (mkSt Kl43_19_0 Kg43_19_0 st) (endK DCL43.keep [0, 1, 5, 172, 173, 174] K)) := by
  have hs : mkSt Kl43_19_0 Kg43_19_0 st = ⟨[.junk, .junk, .junk, .ptr 9 [] 79, .junk, .fn 23 [], .junk, .junk, .junk, .junk, .sub 10 0 (lN st.loc 10), .int .i64 (lI st.loc 11), .ei (eiB (locAt st.loc 12)) (eiT (locAt st.loc 12)) (eiN (locAt st.loc 12)), .int .i64 (lI st.loc 13), .int .i64 (lI st.loc 14), .junk, .junk, .junk, .junk, .junk, .junk, .junk, .junk, .junk, .junk, .junk, .junk, .junk, .junk, .junk], [.box 150 (.nd 150 [.nd 148 [.sub 2 0 (gN2 st.G 0 0 0), .int .i64 (gI2 st.G 0 0 1)], .int .i64 (gI1 st.G 0 1), .int .i64 (gI1 st.G 0 2), .nd 38 [.int .i64 (gI2 st.G 0 3 0), .int .i64 (gI2 st.G 0 3 1), .int .i64 (gI2 st.G 0 3 2), .int .i64 (gI2 st.G 0 3 3), .int .i64 (gI2 st.G 0 3 4)], .sub 3 0 (gN1 st.G 0 4), .sub 4 0 (gN1 st.G 0 5)]), .box 106 (.nd 106 [.sub 5 0 (gN1 st.G 1 0), .int .i64 (gI1 st.G 1 1), .int .i64 (gI1 st.G 1 2), .int .i64 (gI1 st.G 1 3), .sub 6 0 (gN1 st.G 1 4), .sub 7 0 (gN1 st.G 1 5), .sub 8 0 (gN1 st.G 1 6)]), .row 3 (rN st.G 2) (rF st.G 2), .row 38 (rN st.G 3) (rF st.G 3), .row 53 (rN st.G 4) (rF st.G 4), .row 3 (rN st.G 5) (rF st.G 5), .row 38 (rN st.G 6) (rF st.G 6), .row 4 (rN st.G 7) (rF st.G 7), .row 53 (rN st.G 8) (rF st.G 8), .box 79 (.nd 79 [.int .i64 (gI1 st.G 9 0), .int .i64 (gI1 st.G 9 1), .int .i64 (gI1 st.G 9 2), .int .i64 (gI1 st.G 9 3), .nd 38 [.int .i64 (gI2 st.G 9 4 0), .int .i64 (gI2 st.G 9 4 1), .int .i64 (gI2 st.G 9 4 2), .int .i64 (gI2 st.G 9 4 3), .int .i64 (gI2 st.G 9 4 4)], .view 53 (gV1 st.G 9 5) (gF1 st.G 9 5)]), .row 53 (rN st.G 10) (rF st.G 10)]⟩ := by kernel_rfl
  unfold Kr43_19_0 at h
  rw [hs, jq43_19_0]
  exact h
theorem jo43_6 : JoinTold DCL43 Try.f43.ntmps (joinBody Try.f43 6).1 (joinBody Try.f43 6).2 [0, 1, 5, 172, 173, 174] (loopE 9 Kl43_6_0 Kg43_6_0 Kr43_6_0) := by
  exact @joinE_told DCL43 Try.f43.ntmps _ _ _ 9 Kl43_6_0 Kg43_6_0 @Kr43_6_0 @jl43_6_0
theorem j143_6 : oneJoin Try.f43 6 = true := by kernel_rfl
theorem jo43_7 : JoinTold DCL43 Try.f43.ntmps (joinBody Try.f43 7).1 (joinBody Try.f43 7).2 [0, 1, 5, 172, 173, 174] (loopE 9 Kl43_7_0 Kg43_7_0 Kr43_7_0) := by
  exact @joinE_told DCL43 Try.f43.ntmps _ _ _ 9 Kl43_7_0 Kg43_7_0 @Kr43_7_0 @jl43_7_0
theorem j143_7 : oneJoin Try.f43 7 = true := by kernel_rfl
theorem jo43_10 : JoinTold DCL43 Try.f43.ntmps (joinBody Try.f43 10).1 (joinBody Try.f43 10).2 [0, 1, 5, 172, 173, 174] (loopE 9 Kl43_10_0 Kg43_10_0 Kr43_10_0) := by
  exact @joinE_told DCL43 Try.f43.ntmps _ _ _ 9 Kl43_10_0 Kg43_10_0 @Kr43_10_0 @jl43_10_0
theorem j143_10 : oneJoin Try.f43 10 = true := by kernel_rfl
theorem jo43_12 : JoinTold DCL43 Try.f43.ntmps (joinBody Try.f43 12).1 (joinBody Try.f43 12).2 [0, 1, 5, 172, 173, 174] (loopE 9 Kl43_12_0 Kg43_12_0 Kr43_12_0) := by
  exact @joinE_told DCL43 Try.f43.ntmps _ _ _ 9 Kl43_12_0 Kg43_12_0 @Kr43_12_0 @jl43_12_0
theorem j143_12 : oneJoin Try.f43 12 = true := by kernel_rfl
theorem jo43_18 : JoinTold DCL43 Try.f43.ntmps (joinBody Try.f43 18).1 (joinBody Try.f43 18).2 [0, 1, 5, 172, 173, 174] (loopE 9 Kl43_18_0 Kg43_18_0 Kr43_18_0) := by
  exact @joinE_told DCL43 Try.f43.ntmps _ _ _ 9 Kl43_18_0 Kg43_18_0 @Kr43_18_0 @jl43_18_0
theorem j143_18 : oneJoin Try.f43 18 = true := by kernel_rfl
theorem jo43_19 : JoinTold DCL43 Try.f43.ntmps (joinBody Try.f43 19).1 (joinBody Try.f43 19).2 [0, 1, 5, 172, 173, 174] (loopE 9 Kl43_19_0 Kg43_19_0 Kr43_19_0) := by
  exact @joinE_told DCL43 Try.f43.ntmps _ _ _ 9 Kl43_19_0 Kg43_19_0 @Kr43_19_0 @jl43_19_0
theorem j143_19 : oneJoin Try.f43 19 = true := by kernel_rfl
theorem hjD43 : JoinsL DCL43 Try.f43.ntmps (joinsIn (codeOf Try.f43) 0) := @joins_all DCL43 Try.f43.ntmps Try.f43 (@joinsB_cons DCL43 Try.f43.ntmps Try.f43 6 ([0, 1, 5, 7, 8, 9, 71, 72, 73, 74, 75, 80, 81, 82, 83, 84, 85, 86, 87, 88, 89], [0, 1, 5, 172, 173, 174]) (loopE 9 Kl43_6_0 Kg43_6_0 Kr43_6_0) _ j143_6 @jo43_6 (@joinsB_cons DCL43 Try.f43.ntmps Try.f43 7 ([0, 1, 5, 7, 8, 9, 10, 11, 71, 72, 73, 74, 75, 80, 81, 82, 83, 84, 85, 86, 87, 88, 89], [0, 1, 5, 172, 173, 174]) (loopE 9 Kl43_7_0 Kg43_7_0 Kr43_7_0) _ j143_7 @jo43_7 (@joinsB_cons DCL43 Try.f43.ntmps Try.f43 10 ([0, 1, 7, 8, 9, 10, 11, 71, 72, 73, 74, 75, 80, 81, 82, 83, 84, 85, 86, 87, 88, 89], [0, 1, 5, 172, 173, 174]) (loopE 9 Kl43_10_0 Kg43_10_0 Kr43_10_0) _ j143_10 @jo43_10 (@joinsB_cons DCL43 Try.f43.ntmps Try.f43 12 ([0, 1, 8, 10, 11, 80, 81, 82, 83, 84, 85, 86, 87, 88, 89], [0, 1, 5, 172, 173, 174]) (loopE 9 Kl43_12_0 Kg43_12_0 Kr43_12_0) _ j143_12 @jo43_12 (@joinsB_cons DCL43 Try.f43.ntmps Try.f43 18 ([1, 5, 7, 12, 13, 14, 127, 128, 129, 130, 131, 134, 135, 136, 137], [0, 1, 5, 172, 173, 174]) (loopE 9 Kl43_18_0 Kg43_18_0 Kr43_18_0) _ j143_18 @jo43_18 (@joinsB_cons DCL43 Try.f43.ntmps Try.f43 19 ([5, 7, 12, 13, 14, 15, 16, 127, 128, 129, 130, 131, 134, 135, 136, 137], [0, 1, 5, 172, 173, 174]) (loopE 9 Kl43_19_0 Kg43_19_0 Kr43_19_0) _ j143_19 @jo43_19 (@joinsB_nil DCL43 Try.f43.ntmps Try.f43)))))))
theorem hlD43 : LoopsL DCL43 Try.f43.ntmps (loopsIn (codeOf Try.f43) 0) := by
  have e : loopsIn (codeOf Try.f43) 0 = [(1, loopBody Try.f43 1)] := by kernel_rfl
  rw [e]
  exact (loops_two (loopOK_of (by kernel_rfl) (loopE_told (c := DCL43) (nt := Try.f43.ntmps) (k := 1) (b := loopBody Try.f43 1) (m0 := 9) (l := Ll43_1_0) (g := Lg43_1_0) (run := @Lr43_1_0) (h := @ll43_1_0))) loops_none')
theorem okDB43 : EntryOK Try.prog T 43 DB43 := @ok_of Try.prog T tabOK mixedOK DCL43 (by kernel_rfl) (fnsL_cons okD23 (fnsL_cons okD30 (fnsL_cons okD31 (fnsL_cons okD33 (fnsL_cons okD34 (fnsL_cons okD38 (fnsL_cons okD40 (fnsL_cons okD48 (fnsL_cons okD82 (fnsL_cons okD83 (fnsL_cons okD84 (fnsL_cons okD85 (fnsL_cons okD86 fnsL_nil))))))))))))) 43 Try.f43 Try.func43 (by kernel_rfl) (by kernel_rfl) (by kernel_rfl) hlD43 [] hjD43
theorem ff43_0 {β : Type} {PP : β → Prop} (a : List V) (G : List Reg) (K : V → List Reg → R β) (h : All PP (Sr43_0 a G K)) : All PP (DB43.run (mkVs Sl43_0 (locAt a) 0) (mkG Sg43_0 (regAt G) 0) K) := by
  have h1 : DB43.run (mkVs Sl43_0 (locAt a) 0) (mkG Sg43_0 (regAt G) 0) K = DB43.run [.ptr 0 [] 150, .ptr 1 [] 106, .nd 79 [.int .i64 (lI1 a 2 0), .int .i64 (lI1 a 2 1), .int .i64 (lI1 a 2 2), .int .i64 (lI1 a 2 3), .nd 38 [.int .i64 (intV (partV (partV (locAt a 2) 4) 0)), .int .i64 (intV (partV (partV (locAt a 2) 4) 1)), .int .i64 (intV (partV (partV (locAt a 2) 4) 2)), .int .i64 (intV (partV (partV (locAt a 2) 4) 3)), .int .i64 (intV (partV (partV (locAt a 2) 4) 4))], .view 53 (lV1 a 2 5) (lF1 a 2 5)]] [.box 150 (.nd 150 [.nd 148 [.sub 2 0 (gN2 G 0 0 0), .int .i64 (gI2 G 0 0 1)], .int .i64 (gI1 G 0 1), .int .i64 (gI1 G 0 2), .nd 38 [.int .i64 (gI2 G 0 3 0), .int .i64 (gI2 G 0 3 1), .int .i64 (gI2 G 0 3 2), .int .i64 (gI2 G 0 3 3), .int .i64 (gI2 G 0 3 4)], .sub 3 0 (gN1 G 0 4), .sub 4 0 (gN1 G 0 5)]), .box 106 (.nd 106 [.sub 5 0 (gN1 G 1 0), .int .i64 (gI1 G 1 1), .int .i64 (gI1 G 1 2), .int .i64 (gI1 G 1 3), .sub 6 0 (gN1 G 1 4), .sub 7 0 (gN1 G 1 5), .sub 8 0 (gN1 G 1 6)]), .row 3 (rN G 2) (rF G 2), .row 38 (rN G 3) (rF G 3), .row 53 (rN G 4) (rF G 4), .row 3 (rN G 5) (rF G 5), .row 38 (rN G 6) (rF G 6), .row 4 (rN G 7) (rF G 7), .row 53 (rN G 8) (rF G 8)] K := by kernel_rfl
  unfold Sr43_0 at h
  rw [h1, fq43_0]
  exact h
theorem okD43 : EntryOK Try.prog T 43 DS43 := (@entryE_told Try.prog T 43 [] DB43 DB43 okDB43 okDB43 Sl43_0 Sg43_0 @Sr43_0 @ff43_0)
theorem okD45 : EntryOK Try.prog T 45 DR45 := @ok_of Try.prog T tabOK mixedOK DCL45 (by kernel_rfl) (fnsL_cons ok81 fnsL_nil) 45 Try.f45 Try.func45 (by kernel_rfl) (by kernel_rfl) (by kernel_rfl) (loops_none (by kernel_rfl)) [] (joins_none (by kernel_rfl))
theorem lp44_0_0 {β : Type} (K : Ex → St → R β) (n0 : Nat) (i1 : Int) (n3 : Nat) (i4 : Int) (i5 : Int) (i6 : Int) (i7 : Int) (i8 : Int) (i9 : Int) (i10 : Int) (i11 : Int) (n12 : Nat) (n13 : Nat) (n14 : Nat) (i15 : Int) (i16 : Int) (i17 : Int) (n18 : Nat) (n19 : Nat) (n20 : Nat) (n21 : Nat) (f22 : (Nat → V)) (n23 : Nat) (f24 : (Nat → V)) (n25 : Nat) (f26 : (Nat → V)) (n27 : Nat) (f28 : (Nat → V)) (n29 : Nat) (f30 : (Nat → V)) (n31 : Nat) (f32 : (Nat → V)) (n33 : Nat) (f34 : (Nat → V)) (n35 : Nat) : ∀ (k : Nat) (i2 : Int) (f36 : (Nat → V)), loopN (exec { DCL44 with m := 9, nt := Try.f44.ntmps } (loopBody Try.f44 0) 0) (canonK { DCL44 with m := 9, nt := Try.f44.ntmps } 0) k ⟨[.junk, .junk, .junk, .junk, .junk, .junk, .junk, .junk, .sub 9 0 n0, .junk, .junk, .int .i64 i1, .int .i64 i2, .junk], [.box 150 (.nd 150 [.nd 148 [.sub 2 0 n3, .int .i64 i4], .int .i64 i5, .int .i64 i6, .nd 38 [.int .i64 i7, .int .i64 i8, .int .i64 i9, .int .i64 i10, .int .i64 i11], .sub 3 0 n12, .sub 4 0 n13]), .box 106 (.nd 106 [.sub 5 0 n14, .int .i64 i15, .int .i64 i16, .int .i64 i17, .sub 6 0 n18, .sub 7 0 n19, .sub 8 0 n20]), .row 3 n21 f22, .row 38 n23 f24, .row 53 n25 f26, .row 3 n27 f28, .row 38 n29 f30, .row 4 n31 f32, .row 53 n33 f34, .row 38 n35 f36]⟩ K = Ls44_0_0 K n0 i1 n3 i4 i5 i6 i7 i8 i9 i10 i11 n12 n13 n14 i15 i16 i17 n18 n19 n20 n21 f22 n23 f24 n25 f26 n27 f28 n29 f30 n31 f32 n33 f34 n35 k i2 f36
  | 0, _, _ => rfl
  | k + 1, i2, f36 => by
    rw [loopN_succ, rq44_0_0]
    simp only [lp44_0_0 K n0 i1 n3 i4 i5 i6 i7 i8 i9 i10 i11 n12 n13 n14 i15 i16 i17 n18 n19 n20 n21 f22 n23 f24 n25 f26 n27 f28 n29 f30 n31 f32 n33 f34 n35 k]
    rfl
theorem ll44_0_0 {β : Type} {PP : β → Prop} (st : St) (K : Ex → St → R β) (h : All PP (Lr44_0_0 st K)) : All PP (loopN (exec { DCL44 with m := 9, nt := Try.f44.ntmps } (loopBody Try.f44 0) 0) (canonK { DCL44 with m := 9, nt := Try.f44.ntmps } 0) DCL44.N (mkSt Ll44_0_0 Lg44_0_0 st) K) := by
  have hs : mkSt Ll44_0_0 Lg44_0_0 st = ⟨[.junk, .junk, .junk, .junk, .junk, .junk, .junk, .junk, .sub 9 0 (lN st.loc 8), .junk, .junk, .int .i64 (lI st.loc 11), .int .i64 (lI st.loc 12), .junk], [.box 150 (.nd 150 [.nd 148 [.sub 2 0 (gN2 st.G 0 0 0), .int .i64 (gI2 st.G 0 0 1)], .int .i64 (gI1 st.G 0 1), .int .i64 (gI1 st.G 0 2), .nd 38 [.int .i64 (gI2 st.G 0 3 0), .int .i64 (gI2 st.G 0 3 1), .int .i64 (gI2 st.G 0 3 2), .int .i64 (gI2 st.G 0 3 3), .int .i64 (gI2 st.G 0 3 4)], .sub 3 0 (gN1 st.G 0 4), .sub 4 0 (gN1 st.G 0 5)]), .box 106 (.nd 106 [.sub 5 0 (gN1 st.G 1 0), .int .i64 (gI1 st.G 1 1), .int .i64 (gI1 st.G 1 2), .int .i64 (gI1 st.G 1 3), .sub 6 0 (gN1 st.G 1 4), .sub 7 0 (gN1 st.G 1 5), .sub 8 0 (gN1 st.G 1 6)]), .row 3 (rN st.G 2) (rF st.G 2), .row 38 (rN st.G 3) (rF st.G 3), .row 53 (rN st.G 4) (rF st.G 4), .row 3 (rN st.G 5) (rF st.G 5), .row 38 (rN st.G 6) (rF st.G 6), .row 4 (rN st.G 7) (rF st.G 7), .row 53 (rN st.G 8) (rF st.G 8), .row 38 (rN st.G 9) (rF st.G 9)]⟩ := by kernel_rfl
  have hn : DCL44.N = NN := by kernel_rfl
  unfold Lr44_0_0 at h
  rw [NNo_eq] at h
  rw [hs, hn, lp44_0_0]
  exact h
theorem hlD44 : LoopsL DCL44 Try.f44.ntmps (loopsIn (codeOf Try.f44) 0) := by
  have e : loopsIn (codeOf Try.f44) 0 = [(0, loopBody Try.f44 0)] := by kernel_rfl
  rw [e]
  exact (loops_two (loopOK_of (by kernel_rfl) (loopE_told (c := DCL44) (nt := Try.f44.ntmps) (k := 0) (b := loopBody Try.f44 0) (m0 := 9) (l := Ll44_0_0) (g := Lg44_0_0) (run := @Lr44_0_0) (h := @ll44_0_0))) loops_none')
theorem okDB44 : EntryOK Try.prog T 44 DB44 := @ok_of Try.prog T tabOK mixedOK DCL44 (by kernel_rfl) (fnsL_cons okD32 (fnsL_cons okD34 (fnsL_cons okD37 (fnsL_cons okD39 (fnsL_cons okD45 (fnsL_cons okD48 (fnsL_cons okD87 (fnsL_cons okD88 fnsL_nil)))))))) 44 Try.f44 Try.func44 (by kernel_rfl) (by kernel_rfl) (by kernel_rfl) hlD44 [] (joins_none (by kernel_rfl))
theorem ff44_0 {β : Type} {PP : β → Prop} (a : List V) (G : List Reg) (K : V → List Reg → R β) (h : All PP (Sr44_0 a G K)) : All PP (DB44.run (mkVs Sl44_0 (locAt a) 0) (mkG Sg44_0 (regAt G) 0) K) := by
  have h1 : DB44.run (mkVs Sl44_0 (locAt a) 0) (mkG Sg44_0 (regAt G) 0) K = DB44.run [.ptr 0 [] 150, .ptr 1 [] 106] [.box 150 (.nd 150 [.nd 148 [.sub 2 0 (gN2 G 0 0 0), .int .i64 (gI2 G 0 0 1)], .int .i64 (gI1 G 0 1), .int .i64 (gI1 G 0 2), .nd 38 [.int .i64 (gI2 G 0 3 0), .int .i64 (gI2 G 0 3 1), .int .i64 (gI2 G 0 3 2), .int .i64 (gI2 G 0 3 3), .int .i64 (gI2 G 0 3 4)], .sub 3 0 (gN1 G 0 4), .sub 4 0 (gN1 G 0 5)]), .box 106 (.nd 106 [.sub 5 0 (gN1 G 1 0), .int .i64 (gI1 G 1 1), .int .i64 (gI1 G 1 2), .int .i64 (gI1 G 1 3), .sub 6 0 (gN1 G 1 4), .sub 7 0 (gN1 G 1 5), .sub 8 0 (gN1 G 1 6)]), .row 3 (rN G 2) (rF G 2), .row 38 (rN G 3) (rF G 3), .row 53 (rN G 4) (rF G 4), .row 3 (rN G 5) (rF G 5), .row 38 (rN G 6) (rF G 6), .row 4 (rN G 7) (rF G 7), .row 53 (rN G 8) (rF G 8)] K := by kernel_rfl
  unfold Sr44_0 at h
  rw [h1, fq44_0]
  exact h
theorem okD44 : EntryOK Try.prog T 44 DS44 := (@entryE_told Try.prog T 44 [] DB44 DB44 okDB44 okDB44 Sl44_0 Sg44_0 @Sr44_0 @ff44_0)
theorem lp46_0_0 {β : Type} (K : Ex → St → R β) (i0 : Int) (n1 : Nat) (f2 : (Nat → V)) (n3 : Nat) (f4 : (Nat → V)) (b5 : Bool) (n7 : Nat) (f8 : (Nat → V)) (i9 : Int) (n11 : Nat) (i12 : Int) (i13 : Int) (i14 : Int) (i15 : Int) (i16 : Int) (i17 : Int) (i18 : Int) (i19 : Int) (n20 : Nat) (n21 : Nat) (n22 : Nat) (f23 : (Nat → V)) (n24 : Nat) (f25 : (Nat → V)) (n26 : Nat) (f27 : (Nat → V)) (i28 : Int) (i29 : Int) (i30 : Int) (i31 : Int) (i32 : Int) : ∀ (k : Nat) (i6 : Int) (i10 : Int), loopN (exec { DCL46 with m := 4, nt := Try.f46.ntmps } (loopBody Try.f46 0) 0) (canonK { DCL46 with m := 4, nt := Try.f46.ntmps } 0) k ⟨[.ptr 0 [] 150, .int .i64 i0, .junk, .view 38 n1 f2, .view 53 n3 f4, .ptr 4 [] 38, .junk, .junk, .bool b5, .int .i64 i6, .junk, .junk, .view 38 n7 f8, .int .i64 i9, .int .i64 i10, .junk, .junk], [.box 150 (.nd 150 [.nd 148 [.sub 1 0 n11, .int .i64 i12], .int .i64 i13, .int .i64 i14, .nd 38 [.int .i64 i15, .int .i64 i16, .int .i64 i17, .int .i64 i18, .int .i64 i19], .sub 2 0 n20, .sub 3 0 n21]), .row 3 n22 f23, .row 38 n24 f25, .row 53 n26 f27, .box 38 (.nd 38 [.int .i64 i28, .int .i64 i29, .int .i64 i30, .int .i64 i31, .int .i64 i32])]⟩ K = Ls46_0_0 K i0 n1 f2 n3 f4 b5 n7 f8 i9 n11 i12 i13 i14 i15 i16 i17 i18 i19 n20 n21 n22 f23 n24 f25 n26 f27 i28 i29 i30 i31 i32 k i6 i10
  | 0, _, _ => rfl
  | k + 1, i6, i10 => by
    rw [loopN_succ, rq46_0_0]
    simp only [lp46_0_0 K i0 n1 f2 n3 f4 b5 n7 f8 i9 n11 i12 i13 i14 i15 i16 i17 i18 i19 n20 n21 n22 f23 n24 f25 n26 f27 i28 i29 i30 i31 i32 k]
    rfl
theorem ll46_0_0 {β : Type} {PP : β → Prop} (st : St) (K : Ex → St → R β) (h : All PP (Lr46_0_0 st K)) : All PP (loopN (exec { DCL46 with m := 4, nt := Try.f46.ntmps } (loopBody Try.f46 0) 0) (canonK { DCL46 with m := 4, nt := Try.f46.ntmps } 0) DCL46.N (mkSt Ll46_0_0 Lg46_0_0 st) K) := by
  have hs : mkSt Ll46_0_0 Lg46_0_0 st = ⟨[.ptr 0 [] 150, .int .i64 (lI st.loc 1), .junk, .view 38 (lV st.loc 3) (lF st.loc 3), .view 53 (lV st.loc 4) (lF st.loc 4), .ptr 4 [] 38, .junk, .junk, .bool (lB st.loc 8), .int .i64 (lI st.loc 9), .junk, .junk, .view 38 (lV st.loc 12) (lF st.loc 12), .int .i64 (lI st.loc 13), .int .i64 (lI st.loc 14), .junk, .junk], [.box 150 (.nd 150 [.nd 148 [.sub 1 0 (gN2 st.G 0 0 0), .int .i64 (gI2 st.G 0 0 1)], .int .i64 (gI1 st.G 0 1), .int .i64 (gI1 st.G 0 2), .nd 38 [.int .i64 (gI2 st.G 0 3 0), .int .i64 (gI2 st.G 0 3 1), .int .i64 (gI2 st.G 0 3 2), .int .i64 (gI2 st.G 0 3 3), .int .i64 (gI2 st.G 0 3 4)], .sub 2 0 (gN1 st.G 0 4), .sub 3 0 (gN1 st.G 0 5)]), .row 3 (rN st.G 1) (rF st.G 1), .row 38 (rN st.G 2) (rF st.G 2), .row 53 (rN st.G 3) (rF st.G 3), .box 38 (.nd 38 [.int .i64 (gI1 st.G 4 0), .int .i64 (gI1 st.G 4 1), .int .i64 (gI1 st.G 4 2), .int .i64 (gI1 st.G 4 3), .int .i64 (gI1 st.G 4 4)])]⟩ := by kernel_rfl
  have hn : DCL46.N = NN := by kernel_rfl
  unfold Lr46_0_0 at h
  rw [NNo_eq] at h
  rw [hs, hn, lp46_0_0]
  exact h
theorem hlD46 : LoopsL DCL46 Try.f46.ntmps (loopsIn (codeOf Try.f46) 0) := by
  have e : loopsIn (codeOf Try.f46) 0 = [(0, loopBody Try.f46 0)] := by kernel_rfl
  rw [e]
  exact (loops_two (loopOK_of (by kernel_rfl) (loopE_told (c := DCL46) (nt := Try.f46.ntmps) (k := 0) (b := loopBody Try.f46 0) (m0 := 4) (l := Ll46_0_0) (g := Lg46_0_0) (run := @Lr46_0_0) (h := @ll46_0_0))) loops_none')
theorem okDB46 : EntryOK Try.prog T 46 DB46 := @ok_of Try.prog T tabOK mixedOK DCL46 (by kernel_rfl) (fnsL_cons okD70 (fnsL_cons ok73 (fnsL_cons ok81 fnsL_nil))) 46 Try.f46 Try.func46 (by kernel_rfl) (by kernel_rfl) (by kernel_rfl) hlD46 [] (joins_none (by kernel_rfl))
theorem ff46_0 {β : Type} {PP : β → Prop} (a : List V) (G : List Reg) (K : V → List Reg → R β) (h : All PP (Sr46_0 a G K)) : All PP (DB46.run (mkVs Sl46_0 (locAt a) 0) (mkG Sg46_0 (regAt G) 0) K) := by
  have h1 : DB46.run (mkVs Sl46_0 (locAt a) 0) (mkG Sg46_0 (regAt G) 0) K = DB46.run [.ptr 0 [] 150, .int .i64 (lI a 1), .nd 38 [.int .i64 (lI1 a 2 0), .int .i64 (lI1 a 2 1), .int .i64 (lI1 a 2 2), .int .i64 (lI1 a 2 3), .int .i64 (lI1 a 2 4)], .view 38 (lV a 3) (lF a 3), .view 53 (lV a 4) (lF a 4)] [.box 150 (.nd 150 [.nd 148 [.sub 1 0 (gN2 G 0 0 0), .int .i64 (gI2 G 0 0 1)], .int .i64 (gI1 G 0 1), .int .i64 (gI1 G 0 2), .nd 38 [.int .i64 (gI2 G 0 3 0), .int .i64 (gI2 G 0 3 1), .int .i64 (gI2 G 0 3 2), .int .i64 (gI2 G 0 3 3), .int .i64 (gI2 G 0 3 4)], .sub 2 0 (gN1 G 0 4), .sub 3 0 (gN1 G 0 5)]), .row 3 (rN G 1) (rF G 1), .row 38 (rN G 2) (rF G 2), .row 53 (rN G 3) (rF G 3)] K := by kernel_rfl
  unfold Sr46_0 at h
  rw [h1, fq46_0]
  exact h
theorem okD46 : EntryOK Try.prog T 46 DS46 := (@entryE_told Try.prog T 46 [] DB46 DB46 okDB46 okDB46 Sl46_0 Sg46_0 @Sr46_0 @ff46_0)
theorem lp47_0_0 {β : Type} (K : Ex → St → R β) (i0 : Int) (n1 : Nat) (f2 : (Nat → V)) (i3 : Int) (b4 : Bool) (n7 : Nat) (i8 : Int) (i9 : Int) (i10 : Int) (n11 : Nat) (n12 : Nat) (n13 : Nat) (n14 : Nat) (f15 : (Nat → V)) (n16 : Nat) (f17 : (Nat → V)) (n18 : Nat) (f19 : (Nat → V)) (n20 : Nat) (f21 : (Nat → V)) (i22 : Int) (i23 : Int) (i24 : Int) (i25 : Int) (i26 : Int) (n27 : Nat) (i28 : Int) (i29 : Int) (i30 : Int) (n32 : Nat) (n33 : Nat) (n36 : Nat) (f37 : (Nat → V)) (n38 : Nat) (f39 : (Nat → V)) : ∀ (k : Nat) (b5 : Bool) (i6 : Int) (n31 : Nat) (n34 : Nat) (f35 : (Nat → V)), loopN (exec { DCL47 with m := 5, nt := Try.f47.ntmps } (loopBody Try.f47 0) 0) (canonK { DCL47 with m := 5, nt := Try.f47.ntmps } 0) k ⟨[.junk, .int .i64 i0, .junk, .view 38 n1 f2, .junk, .ptr 5 [] 38, .junk, .junk, .int .i64 i3, .bool b4, .ptr 6 [] 106, .bool b5, .int .i64 i6, .junk, .junk, .junk, .junk, .junk, .junk, .junk], [.box 106 (.nd 106 [.sub 1 0 n7, .int .i64 i8, .int .i64 i9, .int .i64 i10, .sub 2 0 n11, .sub 3 0 n12, .sub 4 0 n13]), .row 3 n14 f15, .row 38 n16 f17, .row 4 n18 f19, .row 53 n20 f21, .box 38 (.nd 38 [.int .i64 i22, .int .i64 i23, .int .i64 i24, .int .i64 i25, .int .i64 i26]), .box 106 (.nd 106 [.sub 1 0 n27, .int .i64 i28, .int .i64 i29, .int .i64 i30, .sub 7 0 n31, .sub 8 0 n32, .sub 9 0 n33]), .row 38 n34 f35, .row 4 n36 f37, .row 53 n38 f39]⟩ K = Ls47_0_0 K i0 n1 f2 i3 b4 n7 i8 i9 i10 n11 n12 n13 n14 f15 n16 f17 n18 f19 n20 f21 i22 i23 i24 i25 i26 n27 i28 i29 i30 n32 n33 n36 f37 n38 f39 k b5 i6 n31 n34 f35
  | 0, _, _, _, _, _ => rfl
  | k + 1, b5, i6, n31, n34, f35 => by
    rw [loopN_succ, rq47_0_0]
    simp only [lp47_0_0 K i0 n1 f2 i3 b4 n7 i8 i9 i10 n11 n12 n13 n14 f15 n16 f17 n18 f19 n20 f21 i22 i23 i24 i25 i26 n27 i28 i29 i30 n32 n33 n36 f37 n38 f39 k]
    rfl
theorem ll47_0_0 {β : Type} {PP : β → Prop} (st : St) (K : Ex → St → R β) (h : All PP (Lr47_0_0 st K)) : All PP (loopN (exec { DCL47 with m := 5, nt := Try.f47.ntmps } (loopBody Try.f47 0) 0) (canonK { DCL47 with m := 5, nt := Try.f47.ntmps } 0) DCL47.N (mkSt Ll47_0_0 Lg47_0_0 st) K) := by
  have hs : mkSt Ll47_0_0 Lg47_0_0 st = ⟨[.junk, .int .i64 (lI st.loc 1), .junk, .view 38 (lV st.loc 3) (lF st.loc 3), .junk, .ptr 5 [] 38, .junk, .junk, .int .i64 (lI st.loc 8), .bool (lB st.loc 9), .ptr 6 [] 106, .bool (lB st.loc 11), .int .i64 (lI st.loc 12), .junk, .junk, .junk, .junk, .junk, .junk, .junk], [.box 106 (.nd 106 [.sub 1 0 (gN1 st.G 0 0), .int .i64 (gI1 st.G 0 1), .int .i64 (gI1 st.G 0 2), .int .i64 (gI1 st.G 0 3), .sub 2 0 (gN1 st.G 0 4), .sub 3 0 (gN1 st.G 0 5), .sub 4 0 (gN1 st.G 0 6)]), .row 3 (rN st.G 1) (rF st.G 1), .row 38 (rN st.G 2) (rF st.G 2), .row 4 (rN st.G 3) (rF st.G 3), .row 53 (rN st.G 4) (rF st.G 4), .box 38 (.nd 38 [.int .i64 (gI1 st.G 5 0), .int .i64 (gI1 st.G 5 1), .int .i64 (gI1 st.G 5 2), .int .i64 (gI1 st.G 5 3), .int .i64 (gI1 st.G 5 4)]), .box 106 (.nd 106 [.sub 1 0 (gN1 st.G 6 0), .int .i64 (gI1 st.G 6 1), .int .i64 (gI1 st.G 6 2), .int .i64 (gI1 st.G 6 3), .sub 7 0 (gN1 st.G 6 4), .sub 8 0 (gN1 st.G 6 5), .sub 9 0 (gN1 st.G 6 6)]), .row 38 (rN st.G 7) (rF st.G 7), .row 4 (rN st.G 8) (rF st.G 8), .row 53 (rN st.G 9) (rF st.G 9)]⟩ := by kernel_rfl
  have hn : DCL47.N = NN := by kernel_rfl
  unfold Lr47_0_0 at h
  rw [NNo_eq] at h
  rw [hs, hn, lp47_0_0]
  exact h
theorem hlD47 : LoopsL DCL47 Try.f47.ntmps (loopsIn (codeOf Try.f47) 0) := by
  have e : loopsIn (codeOf Try.f47) 0 = [(0, loopBody Try.f47 0)] := by kernel_rfl
  rw [e]
  exact (loops_two (loopOK_of (by kernel_rfl) (loopE_told (c := DCL47) (nt := Try.f47.ntmps) (k := 0) (b := loopBody Try.f47 0) (m0 := 5) (l := Ll47_0_0) (g := Lg47_0_0) (run := @Lr47_0_0) (h := @ll47_0_0))) loops_none')
theorem okDB47 : EntryOK Try.prog T 47 DB47 := @ok_of Try.prog T tabOK mixedOK DCL47 (by kernel_rfl) fnsL_nil 47 Try.f47 Try.func47 (by kernel_rfl) (by kernel_rfl) (by kernel_rfl) hlD47 [] (joins_none (by kernel_rfl))
theorem ff47_0 {β : Type} {PP : β → Prop} (a : List V) (G : List Reg) (K : V → List Reg → R β) (h : All PP (Sr47_0 a G K)) : All PP (DB47.run (mkVs Sl47_0 (locAt a) 0) (mkG Sg47_0 (regAt G) 0) K) := by
  have h1 : DB47.run (mkVs Sl47_0 (locAt a) 0) (mkG Sg47_0 (regAt G) 0) K = DB47.run [.ptr 0 [] 106, .int .i64 (lI a 1), .nd 38 [.int .i64 (lI1 a 2 0), .int .i64 (lI1 a 2 1), .int .i64 (lI1 a 2 2), .int .i64 (lI1 a 2 3), .int .i64 (lI1 a 2 4)], .view 38 (lV a 3) (lF a 3), .view 53 (lV a 4) (lF a 4)] [.box 106 (.nd 106 [.sub 1 0 (gN1 G 0 0), .int .i64 (gI1 G 0 1), .int .i64 (gI1 G 0 2), .int .i64 (gI1 G 0 3), .sub 2 0 (gN1 G 0 4), .sub 3 0 (gN1 G 0 5), .sub 4 0 (gN1 G 0 6)]), .row 3 (rN G 1) (rF G 1), .row 38 (rN G 2) (rF G 2), .row 4 (rN G 3) (rF G 3), .row 53 (rN G 4) (rF G 4)] K := by kernel_rfl
  unfold Sr47_0 at h
  rw [h1, fq47_0]
  exact h
theorem okD47 : EntryOK Try.prog T 47 DS47 := (@entryE_told Try.prog T 47 [] DB47 DB47 okDB47 okDB47 Sl47_0 Sg47_0 @Sr47_0 @ff47_0)
theorem lp14_0_0 {β : Type} (K : Ex → St → R β) (n0 : Nat) (f1 : (Nat → V)) (n2 : Nat) (f3 : (Nat → V)) (i4 : Int) (n6 : Nat) (i7 : Int) (i8 : Int) (n16 : Nat) (n17 : Nat) (i18 : Int) (i19 : Int) (n23 : Nat) (n24 : Nat) (f25 : (Nat → V)) (n28 : Nat) (n30 : Nat) (f31 : (Nat → V)) (n36 : Nat) : ∀ (k : Nat) (i5 : Int) (i9 : Int) (i10 : Int) (i11 : Int) (i12 : Int) (i13 : Int) (i14 : Int) (n15 : Nat) (i20 : Int) (n21 : Nat) (n22 : Nat) (n26 : Nat) (f27 : (Nat → V)) (f29 : (Nat → V)) (n32 : Nat) (f33 : (Nat → V)) (n34 : Nat) (f35 : (Nat → V)) (f37 : (Nat → V)), loopN (exec { DCL14 with m := 0, nt := Try.f14.ntmps } (loopBody Try.f14 0) 0) (canonK { DCL14 with m := 0, nt := Try.f14.ntmps } 0) k ⟨[.junk, .view 79 n0 f1, .junk, .junk, .ptr 0 [] 150, .junk, .ptr 1 [] 106, .junk, .junk, .junk, .junk, .junk, .junk, .junk, .junk, .junk, .junk, .junk, .junk, .junk, .junk, .junk, .junk, .junk, .junk, .view 79 n2 f3, .int .i64 i4, .int .i64 i5, .junk, .junk, .junk, .junk, .junk, .junk, .junk, .junk, .junk], [.box 150 (.nd 150 [.nd 148 [.sub 2 0 n6, .int .i64 i7], .int .i64 i8, .int .i64 i9, .nd 38 [.int .i64 i10, .int .i64 i11, .int .i64 i12, .int .i64 i13, .int .i64 i14], .sub 3 0 n15, .sub 4 0 n16]), .box 106 (.nd 106 [.sub 5 0 n17, .int .i64 i18, .int .i64 i19, .int .i64 i20, .sub 6 0 n21, .sub 7 0 n22, .sub 8 0 n23]), .row 3 n24 f25, .row 38 n26 f27, .row 53 n28 f29, .row 3 n30 f31, .row 38 n32 f33, .row 4 n34 f35, .row 53 n36 f37]⟩ K = Ls14_0_0 K n0 f1 n2 f3 i4 n6 i7 i8 n16 n17 i18 i19 n23 n24 f25 n28 n30 f31 n36 k i5 i9 i10 i11 i12 i13 i14 n15 i20 n21 n22 n26 f27 f29 n32 f33 n34 f35 f37
  | 0, _, _, _, _, _, _, _, _, _, _, _, _, _, _, _, _, _, _, _ => rfl
  | k + 1, i5, i9, i10, i11, i12, i13, i14, n15, i20, n21, n22, n26, f27, f29, n32, f33, n34, f35, f37 => by
    rw [loopN_succ, rq14_0_0]
    simp only [lp14_0_0 K n0 f1 n2 f3 i4 n6 i7 i8 n16 n17 i18 i19 n23 n24 f25 n28 n30 f31 n36 k]
    rfl
theorem lp14_2_0 {β : Type} (K : Ex → St → R β) (n0 : Nat) (f1 : (Nat → V)) (i2 : Int) (n4 : Nat) (i5 : Int) (i6 : Int) (n10 : Nat) (n11 : Nat) (i12 : Int) (i13 : Int) (n21 : Nat) (n22 : Nat) (f23 : (Nat → V)) (n28 : Nat) (n30 : Nat) (f31 : (Nat → V)) (n34 : Nat) : ∀ (k : Nat) (i3 : Int) (i7 : Int) (n8 : Nat) (n9 : Nat) (i14 : Int) (i15 : Int) (i16 : Int) (i17 : Int) (i18 : Int) (i19 : Int) (n20 : Nat) (n24 : Nat) (f25 : (Nat → V)) (n26 : Nat) (f27 : (Nat → V)) (f29 : (Nat → V)) (n32 : Nat) (f33 : (Nat → V)) (f35 : (Nat → V)), loopN (exec { DCL14 with m := 0, nt := Try.f14.ntmps } (loopBody Try.f14 2) 2) (canonK { DCL14 with m := 0, nt := Try.f14.ntmps } 2) k ⟨[.junk, .junk, .junk, .junk, .junk, .junk, .ptr 0 [] 106, .junk, .junk, .junk, .ptr 1 [] 150, .junk, .junk, .junk, .junk, .junk, .junk, .junk, .junk, .junk, .junk, .junk, .junk, .junk, .junk, .junk, .junk, .junk, .junk, .junk, .junk, .junk, .view 79 n0 f1, .int .i64 i2, .int .i64 i3, .junk, .junk], [.box 106 (.nd 106 [.sub 2 0 n4, .int .i64 i5, .int .i64 i6, .int .i64 i7, .sub 3 0 n8, .sub 4 0 n9, .sub 5 0 n10]), .box 150 (.nd 150 [.nd 148 [.sub 6 0 n11, .int .i64 i12], .int .i64 i13, .int .i64 i14, .nd 38 [.int .i64 i15, .int .i64 i16, .int .i64 i17, .int .i64 i18, .int .i64 i19], .sub 7 0 n20, .sub 8 0 n21]), .row 3 n22 f23, .row 38 n24 f25, .row 4 n26 f27, .row 53 n28 f29, .row 3 n30 f31, .row 38 n32 f33, .row 53 n34 f35]⟩ K = Ls14_2_0 K n0 f1 i2 n4 i5 i6 n10 n11 i12 i13 n21 n22 f23 n28 n30 f31 n34 k i3 i7 n8 n9 i14 i15 i16 i17 i18 i19 n20 n24 f25 n26 f27 f29 n32 f33 f35
  | 0, _, _, _, _, _, _, _, _, _, _, _, _, _, _, _, _, _, _, _ => rfl
  | k + 1, i3, i7, n8, n9, i14, i15, i16, i17, i18, i19, n20, n24, f25, n26, f27, f29, n32, f33, f35 => by
    rw [loopN_succ, rq14_2_0]
    simp only [lp14_2_0 K n0 f1 i2 n4 i5 i6 n10 n11 i12 i13 n21 n22 f23 n28 n30 f31 n34 k]
    rfl
theorem ll14_0_0 {β : Type} {PP : β → Prop} (st : St) (K : Ex → St → R β) (h : All PP (Lr14_0_0 st K)) : All PP (loopN (exec { DCL14 with m := 0, nt := Try.f14.ntmps } (loopBody Try.f14 0) 0) (canonK { DCL14 with m := 0, nt := Try.f14.ntmps } 0) DCL14.N (mkSt Ll14_0_0 Lg14_0_0 st) K) := by
  have hs : mkSt Ll14_0_0 Lg14_0_0 st = ⟨[.junk, .view 79 (lV st.loc 1) (lF st.loc 1), .junk, .junk, .ptr 0 [] 150, .junk, .ptr 1 [] 106, .junk, .junk, .junk, .junk, .junk, .junk, .junk, .junk, .junk, .junk, .junk, .junk, .junk, .junk, .junk, .junk, .junk, .junk, .view 79 (lV st.loc 25) (lF st.loc 25), .int .i64 (lI st.loc 26), .int .i64 (lI st.loc 27), .junk, .junk, .junk, .junk, .junk, .junk, .junk, .junk, .junk], [.box 150 (.nd 150 [.nd 148 [.sub 2 0 (gN2 st.G 0 0 0), .int .i64 (gI2 st.G 0 0 1)], .int .i64 (gI1 st.G 0 1), .int .i64 (gI1 st.G 0 2), .nd 38 [.int .i64 (gI2 st.G 0 3 0), .int .i64 (gI2 st.G 0 3 1), .int .i64 (gI2 st.G 0 3 2), .int .i64 (gI2 st.G 0 3 3), .int .i64 (gI2 st.G 0 3 4)], .sub 3 0 (gN1 st.G 0 4), .sub 4 0 (gN1 st.G 0 5)]), .box 106 (.nd 106 [.sub 5 0 (gN1 st.G 1 0), .int .i64 (gI1 st.G 1 1), .int .i64 (gI1 st.G 1 2), .int .i64 (gI1 st.G 1 3), .sub 6 0 (gN1 st.G 1 4), .sub 7 0 (gN1 st.G 1 5), .sub 8 0 (gN1 st.G 1 6)]), .row 3 (rN st.G 2) (rF st.G 2), .row 38 (rN st.G 3) (rF st.G 3), .row 53 (rN st.G 4) (rF st.G 4), .row 3 (rN st.G 5) (rF st.G 5), .row 38 (rN st.G 6) (rF st.G 6), .row 4 (rN st.G 7) (rF st.G 7), .row 53 (rN st.G 8) (rF st.G 8)]⟩ := by kernel_rfl
  have hn : DCL14.N = NN := by kernel_rfl
  unfold Lr14_0_0 at h
  rw [NNo_eq] at h
  rw [hs, hn, lp14_0_0]
  exact h
theorem ll14_2_0 {β : Type} {PP : β → Prop} (st : St) (K : Ex → St → R β) (h : All PP (Lr14_2_0 st K)) : All PP (loopN (exec { DCL14 with m := 0, nt := Try.f14.ntmps } (loopBody Try.f14 2) 2) (canonK { DCL14 with m := 0, nt := Try.f14.ntmps } 2) DCL14.N (mkSt Ll14_2_0 Lg14_2_0 st) K) := by
  have hs : mkSt Ll14_2_0 Lg14_2_0 st = ⟨[.junk, .junk, .junk, .junk, .junk, .junk, .ptr 0 [] 106, .junk, .junk, .junk, .ptr 1 [] 150, .junk, .junk, .junk, .junk, .junk, .junk, .junk, .junk, .junk, .junk, .junk, .junk, .junk, .junk, .junk, .junk, .junk, .junk, .junk, .junk, .junk, .view 79 (lV st.loc 32) (lF st.loc 32), .int .i64 (lI st.loc 33), .int .i64 (lI st.loc 34), .junk, .junk], [.box 106 (.nd 106 [.sub 2 0 (gN1 st.G 0 0), .int .i64 (gI1 st.G 0 1), .int .i64 (gI1 st.G 0 2), .int .i64 (gI1 st.G 0 3), .sub 3 0 (gN1 st.G 0 4), .sub 4 0 (gN1 st.G 0 5), .sub 5 0 (gN1 st.G 0 6)]), .box 150 (.nd 150 [.nd 148 [.sub 6 0 (gN2 st.G 1 0 0), .int .i64 (gI2 st.G 1 0 1)], .int .i64 (gI1 st.G 1 1), .int .i64 (gI1 st.G 1 2), .nd 38 [.int .i64 (gI2 st.G 1 3 0), .int .i64 (gI2 st.G 1 3 1), .int .i64 (gI2 st.G 1 3 2), .int .i64 (gI2 st.G 1 3 3), .int .i64 (gI2 st.G 1 3 4)], .sub 7 0 (gN1 st.G 1 4), .sub 8 0 (gN1 st.G 1 5)]), .row 3 (rN st.G 2) (rF st.G 2), .row 38 (rN st.G 3) (rF st.G 3), .row 4 (rN st.G 4) (rF st.G 4), .row 53 (rN st.G 5) (rF st.G 5), .row 3 (rN st.G 6) (rF st.G 6), .row 38 (rN st.G 7) (rF st.G 7), .row 53 (rN st.G 8) (rF st.G 8)]⟩ := by kernel_rfl
  have hn : DCL14.N = NN := by kernel_rfl
  unfold Lr14_2_0 at h
  rw [NNo_eq] at h
  rw [hs, hn, lp14_2_0]
  exact h
theorem hlD14 : LoopsL DCL14 Try.f14.ntmps (loopsIn (codeOf Try.f14) 0) := by
  have e : loopsIn (codeOf Try.f14) 0 = [(0, loopBody Try.f14 0), (2, loopBody Try.f14 2)] := by kernel_rfl
  rw [e]
  exact (loops_two (loopOK_of (by kernel_rfl) (loopE_told (c := DCL14) (nt := Try.f14.ntmps) (k := 0) (b := loopBody Try.f14 0) (m0 := 0) (l := Ll14_0_0) (g := Lg14_0_0) (run := @Lr14_0_0) (h := @ll14_0_0))) (loops_two (loopOK_of (by kernel_rfl) (loopE_told (c := DCL14) (nt := Try.f14.ntmps) (k := 2) (b := loopBody Try.f14 2) (m0 := 0) (l := Ll14_2_0) (g := Lg14_2_0) (run := @Lr14_2_0) (h := @ll14_2_0))) loops_none'))
theorem okDB14 : EntryOK Try.prog T 14 DB14 := @ok_of Try.prog T tabOK mixedOK DCL14 (by kernel_rfl) (fnsL_cons okD23 (fnsL_cons ok27 (fnsL_cons okD28 (fnsL_cons okD29 (fnsL_cons okD32 (fnsL_cons okD34 (fnsL_cons okD37 (fnsL_cons okD39 (fnsL_cons okD41 (fnsL_cons okD43 (fnsL_cons okD44 (fnsL_cons okD45 (fnsL_cons okD46 (fnsL_cons okD47 (fnsL_cons okD48 fnsL_nil))))))))))))))) 14 Try.f14 Try.func14 (by kernel_rfl) (by kernel_rfl) (by kernel_rfl) hlD14 [] (joins_none (by kernel_rfl))
end Go.Proofs.Ytbplfgghcclgkaa
