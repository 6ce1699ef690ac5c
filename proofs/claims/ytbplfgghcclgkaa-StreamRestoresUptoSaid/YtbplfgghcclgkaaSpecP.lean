/- What the functions of the layers floor, place and stream do, as functions of values: the definitions. No conditions. -/
import Derived.Test.YtbplfgghcclgkaaVmf
import Derived.Test.YtbplfgghcclgkaaVmD
open Go Go.VM
namespace Go.Proofs.Ytbplfgghcclgkaa
def cmpV (a b : Int) : Int := if a < b then -1 else if b < a then 1 else 0
def divV (t r : Int) : Int := if r < 1 then 0 else if tmodI t r < 0 then wrapI .i64 (subI (wrapI .i64 (tdivI t r)) 1) else wrapI .i64 (tdivI t r)
def modV (t r : Int) : Int := if r < 1 then 0 else wrapI .i64 (addI (tmodI t r) (bandI .i64 r (shrI .i64 (tmodI t r) 63)))
def lessV (a b c d : Int) : Bool := decide (a < c ∨ a = c ∧ b < d)
def ShOp : Sh := .nd 38 [.int .i64, .int .i64, .int .i64, .int .i64, .int .i64]
def ShPlace : Sh := .nd 53 [.int .i64, .int .i64]
def ShId : Sh := .nd 55 [.int .i64, ShPlace]
def Sl105 : List Sh := [.int .i64, .int .i64]
def Sg105 : List RSh := []
def Sr105 {β : Type} (a : List V) (_ : List Reg) (K : V → List Reg → R β) : R β := K (.int .i64 (cmpV (intV (locAt a 0)) (intV (locAt a 1)))) []
def Sl122 : List Sh := [.int .i64, .int .i64]
def Sg122 : List RSh := []
def Sr122 {β : Type} (a : List V) (_ : List Reg) (K : V → List Reg → R β) : R β := K (.int .i64 (divV (intV (locAt a 0)) (intV (locAt a 1)))) []
def Sl128 : List Sh := [.int .i64, .int .i64]
def Sg128 : List RSh := []
def Sr128 {β : Type} (a : List V) (_ : List Reg) (K : V → List Reg → R β) : R β := K (.int .i64 (modV (intV (locAt a 0)) (intV (locAt a 1)))) []
def Sl61 : List Sh := [ShPlace, ShPlace]
def Sg61 : List RSh := []
def Sr61 {β : Type} (a : List V) (_ : List Reg) (K : V → List Reg → R β) : R β :=
  K (.bool (lessV (intV (partV (locAt a 0) 0)) (intV (partV (locAt a 0) 1)) (intV (partV (locAt a 1) 0)) (intV (partV (locAt a 1) 1)))) []
def laneV (key sh : Int) (i : Nat) : Int := wrapI .i64 (addI (wrapI .i64 (mulI (ofN i) sh)) (modV key sh))
def idV (time key sh : Int) (f : Nat → V) (i : Nat) : V := .nd 55 [.int .i64 (laneV key sh i), .nd 53 [.int .i64 (divV time (intV (f i))), .int .i64 key]]
def idZ : V := .nd 55 [.int .i64 0, .nd 53 [.int .i64 0, .int .i64 0]]
def pushR (z : V) (mk : Nat → V) : Nat → Nat → (Nat → V) → Nat → V
  | 0, _, g => g
  | k + 1, i, g => pushR z mk k (i + 1) (joinF g (litF z [mk i]) i)
theorem pushR_at (z : V) (mk : Nat → V) : ∀ (k i : Nat) (g : Nat → V) (j : Nat), j < i + k → pushR z mk k i g j = if j < i then g j else mk j
  | 0, i, g, j, h => by simp only [pushR]; rw [if_pos (by omega)]
  | k + 1, i, g, j, h => by
    simp only [pushR]
    rw [pushR_at z mk k (i + 1) _ j (by omega)]
    by_cases h1 : j < i
    · rw [if_pos (by omega), if_pos h1]
      simp [joinF, ltN, h1]
    · rw [if_neg h1]
      by_cases h2 : j < i + 1
      · have : j = i := by omega
        subst this
        rw [if_pos (by omega)]
        simp [joinF, ltN, subN, litF]
      · rw [if_neg h2]
def Ll107 : List Sh := [.junk, .junk, .int .i64, .ptr 0 [] 38, .junk, .sub 1, .junk, .junk, .view 3, .int .i64, .int .i64, .junk]
def Lg107 : List RSh := [.box 38 ShOp, .row 55]
def Lr107 {β : Type} (st : St) (K : Ex → St → R β) : R β :=
  let o := regV (regAt st.G 0); let n := viewN (locAt st.loc 8); let f := viewF (locAt st.loc 8); let i := natI (intV (locAt st.loc 10)); let sh := intV (locAt st.loc 2)
  must (leI 0 (intV (locAt st.loc 10))) <| must (leN i n) <| must (leN n 1073741824) <| must (eqI (intV (locAt st.loc 9)) (ofN n)) <| must (eqN (subN' (locAt st.loc 5)) i) <| must (eqN (regN (regAt st.G 1)) i) <|
  K (.exit 0) ⟨[.junk, .junk, .int .i64 sh, .ptr 0 [] 38, .junk, .sub 1 0 n, .junk, .junk, .view 3 n f, .int .i64 (ofN n), .int .i64 (ofN n), .bool false],
    [mkR (.box 38 ShOp) (regAt st.G 0), .row 55 n (pushR idZ (idV (intV (partV o 2)) (intV (partV o 3)) sh f) (subN n i) i (regF (regAt st.G 1)))]⟩
noncomputable def LT107 : List (Nat × LoopE) := [(0, loopE 0 Ll107 Lg107 Lr107)]
def Sl107 : List Sh := [ShOp, .view 3, .int .i64]
def Sg107 : List RSh := []
def Sr107 {β : Type} (a : List V) (_ : List Reg) (K : V → List Reg → R β) : R β :=
  must (leN (viewN (locAt a 1)) 1073741824) <|
  K (.sub 0 0 (viewN (locAt a 1))) [.row 55 (viewN (locAt a 1)) (idV (intV (partV (locAt a 0) 2)) (intV (partV (locAt a 0) 3)) (intV (locAt a 2)) (viewF (locAt a 1)))]
def openV (m : Nat) (pf : Nat → V) (v : V) : Bool :=
  decide (intV (partV v 0) < 0 ∨ ofN m ≤ intV (partV v 0)) || !lessV (intV (partV (partV v 1) 0)) (intV (partV (partV v 1) 1)) (intV (partV (pf (natI (intV (partV v 0)))) 0)) (intV (partV (pf (natI (intV (partV v 0)))) 1))
def Sl135 : List Sh := [ShId, .ptr 0 [] 74]
def Sg135 : List RSh := [.box 74 (.view 53)]
def Sr135 {β : Type} (a : List V) (G : List Reg) (K : V → List Reg → R β) : R β :=
  K (.bool (openV (viewN (regV (regAt G 0))) (viewF (regV (regAt G 0))) (locAt a 0))) [mkR (.box 74 (.view 53)) (regAt G 0)]
def idxP (p : V → Bool) (f : Nat → V) : Nat → Nat → Int
  | 0, _ => -1
  | k + 1, i => if p (f i) then ofN i else idxP p f k (i + 1)
def Lr149 {β : Type} (st : St) (K : Ex → St → R β) : R β :=
  must (leI 0 (intV (locAt st.loc 5))) <| must (leN (natI (intV (locAt st.loc 5))) (viewN (locAt st.loc 0))) <| must (leN (viewN (locAt st.loc 0)) 1073741824) <| must (eqI (intV (locAt st.loc 4)) (ofN (viewN (locAt st.loc 0)))) <| 
  iteR (leI 0 (idxP (openV (viewN (regV (regAt st.G 0))) (viewF (regV (regAt st.G 0)))) (viewF (locAt st.loc 0)) (subN (viewN (locAt st.loc 0)) (natI (intV (locAt st.loc 5)))) (natI (intV (locAt st.loc 5)))))
    (K .ret ⟨[.view 55 (viewN (locAt st.loc 0)) (viewF (locAt st.loc 0)), .fn 135 [.ptr 0 [] 74], .int .i64 (idxP (openV (viewN (regV (regAt st.G 0))) (viewF (regV (regAt st.G 0)))) (viewF (locAt st.loc 0)) (subN (viewN (locAt st.loc 0)) (natI (intV (locAt st.loc 5)))) (natI (intV (locAt st.loc 5)))), .int .i64 (idxP (openV (viewN (regV (regAt st.G 0))) (viewF (regV (regAt st.G 0)))) (viewF (locAt st.loc 0)) (subN (viewN (locAt st.loc 0)) (natI (intV (locAt st.loc 5)))) (natI (intV (locAt st.loc 5)))), .int .i64 (ofN (viewN (locAt st.loc 0))), .int .i64 (idxP (openV (viewN (regV (regAt st.G 0))) (viewF (regV (regAt st.G 0)))) (viewF (locAt st.loc 0)) (subN (viewN (locAt st.loc 0)) (natI (intV (locAt st.loc 5)))) (natI (intV (locAt st.loc 5)))), .bool true, .bool true], mkG [.box 74 (.view 53)] (regAt st.G) 0⟩)
    (K (.exit 0) ⟨[.view 55 (viewN (locAt st.loc 0)) (viewF (locAt st.loc 0)), .fn 135 [.ptr 0 [] 74], .junk, .junk, .int .i64 (ofN (viewN (locAt st.loc 0))), .int .i64 (ofN (viewN (locAt st.loc 0))), .bool false, .junk], mkG [.box 74 (.view 53)] (regAt st.G) 0⟩)
def Ll149 : List Sh := [.view 55, .fn 135 [.ptr 0 [] 74], .junk, .junk, .int .i64, .int .i64, .junk, .junk]
def Lg149 : List RSh := [.box 74 (.view 53)]
noncomputable def LT149 : List (Nat × LoopE) := [(0, loopE 1 Ll149 Lg149 Lr149)]
def Sl149 : List Sh := [.view 55, .fn 135 [.ptr 0 [] 74]]
def Sg149 : List RSh := [.box 74 (.view 53)]
def Sr149 {β : Type} (a : List V) (G : List Reg) (K : V → List Reg → R β) : R β :=
  must (leN (viewN (locAt a 0)) 1073741824) <| K (.int .i64 (idxP (openV (viewN (regV (regAt G 0))) (viewF (regV (regAt G 0)))) (viewF (locAt a 0)) (viewN (locAt a 0)) 0)) (mkG [.box 74 (.view 53)] (regAt G) 0)
def coveredV (n : Nat) (f : Nat → V) (sh : Int) (m : Nat) (pf : Nat → V) (o : V) : Bool :=
  andB (ltI 0 (ofN n)) (notB (leI 0 (idxP (openV m pf) (idV (intV (partV o 2)) (intV (partV o 3)) sh f) n 0)))
def Sl112 : List Sh := [ShOp, .view 3, .int .i64, .view 53]
def Sg112 : List RSh := []
def Sr112 {β : Type} (a : List V) (_ : List Reg) (K : V → List Reg → R β) : R β :=
  must (leN (viewN (locAt a 1)) 1073741824) <| K (.bool (coveredV (viewN (locAt a 1)) (viewF (locAt a 1)) (intV (locAt a 2)) (viewN (locAt a 3)) (viewF (locAt a 3)) (locAt a 0))) []
end Go.Proofs.Ytbplfgghcclgkaa
