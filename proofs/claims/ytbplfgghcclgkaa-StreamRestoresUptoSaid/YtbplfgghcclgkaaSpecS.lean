/- What the functions of the layer stream do, as functions of values: the definitions. No conditions. -/
import Derived.Test.YtbplfgghcclgkaaSpecP
open Go Go.VM
namespace Go.Proofs.Ytbplfgghcclgkaa
def ShStream (a b c : Nat) : Sh := .nd 150 [.nd 148 [.sub a, .int .i64], .int .i64, .int .i64, ShOp, .sub b, .sub c]
def Sl75 : List Sh := [ShOp, .ptr 0 [] 75]
def Sg75 : List RSh := [.box 75 (.ptr 1 [] 150), .box 150 (ShStream 2 3 4), .row 3, .row 38, .row 53]
def Sr75 {β : Type} (a : List V) (G : List Reg) (K : V → List Reg → R β) : R β :=
  must (leN (subN' (partV (partV (regV (regAt G 1)) 0) 0)) 1073741824) <|
  K (.bool (coveredV (subN' (partV (partV (regV (regAt G 1)) 0) 0)) (regF (regAt G 2)) (intV (partV (partV (regV (regAt G 1)) 0) 1)) (subN' (partV (regV (regAt G 1)) 5)) (regF (regAt G 4)) (locAt a 0)))
    (mkG Sg75 (regAt G) 0)
def Lr111 {β : Type} (st : St) (K : Ex → St → R β) : R β :=
  must (leI 0 (intV (locAt st.loc 5))) <| must (leN (natI (intV (locAt st.loc 5))) (subN' (locAt st.loc 0))) <| must (leN (subN' (locAt st.loc 0)) 1073741824) <| must (eqI (intV (locAt st.loc 4)) (ofN (subN' (locAt st.loc 0)))) <| must (leN (subN' (partV (partV (regV (regAt st.G 1)) 0) 0)) 1073741824) <| 
  iteR (leI 0 (idxP (coveredV (subN' (partV (partV (regV (regAt st.G 1)) 0) 0)) (regF (regAt st.G 2)) (intV (partV (partV (regV (regAt st.G 1)) 0) 1)) (subN' (partV (regV (regAt st.G 1)) 5)) (regF (regAt st.G 4))) (regF (regAt st.G 3)) (subN (subN' (locAt st.loc 0)) (natI (intV (locAt st.loc 5)))) (natI (intV (locAt st.loc 5)))))
    (K .ret ⟨[.sub 3 0 (subN' (locAt st.loc 0)), .fn 75 [.ptr 0 [] 75], .int .i64 (idxP (coveredV (subN' (partV (partV (regV (regAt st.G 1)) 0) 0)) (regF (regAt st.G 2)) (intV (partV (partV (regV (regAt st.G 1)) 0) 1)) (subN' (partV (regV (regAt st.G 1)) 5)) (regF (regAt st.G 4))) (regF (regAt st.G 3)) (subN (subN' (locAt st.loc 0)) (natI (intV (locAt st.loc 5)))) (natI (intV (locAt st.loc 5)))), .int .i64 (idxP (coveredV (subN' (partV (partV (regV (regAt st.G 1)) 0) 0)) (regF (regAt st.G 2)) (intV (partV (partV (regV (regAt st.G 1)) 0) 1)) (subN' (partV (regV (regAt st.G 1)) 5)) (regF (regAt st.G 4))) (regF (regAt st.G 3)) (subN (subN' (locAt st.loc 0)) (natI (intV (locAt st.loc 5)))) (natI (intV (locAt st.loc 5)))), .int .i64 (ofN (subN' (locAt st.loc 0))), .int .i64 (idxP (coveredV (subN' (partV (partV (regV (regAt st.G 1)) 0) 0)) (regF (regAt st.G 2)) (intV (partV (partV (regV (regAt st.G 1)) 0) 1)) (subN' (partV (regV (regAt st.G 1)) 5)) (regF (regAt st.G 4))) (regF (regAt st.G 3)) (subN (subN' (locAt st.loc 0)) (natI (intV (locAt st.loc 5)))) (natI (intV (locAt st.loc 5)))), .bool true, .bool true], mkG [.box 75 (.ptr 1 [] 150), .box 150 (.nd 150 [.nd 148 [.sub 2, .int .i64], .int .i64, .int .i64, .nd 38 [.int .i64, .int .i64, .int .i64, .int .i64, .int .i64], .sub 3, .sub 4]), .row 3, .row 38, .row 53] (regAt st.G) 0⟩)
    (K (.exit 0) ⟨[.sub 3 0 (subN' (locAt st.loc 0)), .fn 75 [.ptr 0 [] 75], .junk, .junk, .int .i64 (ofN (subN' (locAt st.loc 0))), .int .i64 (ofN (subN' (locAt st.loc 0))), .bool false, .junk], mkG [.box 75 (.ptr 1 [] 150), .box 150 (.nd 150 [.nd 148 [.sub 2, .int .i64], .int .i64, .int .i64, .nd 38 [.int .i64, .int .i64, .int .i64, .int .i64, .int .i64], .sub 3, .sub 4]), .row 3, .row 38, .row 53] (regAt st.G) 0⟩)
def Ll111 : List Sh := [.sub 3, .fn 75 [.ptr 0 [] 75], .junk, .junk, .int .i64, .int .i64, .junk, .junk]
def Lg111 : List RSh := [.box 75 (.ptr 1 [] 150), .box 150 (.nd 150 [.nd 148 [.sub 2, .int .i64], .int .i64, .int .i64, .nd 38 [.int .i64, .int .i64, .int .i64, .int .i64, .int .i64], .sub 3, .sub 4]), .row 3, .row 38, .row 53]
noncomputable def LT111 : List (Nat × LoopE) := [(0, loopE 5 Ll111 Lg111 Lr111)]
def Sl111 : List Sh := [.sub 3, .fn 75 [.ptr 0 [] 75]]
def Sg111 : List RSh := [.box 75 (.ptr 1 [] 150), .box 150 (.nd 150 [.nd 148 [.sub 2, .int .i64], .int .i64, .int .i64, .nd 38 [.int .i64, .int .i64, .int .i64, .int .i64, .int .i64], .sub 3, .sub 4]), .row 3, .row 38, .row 53]
def Sr111 {β : Type} (a : List V) (G : List Reg) (K : V → List Reg → R β) : R β :=
  must (leN (subN' (locAt a 0)) 1073741824) <| must (leN (subN' (partV (partV (regV (regAt G 1)) 0) 0)) 1073741824) <| K (.int .i64 (idxP (coveredV (subN' (partV (partV (regV (regAt G 1)) 0) 0)) (regF (regAt G 2)) (intV (partV (partV (regV (regAt G 1)) 0) 1)) (subN' (partV (regV (regAt G 1)) 5)) (regF (regAt G 4))) (regF (regAt G 3)) (subN' (locAt a 0)) 0)) (mkG [.box 75 (.ptr 1 [] 150), .box 150 (.nd 150 [.nd 148 [.sub 2, .int .i64], .int .i64, .int .i64, .nd 38 [.int .i64, .int .i64, .int .i64, .int .i64, .int .i64], .sub 3, .sub 4]), .row 3, .row 38, .row 53] (regAt G) 0)
end Go.Proofs.Ytbplfgghcclgkaa
