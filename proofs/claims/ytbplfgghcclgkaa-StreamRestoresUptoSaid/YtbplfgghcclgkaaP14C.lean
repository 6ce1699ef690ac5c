/- StreamRestores: the scripts. No conditions. -/
import Derived.Test.YtbplfgghcclgkaaP14B
open Go Go.VM
namespace Go.Proofs.Ytbplfgghcclgkaa
set_option maxRecDepth 100000
section
variable {β : Type} {PP : β → Prop} {m : Nat}
def okCalls (n0 : Nat) (f1 : Nat → V) : Prop := ∀ j, j < n0 → inI (intV (partV (f1 j) 1)) ∧ inI (intV (partV (f1 j) 2)) ∧ inI (intV (partV (partV (f1 j) 4) 2)) ∧ inI (intV (partV (partV (f1 j) 4) 3)) ∧ viewN (partV (f1 j) 5) ≤ 1048576
theorem lfA (X0 : Int → Int → Int → Int → Int → Int → Nat → Int → Nat → Nat → Nat → (Nat → V) → (Nat → V) → Nat → (Nat → V) → Nat → (Nat → V) → (Nat → V) → Int → Int → Int → Int → Int → Int → Int → Int → Int → Nat → (Nat → V) → R β) (X1 : Int → Int → Int → Int → Int → Int → Nat → Int → Nat → Nat → (Nat → V) → Nat → (Nat → V) → Nat → (Nat → V) → (Nat → V) → Int → Int → Int → Int → Int → Int → Int → Int → Int → Nat → (Nat → V) → (Nat → V) → R β) (X2 : Int → Int → Int → Int → Int → Int → Nat → Int → Nat → Nat → Nat → (Nat → V) → (Nat → V) → (Nat → V) → Int → Int → Int → Int → Int → Int → Int → Int → Int → Nat → (Nat → V) → (Nat → V) → (Nat → V) → R β) (X3 : Int → Int → Int → Int → Int → Int → Nat → Int → Nat → Nat → Nat → (Nat → V) → (Nat → V) → Nat → (Nat → V) → Nat → (Nat → V) → (Nat → V) → R β)
    (n0 : Nat) (f1 : Nat → V) (r : Nat) (s hold : Int) (fr fr' : Nat → V) (hn0 : n0 ≤ 1048576) (hc : okCalls n0 f1)
    (hr1 : 1 ≤ r) (hr3 : r ≤ 3) (hs : 1 ≤ s) (hs' : s ≤ 4) (hm : m = r * s.toNat) (hg : ∀ i, i < r → 1 ≤ intV (fr i)) (hf : ∀ i, i < r → intV (fr' i) = intV (fr i))
    (hX : ∀ nx ms mk mt my mv n a c d N f pl f8 g q, Side nx ms mk mt my mv (lst f n) m pl N f8 g q → N ≤ n0 → All PP (X3 nx ms mk mt my mv n nx N N a f pl c f8 d g q)) :
    ∀ (k j : Nat) (nx ms mk mt my mv : Int) (n a c d N : Nat) (f pl f8 g q : Nat → V), j ≤ n0 → n0 - j < k → Side nx ms mk mt my mv (lst f n) m pl N f8 g q → N ≤ j →
      All PP (Lf14_0_0 X0 X1 X2 X3 n0 f1 (ofN n0) r s hold m r s hold m fr fr' k (ofN j) nx ms mk mt my mv n nx N N a f pl c f8 d g q)
  | 0, j, nx, ms, mk, mt, my, mv, n, a, c, d, N, f, pl, f8, g, q, _, hk, _, _ => by omega
  | k + 1, j, nx, ms, mk, mt, my, mv, n, a, c, d, N, f, pl, f8, g, q, hj, hk, hS, hNj => by
    have ih := lfA X0 X1 X2 X3 n0 f1 r s hold fr fr' hn0 hc hr1 hr3 hs hs' hm hg hf hX k
    show All PP (Rd14_0_0 (Lf14_0_0 X0 X1 X2 X3 n0 f1 (ofN n0) r s hold m r s hold m fr fr' k) X0 X1 X2 X3 n0 f1 (ofN n0) r s hold m r s hold m fr fr' (ofN j) nx ms mk mt my mv n nx N N a f pl c f8 d g q)
    generalize Lf14_0_0 X0 X1 X2 X3 n0 f1 (ofN n0) r s hold m r s hold m fr fr' k = NX at ih ⊢
    unfold Rd14_0_0
    refine ailt (fun hlt => ?_) (fun _ => hX _ _ _ _ _ _ _ _ _ _ _ _ _ _ _ _ hS (by omega))
    have hlt' : j < n0 := by simp only [ofN] at hlt; omega
    obtain ⟨c1, c2, c3, c4, c5⟩ := hc j hlt'
    refine aiand (aile (fun _ => ailt (fun _ => ?_) (fun h => absurd hlt h)) (fun h => absurd (by simp only [ofN]; omega) h))
    rw [wrap_succ (by omega), natI_ofN]
    refine allPlay _ _ _ _ _ _ _ _ _ _ _ _ _ _ _ _ _ _ r s hold fr fr' hS (by omega) c1 c2 c3 c4 (by omega) hr1 hr3 hs hs' hm hg hf (fun n' f' p' g' q' h _ => ?_) (fun f' f8' g' h => ?_) ?_ (fun mt' f8' g' h => ?_)
    · exact ih (j + 1) nx ms mk mt my mv n' a c d N f' p' f8 g' q' (by omega) (by omega) h (by omega)
    · exact ih (j + 1) (nx + 1) ms mk mt my mv (n + 1) _ _ _ (N + 1) f' pl f8' g' q (by omega) (by omega) h (by omega)
    · exact ainot (aitrue (ih (j + 1) nx ms mk mt my mv n a c d N f pl f8 g q (by omega) (by omega) hS (by omega)))
    · exact ih (j + 1) (nx + 1) nx 2 mt' 0 0 n a _ _ (N + 1) f pl f8' g' q (by omega) (by omega) h (by omega)
theorem lfB (X0 : Int → Nat → Nat → Int → Int → Int → Int → Int → Int → Nat → Nat → (Nat → V) → Nat → (Nat → V) → (Nat → V) → Nat → (Nat → V) → (Nat → V) → Int → Int → Int → Int → Int → Int → Int → Int → Int → Nat → (Nat → V) → R β) (X1 : Int → Nat → Nat → Int → Int → Int → Int → Int → Int → Nat → Nat → (Nat → V) → Nat → (Nat → V) → (Nat → V) → (Nat → V) → Int → Int → Int → Int → Int → Int → Int → Int → Int → Nat → (Nat → V) → (Nat → V) → R β) (X2 : Int → Nat → Nat → Int → Int → Int → Int → Int → Int → Nat → (Nat → V) → (Nat → V) → Int → Int → Int → Int → Int → Int → Int → Int → Int → Nat → (Nat → V) → (Nat → V) → (Nat → V) → (Nat → V) → R β) (X3 : Int → Nat → Nat → Int → Int → Int → Int → Int → Int → Nat → (Nat → V) → Nat → (Nat → V) → (Nat → V) → Int → Int → Int → Int → Int → Int → Int → Int → Int → Nat → (Nat → V) → (Nat → V) → (Nat → V) → R β) (X4 : R β)
    (n0 : Nat) (f1 : Nat → V) (r : Nat) (s hold : Int) (fr fr' : Nat → V) (hn0 : n0 ≤ 100) (hc : okCalls n0 f1)
    (hr1 : 1 ≤ r) (hr3 : r ≤ 3) (hs : 1 ≤ s) (hs' : s ≤ 4) (hm : m = r * s.toNat) (hg : ∀ i, i < r → 1 ≤ intV (fr i)) (hf : ∀ i, i < r → intV (fr' i) = intV (fr i)) (h4 : All PP X4) :
    ∀ (k j : Nat) (nx ms mk mt my mv : Int) (n a c d N : Nat) (f pl f8 g q : Nat → V), j ≤ n0 → n0 - j < k → Side nx ms mk mt my mv (lst f n) m pl N f8 g q → N ≤ 1048576 + j →
      All PP (Lf14_2_0 X0 X1 X2 X3 (fun _ _ _ _ _ _ _ _ _ _ _ _ _ _ _ _ _ _ => X4) n0 f1 (ofN n0) r s hold m r s hold m fr' fr k (ofN j) nx N N nx ms mk mt my mv n a f8 c g q d f pl)
  | 0, j, nx, ms, mk, mt, my, mv, n, a, c, d, N, f, pl, f8, g, q, _, hk, _, _ => by omega
  | k + 1, j, nx, ms, mk, mt, my, mv, n, a, c, d, N, f, pl, f8, g, q, hj, hk, hS, hNj => by
    have ih := lfB X0 X1 X2 X3 X4 n0 f1 r s hold fr fr' hn0 hc hr1 hr3 hs hs' hm hg hf h4 k
    show All PP (Rd14_2_0 (Lf14_2_0 X0 X1 X2 X3 (fun _ _ _ _ _ _ _ _ _ _ _ _ _ _ _ _ _ _ => X4) n0 f1 (ofN n0) r s hold m r s hold m fr' fr k) X0 X1 X2 X3 (fun _ _ _ _ _ _ _ _ _ _ _ _ _ _ _ _ _ _ => X4) n0 f1 (ofN n0) r s hold m r s hold m fr' fr (ofN j) nx N N nx ms mk mt my mv n a f8 c g q d f pl)
    generalize Lf14_2_0 X0 X1 X2 X3 (fun _ _ _ _ _ _ _ _ _ _ _ _ _ _ _ _ _ _ => X4) n0 f1 (ofN n0) r s hold m r s hold m fr' fr k = NX at ih ⊢
    unfold Rd14_2_0
    refine ailt (fun hlt => ?_) (fun _ => h4)
    have hlt' : j < n0 := by simp only [ofN] at hlt; omega
    obtain ⟨c1, c2, c3, c4, c5⟩ := hc j hlt'
    have hsm := hS.small
    have hmul : r * s.toNat ≤ 12 := Nat.mul_le_mul hr3 (show s.toNat ≤ 4 by omega)
    refine aiand (aile (fun _ => ailt (fun _ => ?_) (fun h => absurd hlt h)) (fun h => absurd (by simp only [ofN]; omega) h))
    rw [wrap_succ (by omega), natI_ofN]
    refine allPlay _ _ _ _ _ _ _ _ _ _ _ _ _ _ _ _ _ _ r s hold fr fr' hS (by omega) c1 c2 c3 c4 (by omega) hr1 hr3 hs hs' hm hg hf (fun n' f' p' g' q' h hn' => ?_) (fun f' f8' g' h => ?_) ?_ (fun mt' f8' g' h => ?_)
    · exact allSame _ _ nx ms mt n' m N f' p' f8 g' q' (by omega) (by omega) (by omega) h.relS h.place (ih (j + 1) nx ms mk mt my mv n' a c d N f' p' f8 g' q' (by omega) (by omega) h (by omega))
    · exact allSame _ _ (nx + 1) ms mt (n + 1) m (N + 1) f' pl f8' g' q (by omega) (by omega) (by omega) h.relS h.place (ih (j + 1) (nx + 1) ms mk mt my mv (n + 1) _ _ _ (N + 1) f' pl f8' g' q (by omega) (by omega) h (by omega))
    · exact ainot (aitrue (allSame _ _ nx ms mt n m N f pl f8 g q (by omega) (by omega) (by omega) hS.relS hS.place (ih (j + 1) nx ms mk mt my mv n a c d N f pl f8 g q (by omega) (by omega) hS (by omega))))
    · exact allSame _ _ (nx + 1) nx mt' n m (N + 1) f pl f8' g' q (by omega) (by omega) (by omega) h.relS h.place (ih (j + 1) (nx + 1) nx 2 mt' 0 0 n _ _ d (N + 1) f pl f8' g' q (by omega) (by omega) h (by omega))
end
end Go.Proofs.Ytbplfgghcclgkaa
