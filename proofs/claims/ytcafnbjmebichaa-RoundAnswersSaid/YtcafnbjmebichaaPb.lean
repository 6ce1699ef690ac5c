/- Choices and numbers: what walks come to, taken apart. No conditions. -/
import Derived.Test.YtcafnbjmebichaaVmD
namespace Go.VM
/-! ### Choices, by what they hold against each other -/
section
variable {β : Type} {PP : β → Prop} {x y : R β}
theorem ailt {a b : Int} (h1 : a < b → All PP x) (h2 : ¬ a < b → All PP y) : All PP (iteR (ltI a b) x y) := all_iteR (fun h => h1 (ltI_iff.1 h)) (fun h => h2 (ltI_no.1 h))
theorem aile {a b : Int} (h1 : a ≤ b → All PP x) (h2 : ¬ a ≤ b → All PP y) : All PP (iteR (leI a b) x y) := all_iteR (fun h => h1 (leI_iff.1 h)) (fun h => h2 (by simpa [leI] using h))
theorem aieq {a b : Int} (h1 : a = b → All PP x) (h2 : a ≠ b → All PP y) : All PP (iteR (eqI a b) x y) := all_iteR (fun h => h1 (eqI_iff.1 h)) (fun h => h2 (eqI_no.1 h))
theorem ailtn {a b : Nat} (h1 : a < b → All PP x) (h2 : ¬ a < b → All PP y) : All PP (iteR (ltN a b) x y) := all_iteR (fun h => h1 (ltN_iff.1 h)) (fun h => h2 (by simpa [ltN] using h))
theorem ailen {a b : Nat} (h1 : a ≤ b → All PP x) (h2 : ¬ a ≤ b → All PP y) : All PP (iteR (leN a b) x y) := all_iteR (fun h => h1 (leN_iff.1 h)) (fun h => h2 (leN_no.1 h))
theorem aieqn {a b : Nat} (h1 : a = b → All PP x) (h2 : a ≠ b → All PP y) : All PP (iteR (eqN a b) x y) := all_iteR (fun h => h1 (eqN_iff.1 h)) (fun h => h2 (by simpa [eqN] using h))
theorem ainot {b : Bool} (h : All PP (iteR b y x)) : All PP (iteR (notB b) x y) := by cases b <;> exact h
theorem aiand {a b : Bool} (h : All PP (iteR a (iteR b x y) y)) : All PP (iteR (andB a b) x y) := by cases a <;> cases b <;> exact h
theorem aior {a b : Bool} (h : All PP (iteR a x (iteR b x y))) : All PP (iteR (orB a b) x y) := by cases a <;> cases b <;> exact h
theorem aieqb {a b : Bool} (h : All PP (iteR a (iteR b x y) (iteR b y x))) : All PP (iteR (eqB a b) x y) := by cases a <;> cases b <;> exact h
theorem aitrue (h : All PP x) : All PP (iteR true x y) := h
theorem aifalse (h : All PP y) : All PP (iteR false x y) := h
theorem afail (h : False) : All PP (.fail : R β) := h.elim
end
theorem wrap_add {a b : Int} (h1 : -9223372036854775808 ≤ a + b) (h2 : a + b ≤ 9223372036854775807) : wrapI .i64 (addI a b) = a + b := wrap_in h1 h2
theorem wrap_sub {a b : Int} (h1 : -9223372036854775808 ≤ a - b) (h2 : a - b ≤ 9223372036854775807) : wrapI .i64 (subI a b) = a - b := wrap_in h1 h2
theorem wrap_i64 (n : Int) : wrapI .i64 n = (n + 9223372036854775808) % 18446744073709551616 - 9223372036854775808 := IntKind.wrap_i64 n
theorem wrap_u64 (n : Int) : wrapI .u64 n = n % 18446744073709551616 := by unfold wrapI; simp [IntKind.wrap, IntKind.bits, IntKind.signed]
theorem wrap_range (x : Int) : -9223372036854775808 ≤ wrapI .i64 x ∧ wrapI .i64 x ≤ 9223372036854775807 := by
  rw [wrap_i64]; omega
/-- a number kept within 1 .. m -/
theorem keep_range {m : Int} (h1 : 0 < m) (h2 : m < 1000000) (x : Int) : 1 ≤ wrapI .i64 (addI 1 (wrapI .i64 (tmodI (wrapI .u64 x) m))) ∧ wrapI .i64 (addI 1 (wrapI .i64 (tmodI (wrapI .u64 x) m))) ≤ m := by
  have h0 : 0 ≤ wrapI .u64 x := by rw [wrap_u64]; omega
  have e1 : 0 ≤ tmodI (wrapI .u64 x) m := Int.tmod_nonneg _ h0
  have e2 : tmodI (wrapI .u64 x) m < m := Int.tmod_lt_of_pos _ h1
  generalize tmodI (wrapI .u64 x) m = r at *
  rw [wrap_in (n := r) (by omega) (by omega), wrap_add (by omega) (by omega)]
  omega

/-! ### what comes in: parts of structs -/
theorem Ins.at {T : Tab} : ∀ {fs : List Nat} {l : List V} {k u : Nat}, Ins T fs l → fs[k]? = some u → In T u (l.getD k .junk)
  | _ :: _, _, 0, _, .cons h _, hk => by
    simp only [List.getElem?_cons_zero, Option.some.injEq] at hk
    subst hk
    exact h
  | _ :: _, _, k + 1, _, .cons _ hl, hk => Ins.at (k := k) hl (by simpa using hk)
theorem In.part {T : Tab} {t u k : Nat} {v : V} {fs : List Nat} (h : In T t v) (ht : find t T = some (.st fs)) (hk : fs[k]? = some u) : In T u (partV v k) := by
  obtain ⟨l, rfl, hl⟩ := h.st' ht
  exact hl.at hk
def inI (x : Int) : Prop := -9223372036854775808 ≤ x ∧ x ≤ 9223372036854775807
theorem In.inI {T : Tab} {t : Nat} {v : V} (h : In T t v) (ht : find t T = some (.int .i64)) : inI (intV v) := by
  obtain ⟨n, rfl, h1, h2⟩ := h.int' ht
  exact ⟨h1, h2⟩
end Go.VM
