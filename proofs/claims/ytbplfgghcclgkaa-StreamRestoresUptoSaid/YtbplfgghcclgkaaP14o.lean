/- What the document replays is what a stream replays. No conditions. -/
import Derived.Test.YtbplfgghcclgkaaP14n
open Go Go.VM
namespace Go.Proofs.Ytbplfgghcclgkaa
set_option maxRecDepth 100000
section
def allL (ms : Int) (f g : Nat → V) : Nat → List V
  | 0 => []
  | n + 1 => allL ms f g n ++ (if (kd (f n) = 2 ∧ sq (f n) = ms) ∨ (kd (f n) = 1 ∧ boolV (g n) = false) then [etaOp (f n)] else [])
theorem replL_eq (fr ms : Int) (f g : Nat → V) : ∀ n, replL fr ms f g n = (allL ms f g n).filter (keep fr)
  | 0 => rfl
  | n + 1 => by
    unfold replL allL
    rw [List.filter_append, replL_eq fr ms f g n]
    congr 1
    by_cases hc : (kd (f n) = 2 ∧ sq (f n) = ms) ∨ (kd (f n) = 1 ∧ boolV (g n) = false)
    · rw [if_pos hc]
      by_cases hf : fr ≤ sq (f n)
      · rw [if_pos ⟨hf, hc⟩, List.filter_cons_of_pos (by unfold keep; rw [sq_eta]; simpa using hf), List.filter_nil]
      · rw [if_neg (fun h => hf h.1), List.filter_cons_of_neg (by unfold keep; rw [sq_eta]; simpa using hf), List.filter_nil]
    · rw [if_neg hc, if_neg (fun h => hc h.2), List.filter_nil]
theorem heldL_mem {f g : Nat → V} : ∀ {n : Nat} {v : V}, v ∈ heldL f g n → ∃ i, i < n ∧ v = etaOp (f i)
  | 0, _, h => by cases h
  | n + 1, v, h => by
    unfold heldL at h
    rcases List.mem_append.1 h with h | h
    · obtain ⟨i, hi, e⟩ := heldL_mem h
      exact ⟨i, by omega, e⟩
    · split at h
      · exact ⟨n, by omega, List.mem_singleton.1 h⟩
      · cases h
theorem allL_ahead {ms : Int} {f g : Nat → V} : ∀ n, (∀ i, i < n → sq (f i) ≠ ms) → allL ms f g n = heldL f g n
  | 0, _ => rfl
  | n + 1, h => by
    unfold allL heldL
    rw [allL_ahead n (fun i hi => h i (by omega))]
    congr 1
    by_cases hc : kd (f n) = 1 ∧ boolV (g n) = false
    · rw [if_pos hc, if_pos (.inr hc)]
    · rw [if_neg hc, if_neg (fun h' => h'.elim (fun a => h n (by omega) a.2) hc)]
theorem allL_with {ms mk mt my mv : Int} {f g : Nat → V} {j : Nat} (hj : etaOp (f j) = .nd 38 [.int .i64 ms, .int .i64 mk, .int .i64 mt, .int .i64 my, .int .i64 mv]) (hk : kd (f j) = 2) (hpos : 0 < ms) :
    ∀ n, j < n → (∀ a b, a < b → b < n → sq (f a) < sq (f b)) → allL ms f g n = withM ms mk mt my mv (heldL f g n) := by
  have hsj : sq (f j) = ms := by rw [← sq_eta, hj]; rfl
  intro n
  induction n with
  | zero => intro h; omega
  | succ n ih =>
    intro hn hr
    by_cases e : j = n
    · subst e
      have h1 : allL ms f g j = heldL f g j := allL_ahead j fun i hi => by have := hr i j hi (by omega); omega
      have h2 : heldL f g (j + 1) = heldL f g j := by
        show heldL f g j ++ _ = _
        rw [if_neg (by rw [hk]; rintro ⟨a, _⟩; omega), List.append_nil]
      have h3 : ∀ v ∈ heldL f g j, sq v < ms := fun v hv => by
        obtain ⟨i, hi, rfl⟩ := heldL_mem hv
        have := hr i j hi (by omega)
        rw [sq_eta]; omega
      rw [h2]
      unfold withM
      rw [if_pos hpos]
      show allL ms f g j ++ _ = _
      rw [if_pos (.inl ⟨hk, hsj⟩), h1, hj]
      have a : (heldL f g j).filter (fun v => decide (sq v < ms)) = heldL f g j := List.filter_eq_self.2 fun v hv => by simpa using h3 v hv
      have b : (heldL f g j).filter (fun v => decide (ms ≤ sq v)) = [] := List.filter_eq_nil_iff.2 fun v hv => by have := h3 v hv; simp; omega
      rw [a, b, List.append_nil]
    · have hlt : ms < sq (f n) := by have := hr j n (by omega) (by omega); omega
      have ih := ih (by omega) (fun a b h1 h2 => hr a b h1 (by omega))
      show allL ms f g n ++ _ = withM ms mk mt my mv (heldL f g n ++ _)
      rw [ih]
      unfold withM
      rw [if_pos hpos, if_pos hpos]
      by_cases hc : kd (f n) = 1 ∧ boolV (g n) = false
      · rw [if_pos hc, if_pos (.inr hc), List.filter_append, List.filter_append, List.filter_cons_of_neg (by rw [sq_eta]; simp; omega), List.filter_cons_of_pos (by rw [sq_eta]; simp; omega), List.filter_nil, List.append_nil, List.filter_nil]
        simp only [List.append_assoc]
      · rw [if_neg hc, if_neg (fun h' => h'.elim (fun a => by omega) hc), List.append_nil, List.append_nil]
theorem repl_same {fr ms mk mt my mv : Int} {f g : Nat → V} {n : Nat} (hr : ∀ a b, a < b → b < n → sq (f a) < sq (f b)) (hpos : ∀ i, i < n → 0 < sq (f i))
    (hm : (lastM f n = 0 ∧ ms = 0) ∨ ∃ j, lastM f n = j + 1 ∧ 0 < ms ∧ etaOp (f j) = .nd 38 [.int .i64 ms, .int .i64 mk, .int .i64 mt, .int .i64 my, .int .i64 mv]) :
    replL fr ms f g n = (withM ms mk mt my mv (heldL f g n)).filter (keep fr) := by
  rw [replL_eq]
  congr 1
  rcases hm with ⟨_, rfl⟩ | ⟨j, hj, hp, he⟩
  · rw [allL_ahead n fun i hi => by have := hpos i hi; omega]
    unfold withM
    rw [if_neg (by omega)]
  · have hjn : j < n := by have := lastM_le f n; omega
    have hk := lastM_kd f n (by omega)
    rw [hj] at hk
    exact allL_with he hk hp n hjn hr
end
end Go.Proofs.Ytbplfgghcclgkaa
