/- Maps whose keys are whole numbers: lookups behind puts. No conditions. -/
import Derived.Test.YtcafnbjmebichaaPb
open Go Go.VM
namespace Go.VM
section
abbrev Ents := List (Nat × V × V)
/-- all keys are whole numbers -/
def AllI (L : Ents) : Prop := ∀ e, e ∈ L → ∃ a, e.2.1 = .int .i64 a
theorem AllI.tail {e : Nat × V × V} {L : Ents} (h : AllI (e :: L)) : AllI L := fun x hx => h x (List.mem_cons_of_mem _ hx)
theorem same_int (a b : Int) : same (.int .i64 a) (.int .i64 b) = eqI a b := rfl
theorem eqI_self (a : Int) : eqI a a = true := eqI_iff.2 rfl
theorem eqI_ne {a b : Int} (h : a ≠ b) : eqI a b = false := eqI_no.2 h
theorem hasK_put {L : Ents} (hL : AllI L) (c : Nat) (x : V) (a b : Int) : hasK (.int .i64 b) (putL c (.int .i64 a) x L) = (if a = b then true else hasK (.int .i64 b) L) := by
  induction L with
  | nil =>
    show (match same (.int .i64 a) (.int .i64 b) with | true => true | false => false) = _
    rw [same_int]
    by_cases h : a = b
    · subst h; rw [eqI_self]; simp
    · rw [eqI_ne h, if_neg h]; rfl
  | cons e L ih =>
    obtain ⟨d, hd⟩ := hL e List.mem_cons_self
    obtain ⟨n, k, v⟩ := e
    have hd : k = .int .i64 d := hd
    subst hd
    have ih := ih hL.tail
    unfold putL
    rw [same_int]
    by_cases hda : d = a
    · subst hda
      rw [eqI_self]
      show (match same (.int .i64 d) (.int .i64 b) with | true => true | false => hasK (.int .i64 b) L) = (if d = b then true else match same (.int .i64 d) (.int .i64 b) with | true => true | false => hasK (.int .i64 b) L)
      rw [same_int]
      by_cases h : d = b
      · subst h; rw [eqI_self]; simp
      · rw [if_neg h]
    · rw [eqI_ne hda]
      show (match same (.int .i64 d) (.int .i64 b) with | true => true | false => hasK (.int .i64 b) (putL c (.int .i64 a) x L)) = (if a = b then true else match same (.int .i64 d) (.int .i64 b) with | true => true | false => hasK (.int .i64 b) L)
      rw [same_int, ih]
      by_cases h : d = b
      · subst h; rw [eqI_self]; simp
      · rw [eqI_ne h]
theorem getK_put {L : Ents} (hL : AllI L) (c : Nat) (x : V) (a b : Int) : getK (.int .i64 b) (putL c (.int .i64 a) x L) = (if a = b then x else getK (.int .i64 b) L) := by
  induction L with
  | nil =>
    show (match same (.int .i64 a) (.int .i64 b) with | true => x | false => .junk) = _
    rw [same_int]
    by_cases h : a = b
    · subst h; rw [eqI_self]; simp
    · rw [eqI_ne h, if_neg h]; rfl
  | cons e L ih =>
    obtain ⟨d, hd⟩ := hL e List.mem_cons_self
    obtain ⟨n, k, v⟩ := e
    have hd : k = .int .i64 d := hd
    subst hd
    have ih := ih hL.tail
    unfold putL
    rw [same_int]
    by_cases hda : d = a
    · subst hda
      rw [eqI_self]
      show (match same (.int .i64 d) (.int .i64 b) with | true => x | false => getK (.int .i64 b) L) = (if d = b then x else match same (.int .i64 d) (.int .i64 b) with | true => v | false => getK (.int .i64 b) L)
      rw [same_int]
      by_cases h : d = b
      · subst h; rw [eqI_self]; simp
      · rw [eqI_ne h, if_neg h]
    · rw [eqI_ne hda]
      show (match same (.int .i64 d) (.int .i64 b) with | true => v | false => getK (.int .i64 b) (putL c (.int .i64 a) x L)) = (if a = b then x else match same (.int .i64 d) (.int .i64 b) with | true => v | false => getK (.int .i64 b) L)
      rw [same_int, ih]
      by_cases h : d = b
      · subst h
        rw [eqI_self]
        exact (if_neg (fun h => hda h.symm)).symm
      · rw [eqI_ne h]
theorem put_some {L : Ents} {k : V} (h : hasK k L = true) (c : Nat) (x : V) : ∃ j kv, L[j]? = some kv ∧ putL c k x L = L.set j (kv.1, kv.2.1, x) := by
  obtain ⟨j, kv, h1, _, _, h2, _⟩ := hasK_at h
  exact ⟨j, kv, h1, h2 c x⟩
theorem allI_put {L : Ents} (hL : AllI L) (c : Nat) (x : V) (a : Int) : AllI (putL c (.int .i64 a) x L) := by
  cases h : hasK (.int .i64 a) L with
  | false =>
    rw [putL_no h]
    intro e he
    rcases List.mem_append.1 he with he | he
    · exact hL e he
    · exact ⟨a, by rw [List.mem_singleton.1 he]⟩
  | true =>
    obtain ⟨j, kv, hj, e⟩ := put_some h c x
    rw [e]
    intro e he
    rcases List.mem_or_eq_of_mem_set he with he | he
    · exact hL e he
    · obtain ⟨a', ha'⟩ := hL kv (List.mem_of_getElem? hj)
      exact ⟨a', by rw [he]; exact ha'⟩
theorem len_put {L : Ents} (c : Nat) (x k : V) : (putL c k x L).length = (if hasK k L = true then L.length else L.length + 1) := by
  cases h : hasK k L with
  | false => rw [putL_no h]; simp
  | true =>
    obtain ⟨j, kv, hj, e⟩ := put_some h c x
    rw [e]; simp
theorem keysI_eqm (L : Ents) : keysI L = L.map fun e => intV e.2.1 := by
  induction L with
  | nil => rfl
  | cons e L ih => show intV e.2.1 :: keysI L = _; rw [ih]; rfl
theorem keysI_put {L : Ents} (c : Nat) (x : V) (a : Int) : keysI (putL c (.int .i64 a) x L) = (if hasK (.int .i64 a) L = true then keysI L else keysI L ++ [a]) := by
  cases h : hasK (.int .i64 a) L with
  | false => rw [putL_no h, keysI_eqm, keysI_eqm]; simp [intV]
  | true =>
    obtain ⟨j, kv, hj, e⟩ := put_some h c x
    rw [e, keysI_eqm, keysI_eqm, if_pos rfl]
    refine List.ext_getElem? fun i => ?_
    rw [List.getElem?_map, List.getElem?_map, List.getElem?_set]
    by_cases hij : j = i
    · subst hij
      rw [if_pos rfl, if_pos (List.getElem?_eq_some_iff.1 hj).1, hj]
      rfl
    · rw [if_neg hij]
theorem stamp_put : ∀ {L : Ents} {c lo : Nat} (k x : V), lo ≤ c → stampB c lo L = true → stampB (putC c k L) lo (putL c k x L) = true := by
  intro L c lo k x hlo hs
  cases h : hasK k L with
  | true =>
    have e : putC c k L = c := by unfold putC; rw [h]
    rw [e]
    clear e
    induction L generalizing lo with
    | nil => cases h
    | cons e L ih =>
      unfold hasK at h
      unfold putL
      have hs' : (match leN lo e.1, ltN e.1 c with | true, true => stampB c (e.1 + 1) L | _, _ => false) = true := hs
      cases h1 : leN lo e.1 with
      | false => rw [h1] at hs'; simp at hs'
      | true =>
        cases h2 : ltN e.1 c with
        | false => rw [h1, h2] at hs'; simp at hs'
        | true =>
          rw [h1, h2] at hs'
          have hs' : stampB c (e.1 + 1) L = true := hs'
          cases hk : same e.2.1 k with
          | true =>
            show (match leN lo e.1, ltN e.1 c with | true, true => stampB c (e.1 + 1) L | _, _ => false) = true
            rw [h1, h2]
            exact hs'
          | false =>
            rw [hk] at h
            show (match leN lo e.1, ltN e.1 c with | true, true => stampB c (e.1 + 1) (putL c k x L) | _, _ => false) = true
            rw [h1, h2]
            exact ih (by have := ltN_iff.1 h2; omega) hs' h
  | false =>
    have e : putC c k L = c + 1 := by unfold putC; rw [h]; rfl
    rw [e, putL_no h]
    clear e h
    induction L generalizing lo with
    | nil =>
      show (match leN lo c, ltN c (c + 1) with | true, true => true | _, _ => false) = true
      rw [leN_iff.2 hlo, ltN_iff.2 (Nat.lt_succ_self c)]
    | cons e L ih =>
      have hs' : (match leN lo e.1, ltN e.1 c with | true, true => stampB c (e.1 + 1) L | _, _ => false) = true := hs
      cases h1 : leN lo e.1 with
      | false => rw [h1] at hs'; simp at hs'
      | true =>
        cases h2 : ltN e.1 c with
        | false => rw [h1, h2] at hs'; simp at hs'
        | true =>
          rw [h1, h2] at hs'
          have hs' : stampB c (e.1 + 1) L = true := hs'
          have h3 : ltN e.1 (c + 1) = true := ltN_iff.2 (by have := ltN_iff.1 h2; omega)
          show (match leN lo e.1, ltN e.1 (c + 1) with | true, true => stampB (c + 1) (e.1 + 1) (L ++ [(c, k, x)]) | _, _ => false) = true
          rw [h1, h3]
          exact ih (by have := ltN_iff.1 h2; omega) hs'
theorem hasK_keys {L : Ents} (hL : AllI L) (a : Int) : hasK (.int .i64 a) L = true ↔ a ∈ keysI L := by
  induction L with
  | nil => simp [hasK, keysI]
  | cons e L ih =>
    obtain ⟨d, hd⟩ := hL e List.mem_cons_self
    have ih := ih hL.tail
    unfold hasK
    rw [hd, same_int]
    show _ ↔ a ∈ intV e.2.1 :: keysI L
    rw [hd]
    by_cases h : d = a
    · subst h; rw [eqI_self]; simp [intV]
    · rw [eqI_ne h]
      simp only [List.mem_cons, intV]
      exact ⟨fun h' => .inr (ih.1 h'), fun h' => ih.2 (h'.resolve_left fun h' => h h'.symm)⟩
end
end Go.VM
