/- A stream and the document's, side by side: what each call keeps. No conditions. -/
import Derived.Test.YtbplfgghcclgkaaP14o
open Go Go.VM
namespace Go.Proofs.Ytbplfgghcclgkaa
set_option maxRecDepth 100000
section
structure Side (nx ms mk mt my mv : Int) (S : List V) (m : Nat) (pl : Nat → V) (n : Nat) (f g q : Nat → V) : Prop where
  next : nx = n + 1
  num : ∀ i, i < n → sq (f i) = i + 1 ∧ (kd (f i) = 1 ∨ kd (f i) = 2) ∧ inI (intV (partV (f i) 2)) ∧ inI (intV (partV (f i) 3))
  held : S = heldL f g n
  mark : (lastM f n = 0 ∧ ms = 0) ∨ ∃ j, lastM f n = j + 1 ∧ 0 < ms ∧ mk = 2 ∧ etaOp (f j) = .nd 38 [.int .i64 ms, .int .i64 mk, .int .i64 mt, .int .i64 my, .int .i64 mv]
  inv : SInv nx ms mk S
  place : ∀ j, j < m → etaPl (pl j) = etaPl (q j)
  late : ∀ v, v ∈ S → 0 < ms → ms < sq v → mt ≤ tm v
  zero : 0 < ms → my = 0 ∧ mv = 0
theorem lastM_congr {f f' : Nat → V} : ∀ n, (∀ i, i < n → kd (f i) = kd (f' i)) → lastM f n = lastM f' n
  | 0, _ => rfl
  | n + 1, h => by
    unfold lastM
    rw [h n (by omega), lastM_congr n (fun i hi => h i (by omega))]
theorem heldL_congr2 {f f' g g' : Nat → V} : ∀ n, (∀ j, j < n → f j = f' j ∧ boolV (g j) = boolV (g' j)) → heldL f g n = heldL f' g' n
  | 0, _ => rfl
  | n + 1, h => by
    unfold heldL
    rw [heldL_congr2 n (fun j hj => h j (by omega)), (h n (by omega)).1, (h n (by omega)).2]
variable {nx ms mk mt my mv : Int} {S : List V} {m : Nat} {pl : Nat → V} {n : Nat} {f g q : Nat → V}
theorem join_lt (f : Nat → V) (z v : V) (n : Nat) {i : Nat} (h : i < n) : joinF f (litF z [v]) n i = f i := joinF_lt f _ h
theorem join_at (f : Nat → V) (z v : V) (n : Nat) : joinF f (litF z [v]) n n = v := by rw [joinF_ge f _ (Nat.le_refl n), Nat.sub_self]; rfl
theorem Side.sample (h : Side nx ms mk mt my mv S m pl n f g q) {z z' : V} {t ky vl : Int} (hl : ¬ (0 < ms ∧ t < mt)) (ht : inI t) (hk : inI ky) :
    Side (nx + 1) ms mk mt my mv (S ++ [.nd 38 [.int .i64 nx, .int .i64 1, .int .i64 t, .int .i64 ky, .int .i64 vl]]) m pl (n + 1) (joinF f (litF z [.nd 38 [.int .i64 nx, .int .i64 1, .int .i64 t, .int .i64 ky, .int .i64 vl]]) n) (joinF g (litF z' [.bool false]) n) q := by
  have hx : 1 ≤ nx := by have := h.next; omega
  refine ⟨by have := h.next; omega, fun i hi => ?_, ?_, ?_, h.inv.add hx rfl rfl rfl, h.place, fun v hv hp hs => ?_, h.zero⟩
  · by_cases e : i = n
    · subst e
      rw [join_at]
      exact ⟨by have := h.next; show nx = _; omega, .inl rfl, ht, hk⟩
    · rw [join_lt _ _ _ _ (by omega)]
      exact h.num i (by omega)
  · show _ = heldL _ _ n ++ _
    rw [join_at, join_at, if_pos ⟨rfl, rfl⟩, h.held]
    congr 1
    exact heldL_congr2 n fun j hj => ⟨(join_lt _ _ _ _ hj).symm, by rw [join_lt _ _ _ _ hj]⟩
  · have hl : lastM (joinF f (litF z [.nd 38 [.int .i64 nx, .int .i64 1, .int .i64 t, .int .i64 ky, .int .i64 vl]]) n) (n + 1) = lastM f n := by
      show (if kd _ = 2 then n + 1 else _) = _
      rw [join_at]
      refine (if_neg (show ¬ (1 : Int) = 2 by decide)).trans ?_
      exact lastM_congr n fun i hi => by rw [join_lt _ _ _ _ hi]
    rw [hl]
    rcases h.mark with a | ⟨j, a, b, c, d⟩
    · exact .inl a
    · have := lastM_le f n
      exact .inr ⟨j, a, b, c, by rw [join_lt _ _ _ _ (by omega)]; exact d⟩
  · rcases List.mem_append.1 hv with hv | hv
    · exact h.late v hv hp hs
    · obtain rfl := List.mem_singleton.1 hv
      show mt ≤ t
      omega
theorem Side.marked (h : Side nx ms mk mt my mv S m pl n f g q) {z z' : V} {t : Int} (ht : inI t) :
    Side (nx + 1) nx 2 t 0 0 S m pl (n + 1) (joinF f (litF z [.nd 38 [.int .i64 nx, .int .i64 2, .int .i64 t, .int .i64 0, .int .i64 0]]) n) (joinF g (litF z' [.bool false]) n) q := by
  have hx : 1 ≤ nx := by have := h.next; omega
  refine ⟨by have := h.next; omega, fun i hi => ?_, ?_, ?_, h.inv.marked hx, h.place, fun v hv _ hs => ?_, fun _ => ⟨rfl, rfl⟩⟩
  · by_cases e : i = n
    · subst e
      rw [join_at]
      exact ⟨by have := h.next; show nx = _; omega, .inr rfl, ht, show inI 0 from ⟨by decide, by decide⟩⟩
    · rw [join_lt _ _ _ _ (by omega)]
      exact h.num i (by omega)
  · show _ = heldL _ _ n ++ _
    rw [join_at, join_at, if_neg (by rintro ⟨a, _⟩; exact absurd (show (2 : Int) = 1 from a) (by decide)), List.append_nil, h.held]
    exact heldL_congr2 n fun j hj => ⟨(join_lt _ _ _ _ hj).symm, by rw [join_lt _ _ _ _ hj]⟩
  · refine .inr ⟨n, ?_, by omega, rfl, by rw [join_at]; rfl⟩
    show (if kd _ = 2 then n + 1 else _) = _
    rw [join_at]
    exact if_pos rfl
  · have := (h.inv.ops v hv).2.1
    omega
theorem Side.cut (h : Side nx ms mk mt my mv S m pl n f g q) {p : V → Bool} {g' pl' q' : Nat → V} {S' : List V} (hS : S' = S.filter p) (hg : heldL f g' n = (heldL f g n).filter p) (hp : ∀ j, j < m → etaPl (pl' j) = etaPl (q' j)) :
    Side nx ms mk mt my mv S' m pl' n f g' q' :=
  ⟨h.next, h.num, by rw [hS, hg, h.held], h.mark, by rw [hS]; exact h.inv.cut p, hp, fun v hv => h.late v (by rw [hS] at hv; exact (List.mem_filter.1 hv).1), h.zero⟩
theorem Side.relS (h : Side nx ms mk mt my mv S m pl n f g q) : RelS nx ms mt S n f g :=
  ⟨h.held, by
    rcases h.mark with a | ⟨j, a, b, c, d⟩
    · exact .inl a
    · exact .inr ⟨j, a, by rw [← sq_eta, d]; rfl, b, by rw [← tm_eta, d]; rfl⟩⟩
theorem Side.early (h : Side nx ms mk mt my mv S m pl n f g q) (t : Int) : early14 f n t ↔ 0 < ms ∧ t < mt := by
  rcases h.relS.mark with ⟨a, b⟩ | ⟨j, a, b, c, d⟩
  · exact ⟨fun ⟨j, hj, _⟩ => by omega, fun h' => by omega⟩
  · constructor
    · rintro ⟨j', hj', ht⟩
      have : j' = j := by omega
      subst this
      exact ⟨c, by omega⟩
    · rintro ⟨_, ht⟩
      exact ⟨j, a, by omega⟩
theorem Side.repl (h : Side nx ms mk mt my mv S m pl n f g q) (fr : Int) : replL fr ms f g n = (withM ms mk mt my mv S).filter (keep fr) := by
  rw [h.held]
  exact repl_same (fun a b hab hb => by have h1 := (h.num a (by omega)).1; have h2 := (h.num b hb).1; omega) (fun i hi => by have := (h.num i hi).1; omega)
    (h.mark.imp id fun ⟨j, a, b, _, d⟩ => ⟨j, a, b, d⟩)
end
end Go.Proofs.Ytbplfgghcclgkaa
