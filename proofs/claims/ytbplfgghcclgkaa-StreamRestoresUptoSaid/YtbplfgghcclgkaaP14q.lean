/- One call by both streams: a sample, a mark. No conditions. -/
import Derived.Test.YtbplfgghcclgkaaP14p
open Go Go.VM
namespace Go.Proofs.Ytbplfgghcclgkaa
set_option maxRecDepth 100000
section
variable {β : Type} {PP : β → Prop} {nx ms mk mt my mv : Int} {n m N : Nat} {f pl f8 g q : Nat → V}
theorem Side.small (h : Side nx ms mk mt my mv (lst f n) m pl N f8 g q) : n ≤ N := by
  have := congrArg List.length h.held
  rw [lst_len] at this
  rw [this]
  exact heldL_len f8 g N
theorem Side.put (h : Side nx ms mk mt my mv (lst f n) m pl N f8 g q) {t ky vl : Int} (hl : ¬ (0 < ms ∧ t < mt)) (ht : inI t) (hk : inI ky) {z z' z'' : V} :
    Side (nx + 1) ms mk mt my mv (lst (joinF f (litF z'' [.nd 38 [.int .i64 nx, .int .i64 1, .int .i64 t, .int .i64 ky, .int .i64 vl]]) n) (n + 1)) m pl (N + 1) (joinF f8 (litF z [.nd 38 [.int .i64 nx, .int .i64 1, .int .i64 t, .int .i64 ky, .int .i64 vl]]) N) (joinF g (litF z' [.bool false]) N) q := by
  rw [lst_join]
  exact h.sample hl ht hk
theorem Side.nxt (h : Side nx ms mk mt my mv (lst f n) m pl N f8 g q) (hN : N ≤ 2000000) : wrapI .i64 (addI nx 1) = nx + 1 := by
  have := h.next
  exact wrap_add (by omega) (by omega)
theorem allJ12 (X0 X1 : R β) (X2 : Bool → Int → Nat → (Nat → V) → R β) (X3 : Int → Nat → Int → Nat → Nat → (Nat → V) → (Nat → V) → (Nat → V) → R β) (X4 : Bool → Int → R β) (X5 : Int → Int → Nat → Nat → (Nat → V) → (Nat → V) → R β)
    (e a0 a1 a2 a3 a4 : Int) (hS : Side nx ms mk mt my mv (lst f n) m pl N f8 g q) (hN : N ≤ 1100000) (h0 : e ≠ 0 → All PP X0)
    (hp : e = 0 → a0 = nx ∧ (a1 = 1 ∨ (a1 = 2 ∧ a3 = 0 ∧ a4 = 0)) ∧ ¬ (0 < ms ∧ a2 < mt) ∧ inI a2 ∧ inI a3)
    (h3 : ∀ f' f8' g', Side (nx + 1) ms mk mt my mv (lst f' (n + 1)) m pl (N + 1) f8' g' q → All PP (X3 (nx + 1) (n + 1) (nx + 1) (N + 1) (N + 1) f' f8' g'))
    (h5 : a1 = 2 → ∀ f8' g', Side (nx + 1) nx 2 a2 0 0 (lst f n) m pl (N + 1) f8' g' q → All PP (X5 (nx + 1) (nx + 1) (N + 1) (N + 1) f8' g')) :
    All PP (Jf43_12_0 X0 X1 X2 X3 X4 X5 e nx ms mt n nx N N f f8 g a0 a1 a2 a3 a4 a0 a1 a2 a3 a4) := by
  unfold Jf43_12_0
  refine ainot (aieq (fun he => ?_) (fun he => h0 he))
  obtain ⟨rfl, hk, hne, r2, r3⟩ := hp he
  have hsm := hS.small
  have hx := hS.next
  have hw := hS.nxt (by omega)
  have hne' : ¬ early14 f8 N a2 := fun h => hne ((hS.early a2).1 h)
  refine ainot (aieq (fun _ => ?_) (fun h => absurd rfl h))
  rw [hw]
  refine aieq (fun h1 => ?_) (fun h1 => ?_)
  · subst h1
    have put : All PP (iteR (leN (addN n 1) 1073741824) (Df84_0 (fun i49 => X2 (eqI i49 0) (a0 + 1) (addN n 1) (joinF f (litF (.nd 38 [.int .i64 0, .int .i64 0, .int .i64 0, .int .i64 0, .int .i64 0]) [.nd 38 [.int .i64 a0, .int .i64 1, .int .i64 a2, .int .i64 a3, .int .i64 a4]]) n)) (fun i50 n51 n52 f53 f54 => X3 (a0 + 1) (addN n 1) i50 n51 n52 (joinF f (litF (.nd 38 [.int .i64 0, .int .i64 0, .int .i64 0, .int .i64 0, .int .i64 0]) [.nd 38 [.int .i64 a0, .int .i64 1, .int .i64 a2, .int .i64 a3, .int .i64 a4]]) n) f53 f54) a0 1 a2 a3 a4 a0 N N f8 g) (.fail)) := by
      refine ailen (fun _ => ?_) (fun h => afail (by simp only [addN] at h; omega))
      refine allPut14 _ _ a0 1 a2 a3 a4 a0 N f8 g hN (by omega) (fun h => ?_) (fun _ _ h => absurd h hne') (fun _ h _ => absurd h (by decide)) (fun _ _ _ => h3 _ _ _ (hS.put hne r2 r3))
      rcases h with h | h | h
      · exact absurd rfl h
      · exact absurd rfl h.1
      · exact absurd h.1 (by decide)
    exact ailt (fun hm => ailt (fun ht => absurd ⟨hm, ht⟩ hne) (fun _ => put)) (fun _ => put)
  · obtain ⟨rfl, rfl, rfl⟩ : a1 = 2 ∧ a3 = 0 ∧ a4 = 0 := by
      rcases hk with h | h
      · exact absurd h h1
      · exact h
    have put : All PP (iteR (notB (eqI (0 : Int) 0)) X1 (iteR (notB (eqI (0 : Int) 0)) X1 (Df84_0 (fun i61 => X4 (eqI i61 0) (a0 + 1)) (fun i62 n63 n64 f65 f66 => X5 (a0 + 1) i62 n63 n64 f65 f66) a0 2 a2 0 0 a0 N N f8 g))) := by
      refine ainot (aieq (fun _ => ainot (aieq (fun _ => ?_) (fun h => absurd rfl h))) (fun h => absurd rfl h))
      refine allPut14 _ _ a0 2 a2 0 0 a0 N f8 g hN (by omega) (fun h => ?_) (fun _ h _ => absurd h (by decide)) (fun _ _ h => absurd h hne') (fun _ _ _ => h5 rfl _ _ (hS.marked r2))
      rcases h with h | h | h
      · exact absurd rfl h
      · exact absurd rfl h.2
      · exact h.2.2.elim (fun h => absurd rfl h) (fun h => absurd rfl h)
    exact aieq (fun _ => ailt (fun hm => ailt (fun ht => absurd ⟨hm, ht⟩ hne) (fun _ => put)) (fun _ => put)) (fun h => absurd rfl h)
theorem allJ10 (X0 X1 : R β) (X2 : Bool → Int → Nat → (Nat → V) → R β) (X3 : Int → Nat → Int → Nat → Nat → (Nat → V) → (Nat → V) → (Nat → V) → R β) (X4 : Bool → Int → R β) (X5 : Int → Int → Nat → Nat → (Nat → V) → (Nat → V) → R β)
    (b : Bool) (k : Nat) (e i a0 a1 a2 a3 a4 : Int) (hS : Side nx ms mk mt my mv (lst f n) m pl N f8 g q) (hN : N ≤ 1100000) (hb : (b = true ∧ k = 67 ∧ e ≠ 0 ∧ i = e) ∨ (b = false ∧ i = 0)) (h1 : All PP X1)
    (hp : i = 0 → a0 = nx ∧ (a1 = 1 ∨ (a1 = 2 ∧ a3 = 0 ∧ a4 = 0)) ∧ ¬ (0 < ms ∧ a2 < mt) ∧ inI a2 ∧ inI a3)
    (h3 : ∀ f' f8' g', Side (nx + 1) ms mk mt my mv (lst f' (n + 1)) m pl (N + 1) f8' g' q → All PP (X3 (nx + 1) (n + 1) (nx + 1) (N + 1) (N + 1) f' f8' g'))
    (h5 : a1 = 2 → ∀ f8' g', Side (nx + 1) nx 2 a2 0 0 (lst f n) m pl (N + 1) f8' g' q → All PP (X5 (nx + 1) (nx + 1) (N + 1) (N + 1) f8' g')) :
    All PP (Jf43_10_0 X0 X1 X2 X3 X4 X5 b k e i nx ms mt n nx N N f f8 g a0 a1 a2 a3 a4 a0 a1 a2 a3 a4) := by
  unfold Jf43_10_0
  refine ainot (aiand (aieq (fun _ => aiand (aieq (fun _ => aiand (aieq (fun _ => aiand (aieq (fun _ => aieq (fun _ => ?_) (fun h => absurd rfl h)) (fun h => absurd rfl h))) (fun h => absurd rfl h))) (fun h => absurd rfl h))) (fun h => absurd rfl h)))
  rcases hb with ⟨rfl, rfl, he, rfl⟩ | ⟨rfl, rfl⟩
  · refine aifalse (aitrue (aifalse (aieq (fun h => absurd h he) (fun _ => ainot (aieq (fun _ => ?_) (fun h => absurd rfl h))))))
    exact allJ12 _ _ _ _ _ _ i a0 a1 a2 a3 a4 hS hN (fun _ => h1) hp h3 h5
  · refine aitrue (ainot (aieq (fun _ => ?_) (fun h => absurd rfl h)))
    exact allJ12 _ _ _ _ _ _ 0 a0 a1 a2 a3 a4 hS hN (fun _ => h1) hp h3 h5
theorem allJ6 (X0 X1 : Int → Int → Int → Int → Int → Int → Int → Int → Int → Int → R β) (X2 : Bool → Int → Nat → Int → Int → Int → Int → Int → Int → Int → Int → Int → Int → (Nat → V) → R β) (X3 : Int → Nat → Int → Nat → Nat → Int → Int → Int → Int → Int → Int → Int → Int → Int → Int → (Nat → V) → (Nat → V) → (Nat → V) → R β) (X4 : Bool → Int → Int → Int → Int → Int → Int → Int → Int → Int → Int → Int → R β) (X5 : Int → Int → Int → Int → Int → Int → Int → Nat → Nat → Int → Int → Int → Int → Int → (Nat → V) → (Nat → V) → R β)
    (b : Bool) (k : Nat) (e hold kind t ky vl a0 a1 a2 a3 a4 : Int) (hS : Side nx ms mk mt my mv (lst f n) m pl N f8 g q) (hN : N ≤ 1100000) (hk : kind = 0 ∨ kind = 1) (ht : inI t) (hky : inI ky)
    (ha : (0 < ms ∧ t < mt ∧ b = true ∧ k = 67 ∧ e = 8 ∧ a0 = 0 ∧ a1 = 0 ∧ a2 = 0 ∧ a3 = 0 ∧ a4 = 0) ∨ (¬ (0 < ms ∧ t < mt) ∧ hold ≤ ofN n ∧ b = true ∧ k = 67 ∧ e = 10 ∧ a0 = 0 ∧ a1 = 0 ∧ a2 = 0 ∧ a3 = 0 ∧ a4 = 0) ∨ (¬ (0 < ms ∧ t < mt) ∧ ¬ hold ≤ ofN n ∧ b = false ∧ a0 = nx ∧ a1 = 1 ∧ a2 = t ∧ a3 = ky ∧ a4 = vl))
    (h1 : ∀ c0 c1 c2 c3 c4 c5 c6 c7 c8 c9, All PP (X1 c0 c1 c2 c3 c4 c5 c6 c7 c8 c9))
    (h3 : ∀ f' f8' g', Side (nx + 1) ms mk mt my mv (lst f' (n + 1)) m pl (N + 1) f8' g' q → ∀ c0 c1 c2 c3 c4 c5 c6 c7 c8 c9, All PP (X3 (nx + 1) (n + 1) (nx + 1) (N + 1) (N + 1) c0 c1 c2 c3 c4 c5 c6 c7 c8 c9 f' f8' g'))
    (h5 : ∀ f8' g', Side (nx + 1) nx 2 t 0 0 (lst f n) m pl (N + 1) f8' g' q → ∀ c0 c1 c2 c3 c4, All PP (X5 (nx + 1) nx 2 t 0 0 (nx + 1) (N + 1) (N + 1) c0 c1 c2 c3 c4 f8' g')) :
    All PP (Jf43_6_0 X0 X1 X2 X3 X4 X5 b k e nx ms mt n hold nx N N f f8 g kind t ky vl a0 a1 a2 a3 a4) := by
  unfold Jf43_6_0
  have hlen : ((heldL f8 g N).length : Int) = ofN n := by rw [← hS.held, lst_len]; rfl
  have seven : ∀ (i : Int), (b = true ∧ k = 67 ∧ e ≠ 0 ∧ i = e) ∨ (b = false ∧ i = 0) → (i = 0 → a0 = nx ∧ a1 = 1 ∧ ¬ (0 < ms ∧ a2 < mt) ∧ inI a2 ∧ inI a3) →
      All PP (Jf43_7_0 X0 X1 X2 X3 X4 X5 b k e i nx ms mt n nx N N f f8 g kind t a0 a1 a2 a3 a4 a0 a1 a2 a3 a4) := by
    intro i hb hi
    unfold Jf43_7_0
    refine aieq (fun h => ?_) (fun h => ?_)
    · have mark : ¬ (0 < ms ∧ t < mt) → All PP (Df83_0 (fun i105 i106 i107 i108 => Jf43_10_0 (X0 nx 2 t 0 0 i105 i106 i107 0 0) (X1 nx 2 t 0 0 i105 i106 i107 0 0) (fun b109 i110 n111 f112 => X2 b109 i110 n111 nx 2 t 0 0 i105 i106 i107 0 0 f112) (fun i113 n114 i115 n116 n117 f118 f119 f120 => X3 i113 n114 i115 n116 n117 nx 2 t 0 0 i105 i106 i107 0 0 f118 f119 f120) (fun b121 i122 => X4 b121 i122 nx 2 t 0 0 i105 i106 i107 0 0) (fun i123 i124 n125 n126 f127 f128 => X5 i123 nx 2 t 0 0 i124 n125 n126 i105 i106 i107 0 0 f127 f128) false 0 0 i108 nx ms mt n nx N N f f8 g nx 2 t 0 0 i105 i106 i107 0 0) t nx N f8) := fun hne =>
        allMark14 _ t nx N f8 hN (fun h => absurd ((hS.early t).1 h) hne) (fun _ =>
          allJ10 _ _ _ _ _ _ false 0 0 0 nx 2 t 0 0 hS hN (.inr ⟨rfl, rfl⟩) (h1 _ _ _ _ _ _ _ _ _ _) (fun _ => ⟨rfl, .inr ⟨rfl, rfl, rfl⟩, hne, ht, show inI 0 from ⟨by decide, by decide⟩⟩) (fun f' f8' g' h' => h3 f' f8' g' h' _ _ _ _ _ _ _ _ _ _) (fun _ f8' g' h' => h5 f8' g' h' _ _ _ _ _))
      refine ailt (fun hm => ailt (fun hlt => ?_) (fun hge => mark fun h => hge h.2)) (fun hm => mark fun h => hm h.1)
      exact allMark14 _ t nx N f8 hN (fun _ => allJ10 _ _ _ _ _ _ true 67 9 9 0 0 0 0 0 hS hN (.inl ⟨rfl, rfl, by decide, rfl⟩) (h1 _ _ _ _ _ _ _ _ _ _) (fun h' => absurd h' (by decide)) (fun f' f8' g' h' => h3 f' f8' g' h' _ _ _ _ _ _ _ _ _ _) (fun h' => absurd h' (by decide))) (fun h => absurd ((hS.early t).2 ⟨hm, hlt⟩) h)
    · refine allJ10 _ _ _ _ _ _ b k e i a0 a1 a2 a3 a4 hS hN hb (h1 _ _ _ _ _ _ _ _ _ _) (fun h' => ?_) (fun f' f8' g' h' => h3 f' f8' g' h' _ _ _ _ _ _ _ _ _ _) (fun h' => ?_)
      · obtain ⟨c1, c2, c3, c4, c5⟩ := hi h'
        exact ⟨c1, .inl c2, c3, c4, c5⟩
      · exact absurd h' (by rcases ha with h | h | h <;> omega)
  refine allSample14 _ t ky vl hold nx N f8 g hN (fun he => ?_) (fun he hf => ?_) (fun he hf => ?_)
  · have he := (hS.early t).1 he
    rcases ha with ⟨_, _, rfl, rfl, rfl, rfl, rfl, rfl, rfl, rfl⟩ | ⟨h, _⟩ | ⟨h, _⟩
    · exact seven 8 (.inl ⟨rfl, rfl, by decide, rfl⟩) (fun h => absurd h (by decide))
    · exact absurd he h
    · exact absurd he h
  · have he : ¬ (0 < ms ∧ t < mt) := fun h => he ((hS.early t).2 h)
    rw [hlen] at hf
    rcases ha with ⟨h, h', _⟩ | ⟨_, _, rfl, rfl, rfl, rfl, rfl, rfl, rfl, rfl⟩ | ⟨_, h, _⟩
    · exact absurd ⟨h, h'⟩ he
    · exact seven 10 (.inl ⟨rfl, rfl, by decide, rfl⟩) (fun h => absurd h (by decide))
    · exact absurd hf h
  · have he : ¬ (0 < ms ∧ t < mt) := fun h => he ((hS.early t).2 h)
    rw [hlen] at hf
    rcases ha with ⟨h, h', _⟩ | ⟨_, h, _⟩ | ⟨_, _, rfl, rfl, rfl, rfl, rfl, rfl⟩
    · exact absurd ⟨h, h'⟩ he
    · exact absurd h hf
    · exact seven 0 (.inr ⟨rfl, rfl⟩) (fun _ => ⟨rfl, rfl, he, ht, hky⟩)
end
end Go.Proofs.Ytbplfgghcclgkaa
