/- One call of a script by both streams, and what they show behind it. No conditions. -/
import Derived.Test.YtbplfgghcclgkaaP14v
open Go Go.VM
namespace Go.Proofs.Ytbplfgghcclgkaa
set_option maxRecDepth 100000
section
variable {β : Type} {PP : β → Prop} {nx ms mk mt my mv : Int} {n m N : Nat} {f pl f8 g q : Nat → V}
theorem allPlay (X0 X1 : Nat → (Nat → V) → (Nat → V) → (Nat → V) → (Nat → V) → R β) (X2 : Bool → Int → Nat → (Nat → V) → R β) (X3 : Int → Nat → Int → Nat → Nat → (Nat → V) → (Nat → V) → (Nat → V) → R β) (X4 : Bool → Int → Int → Int → Int → Int → Int → R β)
    (X5 : Int → Int → Int → Int → Int → Int → Int → Nat → Nat → (Nat → V) → (Nat → V) → R β) (X6 : Int → Nat → Nat → (Nat → V) → (Nat → V) → R β)
    (kind t ky vl o0 o1 o2 o3 o4 : Int) (n9 : Nat) (f9 : Nat → V) (r : Nat) (s hold : Int) (fr fr' : Nat → V)
    (hS : Side nx ms mk mt my mv (lst f n) m pl N f8 g q) (hN : N ≤ 1100000) (ht : inI t) (hky : inI ky) (h2 : inI o2) (h3' : inI o3)
    (h9 : n9 ≤ 1073741824) (hr1 : 1 ≤ r) (hr3 : r ≤ 3) (hs : 1 ≤ s) (hs' : s ≤ 4) (hm : m = r * s.toNat) (hg : ∀ i, i < r → 1 ≤ intV (fr i)) (hf : ∀ i, i < r → intV (fr' i) = intV (fr i))
    (h1 : ∀ n' f' p' g' q', Side nx ms mk mt my mv (lst f' n') m p' N f8 g' q' → n' ≤ n → All PP (X1 n' f' p' g' q'))
    (h3 : ∀ f' f8' g', Side (nx + 1) ms mk mt my mv (lst f' (n + 1)) m pl (N + 1) f8' g' q → All PP (X3 (nx + 1) (n + 1) (nx + 1) (N + 1) (N + 1) f' f8' g'))
    (h4 : All PP (X4 true nx ms mk mt my mv))
    (h5 : ∀ mt' f8' g', Side (nx + 1) nx 2 mt' 0 0 (lst f n) m pl (N + 1) f8' g' q → All PP (X5 (nx + 1) nx 2 mt' 0 0 (nx + 1) (N + 1) (N + 1) f8' g')) :
    All PP (Df43_0 X0 X1 X2 X3 X4 X5 X6 kind t ky vl o0 o1 o2 o3 o4 n9 f9 r s hold nx ms mk mt my mv n m r s hold nx N N m fr f pl fr' f8 g q) := by
  unfold Df43_0
  have hx := hS.next
  have hsm := hS.small
  have same1 : All PP (X1 n f pl g q) := h1 n f pl g q hS (Nat.le_refl _)
  refine aieq (fun h0 => aieq (fun _ => ?_) (fun h => absurd h0 h)) (fun h0 => aieq (fun h1' => ?_) (fun h1' => aieq (fun h2' => ?_) (fun h2' => aieq (fun h3' => ?_) (fun h3' => ?_))))
  case refine_1 =>
    have late : 0 < ms → t < mt → _ := fun a b => allJ6 (PP := PP) (fun _ _ _ _ _ _ _ _ _ _ => X0 n f pl g q) (fun _ _ _ _ _ _ _ _ _ _ => X1 n f pl g q) (fun b i n _ _ _ _ _ _ _ _ _ _ f => X2 b i n f) (fun i n i' n' n'' _ _ _ _ _ _ _ _ _ _ f f' f'' => X3 i n i' n' n'' f f' f'') (fun b i i0 i1 i2 i3 i4 _ _ _ _ _ => X4 b i i0 i1 i2 i3 i4) (fun i i0 i1 i2 i3 i4 i5 n n' _ _ _ _ _ f f' => X5 i i0 i1 i2 i3 i4 i5 n n' f f') true 67 8 hold kind t ky vl 0 0 0 0 0 hS hN (.inl h0) ht hky (.inl ⟨a, b, rfl, rfl, rfl, rfl, rfl, rfl, rfl, rfl⟩) (fun _ _ _ _ _ _ _ _ _ _ => same1) (fun f' f8' g' h _ _ _ _ _ _ _ _ _ _ => h3 f' f8' g' h) (fun f8' g' h _ _ _ _ _ => h5 t f8' g' h)
    have full : ¬ (0 < ms ∧ t < mt) → hold ≤ ofN n → _ := fun a b => allJ6 (PP := PP) (fun _ _ _ _ _ _ _ _ _ _ => X0 n f pl g q) (fun _ _ _ _ _ _ _ _ _ _ => X1 n f pl g q) (fun b i n _ _ _ _ _ _ _ _ _ _ f => X2 b i n f) (fun i n i' n' n'' _ _ _ _ _ _ _ _ _ _ f f' f'' => X3 i n i' n' n'' f f' f'') (fun b i i0 i1 i2 i3 i4 _ _ _ _ _ => X4 b i i0 i1 i2 i3 i4) (fun i i0 i1 i2 i3 i4 i5 n n' _ _ _ _ _ f f' => X5 i i0 i1 i2 i3 i4 i5 n n' f f') true 67 10 hold kind t ky vl 0 0 0 0 0 hS hN (.inl h0) ht hky (.inr (.inl ⟨a, b, rfl, rfl, rfl, rfl, rfl, rfl, rfl, rfl⟩)) (fun _ _ _ _ _ _ _ _ _ _ => same1) (fun f' f8' g' h _ _ _ _ _ _ _ _ _ _ => h3 f' f8' g' h) (fun f8' g' h _ _ _ _ _ => h5 t f8' g' h)
    have put : ¬ (0 < ms ∧ t < mt) → ¬ hold ≤ ofN n → _ := fun a b => allJ6 (PP := PP) (fun _ _ _ _ _ _ _ _ _ _ => X0 n f pl g q) (fun _ _ _ _ _ _ _ _ _ _ => X1 n f pl g q) (fun b i n _ _ _ _ _ _ _ _ _ _ f => X2 b i n f) (fun i n i' n' n'' _ _ _ _ _ _ _ _ _ _ f f' f'' => X3 i n i' n' n'' f f' f'') (fun b i i0 i1 i2 i3 i4 _ _ _ _ _ => X4 b i i0 i1 i2 i3 i4) (fun i i0 i1 i2 i3 i4 i5 n n' _ _ _ _ _ f f' => X5 i i0 i1 i2 i3 i4 i5 n n' f f') false 0 0 hold kind t ky vl nx 1 t ky vl hS hN (.inl h0) ht hky (.inr (.inr ⟨a, b, rfl, rfl, rfl, rfl, rfl, rfl⟩)) (fun _ _ _ _ _ _ _ _ _ _ => same1) (fun f' f8' g' h _ _ _ _ _ _ _ _ _ _ => h3 f' f8' g' h) (fun f8' g' h _ _ _ _ _ => h5 t f8' g' h)
    exact ailt (fun hm => ailt (fun hlt => late hm hlt) (fun hge => aile (fun hf => full (fun h => hge h.2) hf) (fun hf => put (fun h => hge h.2) hf))) (fun hm => aile (fun hf => full (fun h => hm h.1) hf) (fun hf => put (fun h => hm h.1) hf))
  case refine_2 =>
    have late : 0 < ms → t < mt → _ := fun a b => allJ6 (PP := PP) (fun _ _ _ _ _ _ _ _ _ _ => X0 n f pl g q) (fun _ _ _ _ _ _ _ _ _ _ => X1 n f pl g q) (fun b i n _ _ _ _ _ _ _ _ _ _ f => X2 b i n f) (fun i n i' n' n'' _ _ _ _ _ _ _ _ _ _ f f' f'' => X3 i n i' n' n'' f f' f'') (fun b i i0 i1 i2 i3 i4 _ _ _ _ _ => X4 b i i0 i1 i2 i3 i4) (fun i i0 i1 i2 i3 i4 i5 n n' _ _ _ _ _ f f' => X5 i i0 i1 i2 i3 i4 i5 n n' f f') true 67 8 hold kind t ky vl 0 0 0 0 0 hS hN (.inr h1') ht hky (.inl ⟨a, b, rfl, rfl, rfl, rfl, rfl, rfl, rfl, rfl⟩) (fun _ _ _ _ _ _ _ _ _ _ => same1) (fun f' f8' g' h _ _ _ _ _ _ _ _ _ _ => h3 f' f8' g' h) (fun f8' g' h _ _ _ _ _ => h5 t f8' g' h)
    have full : ¬ (0 < ms ∧ t < mt) → hold ≤ ofN n → _ := fun a b => allJ6 (PP := PP) (fun _ _ _ _ _ _ _ _ _ _ => X0 n f pl g q) (fun _ _ _ _ _ _ _ _ _ _ => X1 n f pl g q) (fun b i n _ _ _ _ _ _ _ _ _ _ f => X2 b i n f) (fun i n i' n' n'' _ _ _ _ _ _ _ _ _ _ f f' f'' => X3 i n i' n' n'' f f' f'') (fun b i i0 i1 i2 i3 i4 _ _ _ _ _ => X4 b i i0 i1 i2 i3 i4) (fun i i0 i1 i2 i3 i4 i5 n n' _ _ _ _ _ f f' => X5 i i0 i1 i2 i3 i4 i5 n n' f f') true 67 10 hold kind t ky vl 0 0 0 0 0 hS hN (.inr h1') ht hky (.inr (.inl ⟨a, b, rfl, rfl, rfl, rfl, rfl, rfl, rfl, rfl⟩)) (fun _ _ _ _ _ _ _ _ _ _ => same1) (fun f' f8' g' h _ _ _ _ _ _ _ _ _ _ => h3 f' f8' g' h) (fun f8' g' h _ _ _ _ _ => h5 t f8' g' h)
    have put : ¬ (0 < ms ∧ t < mt) → ¬ hold ≤ ofN n → _ := fun a b => allJ6 (PP := PP) (fun _ _ _ _ _ _ _ _ _ _ => X0 n f pl g q) (fun _ _ _ _ _ _ _ _ _ _ => X1 n f pl g q) (fun b i n _ _ _ _ _ _ _ _ _ _ f => X2 b i n f) (fun i n i' n' n'' _ _ _ _ _ _ _ _ _ _ f f' f'' => X3 i n i' n' n'' f f' f'') (fun b i i0 i1 i2 i3 i4 _ _ _ _ _ => X4 b i i0 i1 i2 i3 i4) (fun i i0 i1 i2 i3 i4 i5 n n' _ _ _ _ _ f f' => X5 i i0 i1 i2 i3 i4 i5 n n' f f') false 0 0 hold kind t ky vl nx 1 t ky vl hS hN (.inr h1') ht hky (.inr (.inr ⟨a, b, rfl, rfl, rfl, rfl, rfl, rfl⟩)) (fun _ _ _ _ _ _ _ _ _ _ => same1) (fun f' f8' g' h _ _ _ _ _ _ _ _ _ _ => h3 f' f8' g' h) (fun f8' g' h _ _ _ _ _ => h5 t f8' g' h)
    exact ailt (fun hm => ailt (fun hlt => late hm hlt) (fun hge => aile (fun hf => full (fun h => hge h.2) hf) (fun hf => put (fun h => hge h.2) hf))) (fun hm => aile (fun hf => full (fun h => hm h.1) hf) (fun hf => put (fun h => hm h.1) hf))
  case refine_4 => exact ailen (fun _ => allCuts _ _ n9 r s f9 fr fr' hS hN h9 hr1 hr3 hs hs' hm hg hf h1) (fun h => afail (h (by simp only [addN]; omega)))
  case refine_5 => exact allReplays (X0 n f pl g q) (fun b => X4 b nx ms mk mt my mv) t ky hS hN h4
  case refine_3 =>
    have early := hS.early o2
    have hxr : -9223372036854775808 ≤ nx ∧ nx ≤ 9223372036854775806 := by omega
    refine ainot (aieq (fun hs0 => ?_) (fun hs0 => ?_))
    · subst hs0
      refine aieq (fun hk => ?_) (fun hk => ?_)
      · subst hk
        have put : ¬ (0 < ms ∧ o2 < mt) → All PP (iteR (leN (addN n 1) 1073741824) (Df84_0 (fun i => X2 (eqI 0 i) (wrapI .i64 (addI o0 1)) (addN n 1) (joinF f (litF (.nd 38 [.int .i64 0, .int .i64 0, .int .i64 0, .int .i64 0, .int .i64 0]) [.nd 38 [.int .i64 o0, .int .i64 1, .int .i64 o2, .int .i64 o3, .int .i64 o4]]) n)) (fun i n' n'' f' f'' => X3 (wrapI .i64 (addI o0 1)) (addN n 1) i n' n'' (joinF f (litF (.nd 38 [.int .i64 0, .int .i64 0, .int .i64 0, .int .i64 0, .int .i64 0]) [.nd 38 [.int .i64 o0, .int .i64 1, .int .i64 o2, .int .i64 o3, .int .i64 o4]]) n) f' f'') o0 1 o2 o3 o4 o0 N N f8 g) (.fail)) := fun hne => by
          rw [hS.nxt (by omega)]
          refine ailen (fun _ => allPut14 _ _ o0 1 o2 o3 o4 o0 N f8 g hN hxr (fun h => ?_) (fun _ _ h => absurd (early.1 h) hne) (fun _ h _ => absurd h (by decide)) (fun _ _ _ => h3 _ _ _ (hS.put hne h2 h3'))) (fun h => afail (h (by simp only [addN]; omega)))
          rcases h with h | h | h
          · exact absurd rfl h
          · exact absurd rfl h.1
          · exact absurd h.1 (by decide)
        refine ailt (fun hm => ailt (fun hlt => ?_) (fun hge => put fun h => hge h.2)) (fun hm => put fun h => hm h.1)
        exact allPut14 _ _ o0 1 o2 o3 o4 o0 N f8 g hN hxr (fun h => by
          rcases h with h | h | h
          · exact absurd rfl h
          · exact absurd rfl h.1
          · exact absurd h.1 (by decide)) (fun _ _ _ => h4) (fun _ h _ => absurd h (by decide)) (fun _ _ h => absurd (early.2 ⟨hm, hlt⟩) h)
      · refine aieq (fun hk2 => ?_) (fun hk2 => ?_)
        · subst hk2
          have put : ¬ (0 < ms ∧ o2 < mt) → All PP (iteR (notB (eqI o3 0)) (Df84_0 (fun i => X4 (eqI (iteI true 2 0) i) o0 ms mk mt my mv) (fun i n' n'' f' f'' => X6 i n' n'' f' f'') o0 2 o2 o3 o4 o0 N N f8 g) (iteR (notB (eqI o4 0)) (Df84_0 (fun i => X4 (eqI (iteI true 2 0) i) o0 ms mk mt my mv) (fun i n' n'' f' f'' => X6 i n' n'' f' f'') o0 2 o2 o3 o4 o0 N N f8 g) (Df84_0 (fun i => X4 (eqI 0 i) (wrapI .i64 (addI o0 1)) o0 2 o2 o3 o4) (fun i n' n'' f' f'' => X5 (wrapI .i64 (addI o0 1)) o0 2 o2 o3 o4 i n' n'' f' f'') o0 2 o2 o3 o4 o0 N N f8 g))) := fun hne => by
            rw [hS.nxt (by omega)]
            have hne' : ¬ early14 f8 N o2 := fun h => hne (early.1 h)
            have bad : (o3 ≠ 0 ∨ o4 ≠ 0) → All PP (Df84_0 (fun i => X4 (eqI (iteI true 2 0) i) o0 ms mk mt my mv) (fun i n' n'' f' f'' => X6 i n' n'' f' f'') o0 2 o2 o3 o4 o0 N N f8 g) := fun hb =>
              allPut14 _ _ o0 2 o2 o3 o4 o0 N f8 g hN hxr (fun _ => h4) (fun _ h _ => absurd h (by decide)) (fun _ _ h => absurd h hne') (fun _ h _ => by
                rcases h with h | h
                · exact absurd h (by decide)
                · rcases hb with hb | hb
                  · exact absurd h.2.1 hb
                  · exact absurd h.2.2 hb)
            refine ainot (aieq (fun e3 => ainot (aieq (fun e4 => ?_) (fun e4 => bad (.inr e4)))) (fun e3 => bad (.inl e3)))
            subst e3
            subst e4
            refine allPut14 _ _ o0 2 o2 0 0 o0 N f8 g hN hxr (fun h => ?_) (fun _ h _ => absurd h (by decide)) (fun _ _ h => absurd h hne') (fun _ _ _ => h5 _ _ _ (hS.marked h2))
            rcases h with h | h | h
            · exact absurd rfl h
            · exact absurd rfl h.2
            · exact h.2.2.elim (fun h => absurd rfl h) (fun h => absurd rfl h)
          refine ailt (fun hm => ailt (fun hlt => ?_) (fun hge => put fun h => hge h.2)) (fun hm => put fun h => hm h.1)
          exact allPut14 _ _ o0 2 o2 o3 o4 o0 N f8 g hN hxr (fun h => by
            rcases h with h | h | h
            · exact absurd rfl h
            · exact absurd rfl h.2
            · exact absurd (early.2 ⟨hm, hlt⟩) h.2.1) (fun _ h _ => absurd h (by decide)) (fun _ _ _ => h4) (fun _ _ h => absurd (early.2 ⟨hm, hlt⟩) h)
        · exact allPut14 _ _ o0 o1 o2 o3 o4 o0 N f8 g hN hxr (fun _ => h4) (fun _ h _ => absurd h hk) (fun _ h _ => absurd h hk2) (fun _ h _ => h.elim (fun h => absurd h hk) (fun h => absurd h.1 hk2))
    · exact allPut14 _ _ o0 o1 o2 o3 o4 nx N f8 g hN hxr (fun _ => h4) (fun h => absurd h hs0) (fun h => absurd h hs0) (fun h => absurd h hs0)
end
end Go.Proofs.Ytbplfgghcclgkaa
