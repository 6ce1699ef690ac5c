/- StreamRestores, the whole law. No conditions. -/
import Derived.Test.YtbplfgghcclgkaaP14C
import Derived.Test.YtbplfgghcclgkaaP14y
open Go Go.VM
namespace Go.Proofs.Ytbplfgghcclgkaa
set_option maxRecDepth 100000
section
variable {β : Type} {PP : β → Prop}
theorem Side.rest {nx ms mk mt my mv : Int} {n m N : Nat} {f pl f8 g q : Nat → V} (hS : Side nx ms mk mt my mv (lst f n) m pl N f8 g q) {nb : Bool} (hb : nb = false → 0 < ms) : ∀ i, i < n → okSmp nx ms mt nb f i := fun i hi => by
  have hmem : etaOp (f i) ∈ lst f n := lst_mem.2 ⟨i, hi, rfl⟩
  obtain ⟨o1, o2, o3⟩ := hS.inv.ops _ hmem
  refine ⟨o3, o1, o2, fun hp => rising_at hS.inv.rise (show i - 1 < i by omega) hi, fun h => ⟨?_, fun hl => ?_⟩⟩
  · rcases hS.inv.mark with h' | ⟨_, _, _, h'⟩
    · have := hb h; omega
    · have := h' _ hmem; exact this
  · have := hS.late _ hmem (hb h) hl; exact this
theorem joinF_zero (a f : Nat → V) : joinF a f 0 = f := funext fun j => by rw [joinF_ge a f (Nat.zero_le j), Nat.sub_zero]
theorem restP (X0 X1 : R β) (n0 : Nat) (f1 : Nat → V) (i2 i3 : Int) (n4 : Nat) (f5 : Nat → V) (nx ms mk mt my mv : Int) (n12 : Nat) (f13 : Nat → V) (n14 : Nat) (f15 : Nat → V) (n16 : Nat) (f17 : Nat → V) (hn4 : n4 ≤ 1048576) (hc : okCalls n4 f5) (hc' : okCalls n16 f17) (h0 : All PP X0) :
    All PP (Df14_0 X0 X1 n0 f1 i2 i3 n4 f5 nx ms mk mt my mv n12 f13 n14 f15 n16 f17) := by
  unfold Df14_0
  refine allLong _ n0 n4 f5 (by omega) (fun b => all_iteR (fun _ => h0) (fun _ => ?_))
  refine ailt (fun _ => h0) (fun h12 => ailt (fun _ => h0) (fun h14 => ailt (fun _ => h0) (fun h16 => ?_)))
  have h12 : n12 ≤ 200 := by simp only [ofN] at h12; omega
  have h14 : n14 ≤ 100 := by simp only [ofN] at h14; omega
  have h16 : n16 ≤ 100 := by simp only [ofN] at h16; omega
  refine allNew _ _ n0 f1 i2 i3 (fun hb => allNew14 _ _ n0 f1 i2 i3 (fun _ => h0) (fun hg => absurd hg hb)) (fun hgood f27 n28 f29 hp => ?_)
  refine allNew14 _ _ n0 f1 i2 i3 (fun hb => absurd hgood hb) (fun _ n32 f33 n35 f36 hr hq => ?_)
  obtain ⟨g1, g2, g3, g4, g5, g6, g7⟩ := hgood
  have hmul : n0 * i2.toNat ≤ 12 := Nat.mul_le_mul g2 (show i2.toNat ≤ 4 by omega)
  have e12 : addN 0 n12 = n12 := by simp [addN]
  have e14 : addN 0 n14 = n14 := by simp [addN]
  rw [e12, e14, joinF_zero, joinF_zero]
  have hS0 : Side 1 0 0 0 0 0 (lst f27 0) (n0 * i2.toNat) f29 0 (constF .junk) (constF .junk) f36 :=
    ⟨rfl, fun i hi => absurd hi (by omega), rfl, .inl ⟨rfl, rfl⟩, ⟨List.Pairwise.nil, fun v hv => (by cases hv), fun v hv => (by cases hv), .inl rfl⟩, fun j hj => by rw [hp j hj, hq j hj], fun v hv => (by cases hv), fun h => absurd h (by decide)⟩
  refine all_bothR (all_bothR ?_ ?_) ?_
  all_goals
    refine ailen (fun _ => ailen (fun _ => ?_) (fun h => absurd (by omega) h)) (fun h => absurd (by omega) h)
    refine all46 _ _ nx ms mk mt my mv n12 f13 n14 n0 (n0 * i2.toNat) i2 (by omega) g2 g4 g5 rfl (by omega) (fun hb => all47 _ _ nx ms mk mt my mv n12 f13 n14 f15 (n0 * i2.toNat) (by omega) (by omega) (fun _ => ?_) (fun ok => absurd ok hb)) (fun ok => all47 _ _ nx ms mk mt my mv n12 f13 n14 f15 (n0 * i2.toNat) (by omega) (by omega) (fun hb => absurd ok hb) (fun _ N h hN hR => ?_))
  all_goals
    first
    | refine allSame _ _ nx ms mt n12 n14 N f13 f15 h (constF (.bool false)) _ (by omega) (by omega) (by omega) hR (fun j _ => by rw [joinF_zero]) ?_
    | skip
  all_goals
    refine allOps _ _ n12 n12 f13 f13 (by omega) rfl (allPlaces _ _ n14 f15 f15 (by omega) (fun _ _ => rfl) ?_)
    refine lfA _ _ _ _ n4 f5 n0 i2 i3 f1 f33 hn4 hc g1 g2 g4 g5 rfl g3 (fun i hi => by rw [hr i hi]; rfl) (fun nx ms mk mt my mv n a c d N f pl f8 g q hS hN => ?_) NNo 0 1 0 0 0 0 0 0 0 0 0 0 f27 f29 (constF .junk) (constF .junk) f36 (Nat.zero_le _) (by rw [NNo_eq]; unfold NN; omega) hS0 (Nat.le_refl _)
    have hsm := hS.small
    have hnx := hS.next
    refine aieq (fun hz => ?_) (fun hz => ?_)
    · subst hz
      refine ailen (fun _ => ailen (fun _ => ?_) (fun h => absurd (by omega) h)) (fun h => absurd (by omega) h)
      have hS' : Side nx 0 0 0 0 0 (lst f n) (n0 * i2.toNat) pl N f8 g q := ⟨hS.next, hS.num, hS.held, by
        rcases hS.mark with h | ⟨_, _, h, _⟩
        · exact .inl h
        · exact absurd h (by decide), ⟨hS.inv.rise, hS.inv.ops, hS.inv.eta, .inl rfl⟩, hS.place, fun v hv h => absurd h (by decide), fun h => absurd h (by decide)⟩
      refine all46 _ _ nx 0 0 0 0 0 n f (n0 * i2.toNat) n0 (n0 * i2.toNat) i2 (by omega) g2 g4 g5 rfl (by omega) (fun hb => absurd ⟨by omega, rfl, fun h => (by cases h), hS'.rest fun h => (by cases h)⟩ hb) (fun _ => ?_)
      exact lfB _ _ _ _ X0 n16 f17 n0 i2 i3 f1 f33 h16 hc' g1 g2 g4 g5 rfl g3 (fun i hi => by rw [hr i hi]; rfl) h0 NNo 0 nx 0 0 0 0 0 n c d n N f pl f8 g q (Nat.zero_le _) (by rw [NNo_eq]; unfold NN; omega) hS' (by omega)
    · refine ailen (fun _ => ailen (fun _ => ?_) (fun h => absurd (by omega) h)) (fun h => absurd (by omega) h)
      have hpos : 0 < ms ∧ ms < nx ∧ mk = 2 := by
        rcases hS.inv.mark with h | h
        · exact absurd h hz
        · exact ⟨h.1, h.2.1, h.2.2.1⟩
      obtain ⟨p1, p2, rfl⟩ := hpos
      obtain ⟨rfl, rfl⟩ := hS.zero p1
      refine all46 _ _ nx ms 2 mt 0 0 n f (n0 * i2.toNat) n0 (n0 * i2.toNat) i2 (by omega) g2 g4 g5 rfl (by omega) (fun hb => absurd ⟨by omega, rfl, fun _ => ⟨rfl, by omega, p2, rfl, rfl⟩, hS.rest fun _ => p1⟩ hb) (fun _ => ?_)
      exact lfB _ _ _ _ X0 n16 f17 n0 i2 i3 f1 f33 h16 hc' g1 g2 g4 g5 rfl g3 (fun i hi => by rw [hr i hi]; rfl) h0 NNo 0 nx ms 2 mt 0 0 n c d n N f pl f8 g q (Nat.zero_le _) (by rw [NNo_eq]; unfold NN; omega) hS (by omega)
end
end Go.Proofs.Ytbplfgghcclgkaa
