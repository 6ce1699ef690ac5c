/- A replay by both streams: they answer the same. No conditions. -/
import Derived.Test.YtbplfgghcclgkaaP14q
open Go Go.VM
namespace Go.Proofs.Ytbplfgghcclgkaa
set_option maxRecDepth 100000
section
variable {β : Type} {PP : β → Prop}
def replS (L : List V) (fr most nx : Int) (l : List V) (last : Int) : Prop :=
  ((L.length = 0 ∨ (L.length : Int) ≤ most) ∧ l = L ∧ last = nx - 1) ∨
  (0 < L.length ∧ most < 1 ∧ l = [] ∧ last = if wrapI .i64 (subI fr 1) < nx - 1 then wrapI .i64 (subI fr 1) else nx - 1) ∨
  ∃ p : Nat, most = p ∧ 1 ≤ p ∧ p < L.length ∧ l = L.take p ∧ ∃ v, L[p - 1]? = some v ∧ last = sq v
theorem replS_one {L : List V} {fr most nx : Int} {l l' : List V} {a a' : Int} (h : replS L fr most nx l a) (h' : replS L fr most nx l' a') : l = l' ∧ a = a' := by
  rcases h with ⟨c, rfl, rfl⟩ | ⟨c1, c2, rfl, rfl⟩ | ⟨p, rfl, c1, c2, rfl, v, hv, rfl⟩ <;> rcases h' with ⟨d, rfl, rfl⟩ | ⟨d1, d2, rfl, rfl⟩ | ⟨p', e, d1, d2, rfl, v', hv', rfl⟩
  · exact ⟨rfl, rfl⟩
  · omega
  · omega
  · omega
  · exact ⟨rfl, rfl⟩
  · omega
  · omega
  · omega
  · obtain rfl : p = p' := by omega
    rw [hv] at hv'
    cases hv'
    exact ⟨rfl, rfl⟩
theorem allReplayS (X0 : Nat → Int → Nat → (Nat → V) → R β) (fr most nx ms mk mt my mv : Int) (n : Nat) (f : Nat → V) (hn : n ≤ 1100000) (hr : rising (lst f n)) (hb : ∀ i, i < n → 0 ≤ sq (f i)) (hms : 0 ≤ ms) (hms2 : ms ≤ 9223372036854775807) (hb2 : ∀ i, i < n → sq (f i) ≤ 9223372036854775807)
    (hx1 : 1 ≤ nx) (hx2 : nx ≤ 9223372036854775807) (h : ∀ q last N g, q ≤ n + 1 → replS ((withM ms mk mt my mv (lst f n)).filter (keep fr)) fr most nx (lst g q) last → All PP (X0 q last N g)) :
    All PP (Df40_0 X0 fr most nx ms mk mt my mv n f) := by
  unfold Df40_0
  refine allAll _ ms mk mt my mv n f hn hr hb hms hms2 hb2 (fun q g hq hA => ?_)
  refine allDel1 _ q fr g (by omega) (fun p g' hp hL => ?_)
  rw [hA] at hL
  have e1 : wrapI .i64 (subI nx 1) = nx - 1 := wrap_sub (by omega) (by omega)
  rw [e1]
  have hlen : ((withM ms mk mt my mv (lst f n)).filter (keep fr)).length = p := by rw [← hL, lst_len]
  have hmx : (most < 0 ∧ maxI most 0 = 0) ∨ (0 ≤ most ∧ maxI most 0 = most) := by unfold maxI; omega
  refine aile (fun hle => ?_) (fun hle => ?_)
  · refine h p _ _ _ (by omega) (.inl ⟨?_, hL, rfl⟩)
    rw [hlen]
    simp only [ofN] at hle
    omega
  · have hlt : maxI most 0 < (p : Int) := by simp only [ofN] at hle; omega
    refine aieq (fun h0 => ?_) (fun h0 => ?_)
    · refine h 0 _ _ _ (by omega) (.inr (.inl ⟨by rw [hlen]; omega, by omega, rfl, ?_⟩))
      unfold minI
      split <;> split <;> omega
    · obtain ⟨t, rfl⟩ : ∃ t : Nat, most = t := ⟨most.toNat, by omega⟩
      have emax : maxI (t : Int) 0 = ofN t := by
        rcases hmx with h' | h'
        · omega
        · exact h'.2
      rw [emax] at hlt h0 ⊢
      simp only [ofN] at hlt h0
      refine aiand (aiand (aile (fun _ => aile (fun _ => aile (fun _ => ?_) (fun h' => absurd (by simp only [ofN]; omega) h')) (fun h' => absurd (Int.le_refl _) h')) (fun h' => absurd (by simp only [ofN]; omega) h')))
      have e2 : wrapI .i64 (subI (ofN t) 1) = ofN (t - 1) := by
        rw [wrap_sub (by simp only [ofN]; omega) (by simp only [ofN]; omega)]
        simp only [ofN]; omega
      rw [e2, natI_ofN, natI_ofN]
      refine aiand (aile (fun _ => ailt (fun _ => ?_) (fun h' => absurd (by simp only [ofN]; omega) h')) (fun h' => absurd (by simp only [ofN]; omega) h'))
      have hget : (lst g' p)[t - 1]? = some (etaOp (g' (t - 1))) := by
        simp only [lst, List.getElem?_map]
        have : (List.range p)[t - 1]? = some (t - 1) := by rw [List.getElem?_range (by omega)]
        rw [this]; rfl
      refine h t (sq (etaOp (g' (t - 1)))) _ _ (by omega) (.inr (.inr ⟨t, rfl, by omega, by omega, by rw [lst_take g' (show t ≤ p by omega), hL], _, by rw [← hL]; exact hget, rfl⟩))
theorem allRepl14S (X0 : Nat → Int → Nat → (Nat → V) → R β) (fr most nx ms : Int) (n : Nat) (f g : Nat → V) (hn : n ≤ 1100000) (hx1 : 1 ≤ nx) (hx2 : nx ≤ 9223372036854775807)
    (hm : (lastM f n = 0 ∧ ms = 0) ∨ ∃ j, lastM f n = j + 1 ∧ ms = sq (f j)) (h : ∀ q last N h', replS (replL fr ms f g n) fr most nx (lst h' q) last → All PP (X0 q last N h')) : All PP (Df86_0 X0 fr most nx n n f g) := by
  refine allRepl14 X0 fr most nx n f g hn hx1 hx2 (fun ms' h1 h2 => ?_)
  obtain rfl : ms' = ms := by
    rcases hm with ⟨a, rfl⟩ | ⟨j, a, rfl⟩
    · exact h1 a
    · exact h2 j a
  refine ⟨fun m N h' hl hc => h m _ _ _ (.inl ⟨?_, hl, rfl⟩), fun m hl h0 hc hc1 N h' => h 0 _ _ _ (.inr (.inl ⟨by omega, hc1, rfl, rfl⟩)), fun q hq h1' h2' N h' v hl hv => h q _ _ _ (.inr (.inr ⟨q, hq, h1', h2', hl, v, hv, rfl⟩))⟩
  rw [← hl, lst_len]
  exact hc
variable {nx ms mk mt my mv : Int} {n m N : Nat} {f pl f8 g q : Nat → V}
theorem allReplays (X0 : R β) (X4 : Bool → R β) (fr most : Int) (hS : Side nx ms mk mt my mv (lst f n) m pl N f8 g q) (hN : N ≤ 1100000) (h4 : All PP (X4 true)) :
    All PP (Df40_0 (fun n531 i532 _ f534 => Df86_0 (fun n535 i536 _ f538 => Df34_0 X0 (X4 (eqI i532 i536)) n531 f534 n535 f538) fr most nx N N f8 g) fr most nx ms mk mt my mv n f) := by
  have hsm := hS.small
  have hx := hS.next
  have hmem : ∀ i, i < n → etaOp (f i) ∈ lst f n := fun i hi => lst_mem.2 ⟨i, hi, rfl⟩
  have hms : 0 ≤ ms ∧ ms ≤ 9223372036854775807 := by
    rcases hS.inv.mark with h0 | ⟨a, b, _, _⟩ <;> omega
  refine allReplayS _ fr most nx ms mk mt my mv n f (by omega) hS.inv.rise (fun i hi => by have := (hS.inv.ops _ (hmem i hi)).1; rw [sq_eta] at this; omega) hms.1 hms.2 (fun i hi => by have := (hS.inv.ops _ (hmem i hi)).2.1; rw [sq_eta] at this; omega) (by omega) (by omega) (fun p last _ g1 hp h1 => ?_)
  refine allRepl14S _ fr most nx ms N f8 g hN (by omega) (by omega) ?_ (fun p' last' _ g2 h2 => ?_)
  · rcases hS.relS.mark with a | ⟨j, a, b, _⟩
    · exact .inl a
    · exact .inr ⟨j, a, b⟩
  · rw [hS.repl] at h2
    obtain ⟨e1, rfl⟩ := replS_one h1 h2
    refine allOps _ _ p p' g1 g2 (by omega) e1 ?_
    have : eqI last last = true := eqI_iff.2 rfl
    rw [this]
    exact h4
end
end Go.Proofs.Ytbplfgghcclgkaa
