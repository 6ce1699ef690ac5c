/- StreamReplays, as a matter of values. No conditions. -/
import Derived.Test.YtbplfgghcclgkaaP14r
open Go Go.VM
namespace Go.Proofs.Ytbplfgghcclgkaa
section
variable {β : Type} {PP : β → Prop}
structure SInv (nx ms mk : Int) (S : List V) : Prop where
  rise : rising S
  ops : ∀ v ∈ S, 1 ≤ sq v ∧ sq v < nx ∧ kd v = 1
  eta : ∀ v ∈ S, etaOp v = v
  mark : ms = 0 ∨ (0 < ms ∧ ms < nx ∧ mk = 2 ∧ ∀ v ∈ S, sq v ≠ ms)
theorem SInv.add {nx ms mk : Int} {S : List V} (h : SInv nx ms mk S) (hx : 1 ≤ nx) {v : V} (h1 : sq v = nx) (h2 : kd v = 1) (h3 : etaOp v = v) : SInv (nx + 1) ms mk (S ++ [v]) := by
  refine ⟨List.pairwise_append.2 ⟨h.rise, List.pairwise_singleton _ _, fun a ha b hb => ?_⟩, fun a ha => ?_, fun a ha => ?_, ?_⟩
  · rw [List.mem_singleton.1 hb, h1]; exact (h.ops a ha).2.1
  · rcases List.mem_append.1 ha with ha | ha
    · have := h.ops a ha; exact ⟨this.1, by omega, this.2.2⟩
    · rw [List.mem_singleton.1 ha]; exact ⟨by omega, by omega, h2⟩
  · rcases List.mem_append.1 ha with ha | ha
    · exact h.eta a ha
    · rw [List.mem_singleton.1 ha]; exact h3
  · rcases h.mark with h0 | ⟨a, b, c, d⟩
    · exact .inl h0
    · refine .inr ⟨a, by omega, c, fun w hw => ?_⟩
      rcases List.mem_append.1 hw with hw | hw
      · exact d w hw
      · rw [List.mem_singleton.1 hw]; omega
theorem SInv.marked {nx ms mk : Int} {S : List V} (h : SInv nx ms mk S) (hx : 1 ≤ nx) : SInv (nx + 1) nx 2 S :=
  ⟨h.rise, fun v hv => by have := h.ops v hv; exact ⟨this.1, by omega, this.2.2⟩, h.eta, .inr ⟨by omega, by omega, rfl, fun v hv => by have := h.ops v hv; omega⟩⟩
theorem SInv.cut {nx ms mk : Int} {S : List V} (h : SInv nx ms mk S) (p : V → Bool) : SInv nx ms mk (S.filter p) :=
  ⟨h.rise.filter _, fun v hv => h.ops v (List.mem_filter.1 hv).1, fun v hv => h.eta v (List.mem_filter.1 hv).1, by
    rcases h.mark with h0 | ⟨a, b, c, d⟩
    · exact .inl h0
    · exact .inr ⟨a, b, c, fun v hv => d v (List.mem_filter.1 hv).1⟩⟩
structure AInv (nx ms mt : Int) (S A : List V) : Prop where
  rise : rising A
  ops : ∀ v ∈ A, 1 ≤ sq v ∧ sq v < nx
  eta : ∀ v ∈ A, etaOp v = v
  held : A.filter (fun v => !decide (kd v = 2)) = S
  marks : ∀ v ∈ A, kd v = 2 → 0 < ms ∧ sq v = ms ∧ tm v = mt
  has : 0 < ms → ∃ v ∈ A, kd v = 2
  len : A.length ≤ S.length + 1
theorem filter_split {S : List V} {ms : Int} (hr : rising S) : S.filter (fun v => decide (sq v < ms)) ++ S.filter (fun v => decide (ms ≤ sq v)) = S := by
  induction S with
  | nil => rfl
  | cons v S ih =>
    obtain ⟨h1, h2⟩ := List.pairwise_cons.1 hr
    by_cases c : sq v < ms
    · rw [List.filter_cons_of_pos (by simpa using c), List.filter_cons_of_neg (by simp; omega), List.cons_append, ih h2]
    · have : S.filter (fun v => decide (sq v < ms)) = [] := List.filter_eq_nil_iff.2 fun w hw => by have := h1 w hw; simp; omega
      rw [List.filter_cons_of_neg (by simpa using c), this, List.nil_append, List.filter_eq_self.2]
      intro w hw
      rcases List.mem_cons.1 hw with rfl | hw
      · simp; omega
      · have := h1 w hw; simp; omega
theorem SInv.all {nx ms mk mt my mv : Int} {S : List V} (h : SInv nx ms mk S) : AInv nx ms mt S (withM ms mk mt my mv S) := by
  unfold withM
  have held0 : ∀ {L : List V}, (∀ v ∈ L, v ∈ S) → L.filter (fun v => !decide (kd v = 2)) = L := fun hL =>
    List.filter_eq_self.2 fun v hv => by have := (h.ops v (hL v hv)).2.2; simp [this]
  split
  · rename_i hm
    rcases h.mark with h0 | ⟨_, hlt, rfl, hne⟩
    · omega
    have m1 : ∀ v ∈ S.filter (fun v => decide (sq v < ms)), v ∈ S ∧ sq v < ms := fun v hv => by
      have := List.mem_filter.1 hv; exact ⟨this.1, by simpa using this.2⟩
    have m2 : ∀ v ∈ S.filter (fun v => decide (ms ≤ sq v)), v ∈ S ∧ ms < sq v := fun v hv => by
      have := List.mem_filter.1 hv
      have a : ms ≤ sq v := by simpa using this.2
      have b := hne v this.1
      exact ⟨this.1, by omega⟩
    have sm : sq (.nd 38 [.int .i64 ms, .int .i64 2, .int .i64 mt, .int .i64 my, .int .i64 mv]) = ms := rfl
    have km : kd (.nd 38 [.int .i64 ms, .int .i64 2, .int .i64 mt, .int .i64 my, .int .i64 mv]) = 2 := rfl
    refine ⟨?_, ?_, ?_, ?_, ?_, fun _ => ⟨_, by simp, km⟩, ?_⟩
    · refine List.pairwise_append.2 ⟨List.pairwise_append.2 ⟨h.rise.filter _, List.pairwise_singleton _ _, fun a ha b hb => ?_⟩, h.rise.filter _, fun a ha b hb => ?_⟩
      · rw [List.mem_singleton.1 hb, sm]; exact (m1 a ha).2
      · have hb' := (m2 b hb).2
        rcases List.mem_append.1 ha with ha | ha
        · have := (m1 a ha).2; omega
        · rw [List.mem_singleton.1 ha, sm]; exact hb'
    · intro v hv
      rcases List.mem_append.1 hv with hv | hv
      · rcases List.mem_append.1 hv with hv | hv
        · have := h.ops v (m1 v hv).1; exact ⟨this.1, this.2.1⟩
        · rw [List.mem_singleton.1 hv, sm]; exact ⟨by omega, hlt⟩
      · have := h.ops v (m2 v hv).1; exact ⟨this.1, this.2.1⟩
    · intro v hv
      rcases List.mem_append.1 hv with hv | hv
      · rcases List.mem_append.1 hv with hv | hv
        · exact h.eta v (m1 v hv).1
        · rw [List.mem_singleton.1 hv]; rfl
      · exact h.eta v (m2 v hv).1
    · rw [List.filter_append, List.filter_append, held0 (fun v hv => (m1 v hv).1), held0 (fun v hv => (m2 v hv).1), List.filter_cons_of_neg (by rw [km]; simp), List.filter_nil, List.append_nil]
      exact filter_split h.rise
    · intro v hv hk
      rcases List.mem_append.1 hv with hv | hv
      · rcases List.mem_append.1 hv with hv | hv
        · have := (h.ops v (m1 v hv).1).2.2; omega
        · rw [List.mem_singleton.1 hv]; exact ⟨hm, rfl, rfl⟩
      · have := (h.ops v (m2 v hv).1).2.2; omega
    · rw [List.length_append, List.length_append, ← congrArg List.length (filter_split (ms := ms) h.rise), List.length_append]
      simp; omega
  · rename_i hm
    refine ⟨h.rise, fun v hv => by have := h.ops v hv; exact ⟨this.1, this.2.1⟩, h.eta, held0 fun v hv => hv, fun v hv hk => by have := (h.ops v hv).2.2; omega, fun h' => absurd h' hm, by omega⟩
theorem allOpsL (X0 X1 : R β) (n : Nat) (f g : Nat → V) (hn : n ≤ 1073741824) (h : ∀ i, i < n → etaOp (f i) = etaOp (g i)) (h1 : All PP X1) :
    ∀ (k i : Nat), i ≤ n → n - i < k → All PP (Lf34_0_0 X0 X1 n f n g (ofN n) k (ofN i))
  | 0, i, _, hk => by omega
  | k + 1, i, hi, hk => by
    have ih := allOpsL X0 X1 n f g hn h h1 k
    show All PP (Rd34_0_0 (Lf34_0_0 X0 X1 n f n g (ofN n) k) X0 X1 n f n g (ofN n) (ofN i))
    unfold Rd34_0_0
    refine ailt (fun hl => ?_) (fun _ => h1)
    have hlt : i < n := by simp only [ofN] at hl; omega
    have part : ∀ k, intV (partV (etaOp (f i)) k) = intV (partV (etaOp (g i)) k) := fun k => by rw [h i hlt]
    refine aiand (aile (fun _ => ailt (fun _ => ?_) (fun h' => absurd hl h')) (fun h' => afail (by simp only [ofN] at h'; omega)))
    refine aiand (aile (fun _ => ailt (fun _ => ?_) (fun h' => absurd hl h')) (fun h' => afail (by simp only [ofN] at h'; omega)))
    rw [natI_ofN]
    refine ainot (aiand (aieq (fun _ => aiand (aieq (fun _ => aiand (aieq (fun _ => aiand (aieq (fun _ => aieq (fun _ => ?_) (fun h' => absurd (part 4) h')) (fun h' => absurd (part 3) h'))) (fun h' => absurd (part 2) h'))) (fun h' => absurd (part 1) h'))) (fun h' => absurd (part 0) h')))
    rw [wrap_succ (by omega)]
    exact ih (i + 1) (by omega) (by omega)
theorem allOps (X0 X1 : R β) (n m : Nat) (f g : Nat → V) (hn : n ≤ 1073741824) (h : lst f n = lst g m) (h1 : All PP X1) : All PP (Df34_0 X0 X1 n f m g) := by
  have e : n = m := by rw [← lst_len f n, h, lst_len]
  subst e
  unfold Df34_0
  refine ainot (aieq (fun _ => ?_) (fun h' => absurd rfl h'))
  refine allOpsL X0 X1 n f g hn (fun i hi => ?_) h1 NNo 0 (Nat.zero_le _) (by rw [NNo_eq]; unfold NN; omega)
  have := congrArg (fun l => l[i]?) h
  simpa [lst, hi] using this
end
end Go.Proofs.Ytbplfgghcclgkaa
