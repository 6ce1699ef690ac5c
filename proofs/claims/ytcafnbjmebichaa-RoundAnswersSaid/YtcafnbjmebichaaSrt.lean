/- slices.Sorted of maps.Keys: the contract laid at this program, and what the machine over values makes of it. No conditions. -/
import Derived.Test.YtcafnbjmebichaaVmB
import Derived.Shelf.SlIterI.Nil
import Derived.Shelf.SortM.Plain
import Derived.Shelf.SortM.SortNone
import Derived.Ground.GgzProg
import Derived.Ground.SlgmProg
import Derived.Test.YtcafnbjmebichaaProg
import Derived.Maps.Own
import Derived.Lib.SlKeysI
namespace Go.Proofs
open Go.Shelf
def Try.keysA_ren : Go.Shelf.Ren := ⟨fun | 7 => 52 | 10 => 91 | n => n, fun | 23 => 113 | 26 => 3 | 3 => 40 | 28 => 123 | 0 => 0 | 27 => 122 | 33 => 120 | 4 => 4 | n => n, fun | n => n⟩
theorem Try.keysA : Go.Proofs.SlLaysZI.n7 Try.prog Try.keysA_ren := {
  mixed := by kernel_rfl
  f7 := ⟨Try.f52.name, by decide, Try.func52.trans (congrArg some (by kernel_rfl))⟩
  f10 := ⟨Try.f91.name, by decide, Try.func91.trans (congrArg some (by kernel_rfl))⟩
  t0 := Try.underlying0
  a0 := Try.isAgg0
  z0 := Try.sizeOf0
  v0 := Try.zeroValue0
  t4 := Try.underlying4
  a4 := Try.isAgg4
  z4 := Try.sizeOf4
  v4 := Try.zeroValue4
  t23 := Try.underlying113
  a23 := Try.isAgg113
  z23 := Try.sizeOf113
  v23 := Try.zeroValue113
  t26 := Try.underlying3
  a26 := Try.isAgg3
  z26 := Try.sizeOf3
  v26 := Try.zeroValue3
  t27 := Try.underlying122
  a27 := Try.isAgg122
  z27 := Try.sizeOf122
  v27 := Try.zeroValue122
  t28 := Try.underlying123
  a28 := Try.isAgg123
  z28 := Try.sizeOf123
  v28 := Try.zeroValue123
  t33 := Try.underlying120
  a33 := Try.isAgg120
  z33 := Try.sizeOf120
  v33 := Try.zeroValue120 }
def Try.sortedA_ren : Go.Shelf.Ren := ⟨fun | 6 => 51 | 8 => 89 | 9 => 90 | 11 => 121 | 13 => 110 | 12 => 122 | 23 => 140 | 24 => 141 | 14 => 145 | 15 => 146 | 16 => 147 | 17 => 148 | 18 => 149 | 19 => 150 | 20 => 151 | 21 => 152 | 22 => 153 | 25 => 168 | 26 => 162 | 27 => 163 | 28 => 169 | 29 => 170 | 30 => 102 | 31 => 173 | n => n, fun | 26 => 3 | 28 => 123 | 24 => 24 | 0 => 0 | 3 => 3 | 37 => 55 | 48 => 231 | 50 => 233 | 4 => 4 | 40 => 225 | 39 => 224 | 45 => 74 | 5 => 5 | 9 => 9 | 51 => 257 | 55 => 261 | 57 => 266 | 58 => 202 | 33 => 120 | n => n, fun | n => n⟩
theorem Try.sortedA : Go.Proofs.SlLaysZI.n6 Try.prog Try.sortedA_ren := {
  mixed := by kernel_rfl
  f6 := ⟨Try.f51.name, by decide, Try.func51.trans (congrArg some (by kernel_rfl))⟩
  f8 := ⟨Try.f89.name, by decide, Try.func89.trans (congrArg some (by kernel_rfl))⟩
  f11 := ⟨Try.f121.name, by decide, Try.func121.trans (congrArg some (by kernel_rfl))⟩
  t0 := Try.underlying0
  a0 := Try.isAgg0
  z0 := Try.sizeOf0
  v0 := Try.zeroValue0
  t24 := Try.underlying24
  a24 := Try.isAgg24
  z24 := Try.sizeOf24
  v24 := Try.zeroValue24
  t26 := Try.underlying3
  a26 := Try.isAgg3
  z26 := Try.sizeOf3
  v26 := Try.zeroValue3
  t28 := Try.underlying123
  a28 := Try.isAgg123
  z28 := Try.sizeOf123
  v28 := Try.zeroValue123
  i26 := by kernel_rfl }
def Try.sortA_ren : Go.Shelf.Ren := ⟨fun | 5 => 90 | 8 => 110 | 7 => 122 | 19 => 140 | 20 => 141 | 10 => 145 | 11 => 146 | 12 => 147 | 13 => 148 | 14 => 149 | 15 => 150 | 16 => 151 | 17 => 152 | 18 => 153 | 30 => 168 | 31 => 162 | 32 => 163 | 33 => 169 | 34 => 170 | 35 => 102 | 40 => 173 | n => n, fun | 23 => 24 | 25 => 3 | 3 => 3 | 32 => 55 | 22 => 24 | 0 => 0 | 44 => 231 | 46 => 233 | 4 => 4 | 36 => 225 | 35 => 224 | 41 => 74 | 5 => 5 | 9 => 9 | 53 => 257 | 57 => 261 | 63 => 266 | 64 => 202 | n => n, fun | n => n⟩
theorem Try.sortA : Go.Proofs.SlLaysM.n5 Try.prog Try.sortA_ren := {
  mixed := by kernel_rfl
  f5 := ⟨Try.f90.name, by decide, Try.func90.trans (congrArg some (by kernel_rfl))⟩
  f7 := ⟨Try.f122.name, by decide, Try.func122.trans (congrArg some (by kernel_rfl))⟩
  f8 := Try.func110.trans (congrArg some (by kernel_rfl))
  f10 := ⟨Try.f145.name, by decide, Try.func145.trans (congrArg some (by kernel_rfl))⟩
  f11 := ⟨Try.f146.name, by decide, Try.func146.trans (congrArg some (by kernel_rfl))⟩
  f12 := ⟨Try.f147.name, by decide, Try.func147.trans (congrArg some (by kernel_rfl))⟩
  f13 := ⟨Try.f148.name, by decide, Try.func148.trans (congrArg some (by kernel_rfl))⟩
  f14 := ⟨Try.f149.name, by decide, Try.func149.trans (congrArg some (by kernel_rfl))⟩
  f15 := ⟨Try.f150.name, by decide, Try.func150.trans (congrArg some (by kernel_rfl))⟩
  f16 := ⟨Try.f151.name, by decide, Try.func151.trans (congrArg some (by kernel_rfl))⟩
  f17 := ⟨Try.f152.name, by decide, Try.func152.trans (congrArg some (by kernel_rfl))⟩
  f18 := ⟨Try.f153.name, by decide, Try.func153.trans (congrArg some (by kernel_rfl))⟩
  f19 := Try.func140.trans (congrArg some (by kernel_rfl))
  f20 := Try.func141.trans (congrArg some (by kernel_rfl))
  f30 := ⟨Try.f168.name, by decide, Try.func168.trans (congrArg some (by kernel_rfl))⟩
  f31 := Try.func162.trans (congrArg some (by kernel_rfl))
  f32 := Try.func163.trans (congrArg some (by kernel_rfl))
  f33 := ⟨Try.f169.name, by decide, Try.func169.trans (congrArg some (by kernel_rfl))⟩
  f34 := ⟨Try.f170.name, by decide, Try.func170.trans (congrArg some (by kernel_rfl))⟩
  f35 := ⟨Try.f102.name, by decide, Try.func102.trans (congrArg some (by kernel_rfl))⟩
  f40 := ⟨Try.f173.name, by decide, Try.func173.trans (congrArg some (by kernel_rfl))⟩
  t0 := Try.underlying0
  a0 := Try.isAgg0
  z0 := Try.sizeOf0
  v0 := Try.zeroValue0
  t3 := Try.underlying3
  a3 := Try.isAgg3
  z3 := Try.sizeOf3
  v3 := Try.zeroValue3
  t4 := Try.underlying4
  a4 := Try.isAgg4
  z4 := Try.sizeOf4
  v4 := Try.zeroValue4
  t5 := Try.underlying5
  a5 := Try.isAgg5
  z5 := Try.sizeOf5
  v5 := Try.zeroValue5
  t9 := Try.underlying9
  a9 := Try.isAgg9
  z9 := Try.sizeOf9
  v9 := Try.zeroValue9
  t22 := Try.underlying24
  a22 := Try.isAgg24
  z22 := Try.sizeOf24
  v22 := Try.zeroValue24
  t23 := Try.underlying24
  a23 := Try.isAgg24
  z23 := Try.sizeOf24
  v23 := Try.zeroValue24
  t25 := Try.underlying3
  a25 := Try.isAgg3
  z25 := Try.sizeOf3
  v25 := Try.zeroValue3
  t32 := Try.underlying55
  a32 := Try.isAgg55
  z32 := Try.sizeOf55
  v32 := Try.zeroValue55
  t35 := Try.underlying224
  a35 := Try.isAgg224
  z35 := Try.sizeOf224
  v35 := Try.zeroValue224
  t36 := Try.underlying225
  a36 := Try.isAgg225
  z36 := Try.sizeOf225
  v36 := Try.zeroValue225
  t41 := Try.underlying74
  a41 := Try.isAgg74
  z41 := Try.sizeOf74
  v41 := Try.zeroValue74
  t44 := Try.underlying231
  a44 := Try.isAgg231
  z44 := Try.sizeOf231
  v44 := Try.zeroValue231
  t46 := Try.underlying233
  a46 := Try.isAgg233
  z46 := Try.sizeOf233
  v46 := Try.zeroValue233
  t53 := Try.underlying257
  a53 := Try.isAgg257
  z53 := Try.sizeOf257
  v53 := Try.zeroValue257
  t57 := Try.underlying261
  a57 := Try.isAgg261
  z57 := Try.sizeOf261
  v57 := Try.zeroValue261
  t63 := Try.underlying266
  a63 := Try.isAgg266
  z63 := Try.sizeOf266
  v63 := Try.zeroValue266
  t64 := Try.underlying202
  a64 := Try.isAgg202
  z64 := Try.sizeOf202
  v64 := Try.zeroValue202 }
end Go.Proofs
namespace Go.VM
section
variable {P : Program} {T : Tab}

theorem insI_perm (x : Int) : ∀ l : List Int, (insI x l).Perm (x :: l)
  | [] => .refl _
  | y :: l => by
    unfold insI
    split
    · exact .refl _
    · exact ((insI_perm x l).cons y).trans (.swap x y l)
theorem sortI_perm : ∀ l : List Int, (sortI l).Perm l
  | [] => .refl _
  | x :: l => (insI_perm x (sortI l)).trans ((sortI_perm l).cons x)
theorem insI_sorted (x : Int) : ∀ l : List Int, l.Pairwise (· ≤ ·) → (insI x l).Pairwise (· ≤ ·)
  | [], _ => by simp [insI]
  | y :: l, h => by
    obtain ⟨h1, h2⟩ := List.pairwise_cons.1 h
    unfold insI
    split
    · rename_i hb
      have hb : x ≤ y := by simpa [VM.leI] using hb
      refine List.pairwise_cons.2 ⟨fun z hz => ?_, h⟩
      rcases List.mem_cons.1 hz with rfl | hz
      · exact hb
      · exact Int.le_trans hb (h1 z hz)
    · rename_i hb
      have hb : y ≤ x := by
        have : ¬ x ≤ y := by simpa [VM.leI] using hb
        omega
      refine List.pairwise_cons.2 ⟨fun z hz => ?_, insI_sorted x l h2⟩
      rcases List.mem_cons.1 ((insI_perm x l).mem_iff.1 hz) with rfl | hz
      · exact hb
      · exact h1 z hz
theorem sortI_sorted : ∀ l : List Int, (sortI l).Pairwise (· ≤ ·)
  | [] => .nil
  | x :: l => insI_sorted x _ (sortI_sorted l)
theorem mergeSort_eq {ss l : List Int} (h : ss.Perm l) : ss.mergeSort (fun x y => decide (x ≤ y)) = sortI l := by
  have tr : ∀ a b c : Int, decide (a ≤ b) = true → decide (b ≤ c) = true → decide (a ≤ c) = true := fun a b c h1 h2 => by simp only [decide_eq_true_eq] at *; exact Int.le_trans h1 h2
  have to : ∀ a b : Int, (decide (a ≤ b) || decide (b ≤ a)) = true := fun a b => by simp only [Bool.or_eq_true, decide_eq_true_eq]; exact Int.le_total a b
  refine List.Perm.eq_of_pairwise (le := fun a b => a ≤ b) (fun a b _ _ h1 h2 => Int.le_antisymm h1 h2) ((List.pairwise_mergeSort tr to ss).imp fun h => by simpa using h) (sortI_sorted l) (((List.mergeSort_perm ss _).trans h).trans (sortI_perm l).symm)

/-- what the shelf says of slices.Sorted at maps.Keys's iterator -/
structure SortedSays (P : Program) (n kf kt : Nat) : Prop where
  enter : ∀ args w, (callFunc n args).run P w = .ok (.enter n args) w
  some : ∀ (bx b nn : Nat) (D0 : DataW Nat) (R : Value → Option (DataW Nat × List MemPlace)) (w : World), bx < w.heap.size → w.cell? ⟨bx, 0, none⟩ = .some (.map (.some b)) → w.ownsMap P kt R b nn D0 → Maps.size D0 ≤ maxLen → Maps.size D0 * 8 ≤ 140737488355328 →
    Calls P n #[.func (.func kf) #[] #[.pointer (.some ⟨bx, 0, none⟩)]] w fun e w' => ∃ (v : Value) (ss : List Int), e = .returned v ∧ ss.Perm (intKeys D0) ∧
      w'.ownsRow w.heap.size kt 1 v ss.length ((ss.mergeSort (fun x y => decide (x ≤ y))).map encZ) ∧ (v = .slice none 0 0 ↔ ss = []) ∧ RowKit.Below w.heap.size w w'
  nil : ∀ (bx : Nat) (w : World), bx < w.heap.size → w.cell? ⟨bx, 0, none⟩ = .some (.map none) →
    Calls P n #[.func (.func kf) #[] #[.pointer (.some ⟨bx, 0, none⟩)]] w fun e w' => e = .returned (.slice none 0 0) ∧ RowKit.Below w.heap.size w w'

theorem stamp_ok (c : Nat) : ∀ (l : List (Nat × V × V)) (lo : Nat) (bs : List Nat), stampB c lo l = true → bs.length = l.length → (∀ (i : Nat) (kv : Nat × V × V), l[i]? = some kv → bs[i]? = some kv.1) → (∀ b ∈ bs, lo ≤ b ∧ b < c) ∧ bs.Nodup
  | [], lo, bs, _, hl, _ => by
    cases bs with
    | nil => simp
    | cons b bs => simp at hl
  | e :: l, lo, bs, h, hl, hb => by
    cases bs with
    | nil => simp at hl
    | cons b bs =>
      unfold stampB at h
      have hbe : b = e.1 := by simpa using hb 0 e rfl
      split at h
      · rename_i h1 h2
        have h1 : lo ≤ e.1 := of_decide_eq_true h1
        have h2 : e.1 < c := by simpa [ltN] using h2
        obtain ⟨k1, k2⟩ := stamp_ok c l (e.1 + 1) bs h (by simpa using hl) (fun i kv hi => by simpa using hb (i + 1) kv (by simpa using hi))
        refine ⟨fun b' hb' => ?_, List.nodup_cons.2 ⟨fun hm => ?_, k2⟩⟩
        · rcases List.mem_cons.1 hb' with rfl | hb'
          · omega
          · have := k1 b' hb'
            omega
        · have := k1 b hm
          omega
      · cases h

theorem keysI_map : ∀ l : List (Nat × V × V), keysI l = l.map fun e => intV e.2.1
  | [] => rfl
  | e :: l => by simp [keysI, keysI_map l]

theorem sorted_ok (hT : TabOk P T) {n kf kt : Nat} (hk : find kt T = some (.int .i64)) (hz1 : sz P kt = 1) (hS : SortedSays P n kf kt) : EntryOK P T n ⟨[], fun a G K => extSorted T kf kt a G K⟩ := by
  intro β PP X args xs K hX hA h Q hQ
  replace h : All PP (extSorted T kf kt args X.G K) := h
  unfold extSorted at h
  split at h
  · rename_i g r t
    replace h := all_must.1 h
    obtain ⟨hg, h⟩ := h
    have hg := Nat.eq_of_beq_eq_true hg
    subst hg
    obtain ⟨x, xs', rfl, hx, hxs'⟩ := relVs_cons.1 hA
    have hxs' := relVs_nil.1 hxs'
    subst hxs'
    obtain ⟨ys, rfl, hys⟩ := rel_fn.1 hx
    obtain ⟨y, ys', hyl, hy, hys'⟩ := relVs_cons.1 hys
    have hys' := relVs_nil.1 hys'
    subst hys'
    have hya : ys = #[y] := by rw [← Array.toList_inj]; exact hyl
    subst hya
    obtain ⟨a, rfl, ha⟩ := rel_ptr.1 hy
    split at h
    · rename_i t0 v hbox
      have hreg : X.reg r = .box t0 v := hbox
      have hlt := Rx.reg_lt (X := X) (r := r) (by rw [hreg]; simp)
      have hok := hX.reg r hlt
      unfold RegOk at hok
      rw [hreg] at hok
      obtain ⟨hd0, htag0, b, cs, el, hblk, hheap, hsize, hrel⟩ := hok
      have ha : a = ⟨b, 0, none⟩ := by
        rcases ha with hd | ⟨b', off, h1, h2, rfl⟩
        · exact absurd hd.2 (by rw [hreg]; simp)
        · rw [hblk] at h1
          cases h1
          rw [hreg] at h2
          have h2 : PathAt P T t0 [] off t := h2
          cases h2
          rfl
      subst ha
      have hbl := hX.blk_lt hblk (by rw [hreg]; simp)
      -- the new row
      have fin : ∀ (w' : World) (v : Value) (ss : List Int) (l : List Int) (f : Nat → V), RowKit.Below X.w.heap.size X.w w' → ss.Perm l → (∀ i, i < l.length → f i = .int .i64 ((sortI l).getD i 0)) → (v = .slice none 0 0 ↔ ss = []) →
          w'.ownsRow X.w.heap.size kt 1 v ss.length ((ss.mergeSort (fun x y => decide (x ≤ y))).map encZ) → All PP (K (.sub X.G.length 0 l.length) (X.G ++ [.row kt l.length f])) → Q (.returned v) w' := by
        intro w' v ss l f hB hp hf hnil hrow hK
        have hlen : ss.length = l.length := hp.length_eq
        rw [mergeSort_eq hp] at hrow
        have hsl : (sortI l).length = l.length := (sortI_perm l).length_eq
        have hfit : ∀ i, i < l.length → T.fits kt (f i) = true := fun i hi => by
          rw [hf i hi]
          unfold Tab.fits
          simp [fitV, kindIs, hk, sameK]
        have bs : ∀ b, bsize X.w b ≤ bsize w' b := by
          intro b
          by_cases hb : b < X.w.heap.size
          · unfold bsize; rw [hB.block b hb]; exact Nat.le_refl _
          · unfold bsize; rw [Array.getElem?_eq_none (by omega)]; exact Nat.zero_le _
        rcases hrow.2 with ⟨rfl, h0⟩ | ⟨gb, cap, cur, rfl, hge, hgb, hnc, hcm, hcs, htk⟩
        · have h0 : l.length = 0 := by omega
          obtain ⟨m1, m2⟩ := new_ok (P := P) (T := T) hX (ro := none) (g := .row kt l.length f) (b' := none) (w' := w') (by simp) hB.os hB.tape hB.output hB.size (fun b hb _ => hB.block b hb) bs (by simp)
            (fun Y hY hE hb hr => by
              unfold RegOk
              rw [hr]
              exact ⟨⟨_, hk⟩, hfit, .inl ⟨hb, h0⟩⟩)
          refine hQ _ _ ⟨w', goneAt X.G none ++ [.row kt l.length f], X.ρ ++ [none], X.S⟩ hK m1 m2 (rel_sub.2 ⟨none, 0, by rw [h0], by omega, by omega, .inr ⟨kt, l.length, by rw [reg_new]; exact ⟨rfl, rfl⟩, by omega, ?_⟩⟩)
          have : (⟨w', goneAt X.G none ++ [.row kt l.length f], X.ρ ++ [none], X.S⟩ : Rx).blk X.G.length = none := by
            show (X.ρ ++ [none]).getD X.G.length none = _
            rw [blk_snoc hX, if_pos rfl]
          rw [this]
          exact ⟨rfl, rfl⟩
        · obtain ⟨m1, m2⟩ := new_ok (P := P) (T := T) hX (ro := none) (g := .row kt l.length f) (b' := some gb) (w' := w') (by simp) hB.os hB.tape hB.output hB.size (fun b hb _ => hB.block b hb) bs (fun k hk => by cases hk; exact .inl hge)
            (fun Y hY hE hb hr => by
              unfold RegOk
              rw [hr]
              refine ⟨⟨_, hk⟩, hfit, .inr ⟨gb, cur, kt, (0, 0), cap, hb, by rw [hY]; exact hgb, fun _ => ⟨rfl, rfl⟩, (by intro h; cases h), by rw [hz1]; exact hcs, by omega, fun i hi => ?_⟩⟩
              rw [hf i hi, hz1]
              simp only [RelF]
              have hi1 : ((sortI l).map encZ)[i]? = some (encZ ((sortI l).getD i 0)) := by
                rw [List.getElem?_map, List.getD_eq_getElem?_getD, List.getElem?_eq_getElem (by omega)]
                rfl
              rw [← htk, List.getElem?_take, if_pos (by omega)] at hi1
              apply List.ext_getElem?
              intro j
              rw [List.getElem?_take]
              cases j with
              | zero => simpa [List.getElem?_drop] using hi1
              | succ j => simp)
          refine hQ _ _ ⟨w', goneAt X.G none ++ [.row kt l.length f], X.ρ ++ [some gb], X.S⟩ hK m1 m2 (rel_sub.2 ⟨some ⟨gb, 0, none⟩, cap, by rw [hlen], by omega, by simp, .inr ⟨kt, l.length, by rw [reg_new]; exact ⟨rfl, rfl⟩, by omega, ?_⟩⟩)
          have : (⟨w', goneAt X.G none ++ [.row kt l.length f], X.ρ ++ [some gb], X.S⟩ : Rx).blk X.G.length = some gb := by
            show (X.ρ ++ [some gb]).getD X.G.length none = _
            rw [blk_snoc hX, if_pos rfl]
          rw [this]
          refine ⟨fun _ => by simp, ?_⟩
          show (0 + cap) * sz P kt ≤ bsize w' gb
          unfold bsize
          rw [hgb, hz1]
          simp only
          omega
      unfold Runs
      rw [hS.enter]
      simp only
      split at h
      · -- a nil map
        simp only [RelF] at hrel
        have hcell : X.w.cell? ⟨b, 0, none⟩ = some (.map none) := by
          have : cs = #[.map none] := by rw [← Array.toList_inj]; exact hrel
          simp [World.cell?, hheap, this]
        refine (hS.nil b X.w hbl hcell).mono ?_
        rintro e w' ⟨rfl, hB⟩
        refine fin w' _ [] [] (constF .junk) hB (.refl _) (by simp) (by simp) ⟨by simp, .inl ⟨rfl, rfl⟩⟩ h
      · rename_i q
        simp only [RelF] at hrel
        obtain ⟨bm, hrel, hq⟩ := hrel
        have hcell : X.w.cell? ⟨b, 0, none⟩ = some (.map (some bm)) := by
          have : cs = #[.map (some bm)] := by rw [← Array.toList_inj]; exact hrel
          simp [World.cell?, hheap, this]
        split at h
        · rename_i u c l hmap
          split at h
          · rename_i k e hu
            obtain ⟨hkk, h⟩ := all_must.1 h
            have hkk := Nat.eq_of_beq_eq_true hkk
            subst hkk
            obtain ⟨hst, h⟩ := all_must.1 h
            obtain ⟨hro, h⟩ := all_must.1 h
            have hro : l.length ≤ 1073741824 := of_decide_eq_true hro
            have hrm : X.reg q = .map u c l := hmap
            have hltm := Rx.reg_lt (X := X) (r := q) (by rw [hrm]; simp)
            have hM := hX.reg q hltm
            unfold RegOk at hM
            rw [hrm] at hM
            obtain ⟨k', e', hu', bm', es, hbm, hes, hsz, hinj, hent⟩ := hM
            rw [hu] at hu'
            cases hu'
            have hbm2 : bm' = bm := by
              rcases hq with hd | ⟨h1, _⟩
              · exact absurd hd.2 (by rw [hrm]; simp)
              · rw [hbm] at h1; cases h1; rfl
            subst hbm2
            have hall : ∀ i (hi : i < es.size), ∃ kv, l[i]? = some kv ∧ (∃ x : Int, kv.2.1 = .int .i64 x ∧ es[i].key = .int .i64 x) ∧ es[i].born = kv.1 ∧ ∃ lit, keyOf P k es[i].key = some lit := by
              intro i hi
              obtain ⟨kv, hkv⟩ : ∃ kv, l[i]? = some kv := ⟨_, List.getElem?_eq_getElem (by omega)⟩
              obtain ⟨k1, k2, k3, en, k4, k5, k6, k7, k8⟩ := hent i kv hkv
              rw [Array.getElem?_eq_getElem hi] at k4
              cases k4
              refine ⟨kv, hkv, ?_, k7, k8⟩
              unfold Tab.fits at k2
              cases hv : kv.2.1 <;> rw [hv] at k2 k5 <;> simp [fitV, kindIs, hk] at k2
              rw [rel_int] at k5
              have := sameK_eq k2
              subst this
              exact ⟨_, rfl, k5⟩
            have hstamp := stamp_ok c l 0 (es.toList.map (·.born)) hst (by simp [hsz]) (fun i kv hi => by
              have hi' : i < es.size := by
                have := (List.getElem?_eq_some_iff.1 hi).1
                omega
              obtain ⟨kv', h1, _, h3, _⟩ := hall i hi'
              rw [hi] at h1
              cases h1
              simp [hi', h3])
            have hown : X.w.ownsMap P k (fun _ => some (DataW.nil, [])) bm' es.size (.map ((es.toList.map (WideElems.rg P k (fun _ => some ((DataW.nil : DataW Nat), [])))).foldr DataW.insert [])) := by
              refine ⟨es, c, hes, ⟨by rw [hsz]; unfold maxLen; omega, ⟨?_, ?_, ?_⟩, ?_⟩, Nat.le_refl _, rfl⟩
              · intro x hx
                exact (hstamp.1 x.born (List.mem_map_of_mem hx)).2
              · exact hstamp.2
              · refine List.pairwise_iff_getElem.2 fun i j hi hj hij he => ?_
                simp only [List.length_map, Array.length_toList] at hi hj
                simp only [List.getElem_map, Array.getElem_toList] at he
                have := hinj i j es[i] es[j] (Array.getElem?_eq_getElem hi) (Array.getElem?_eq_getElem hj)
                first | (have := this he; omega) | (have := this he.symm; omega)
              · intro x hx
                obtain ⟨i, hi, rfl⟩ := List.getElem_of_mem hx
                obtain ⟨kv, _, _, _, lit, h8⟩ := hall i (by simpa using hi)
                simp only [Array.getElem_toList]
                exact ⟨(lit, .nil), by simp [WideElems.rd, h8]⟩
            have hD : Maps.size (.map ((es.toList.map (WideElems.rg P k (fun _ => some ((DataW.nil : DataW Nat), [])))).foldr DataW.insert [])) = l.length := by
              rw [Maps.size_eq, (WideShapes.sorted_perm _).length_eq, List.length_map, Array.length_toList, hsz]
            have hperm : (intKeys (.map ((es.toList.map (WideElems.rg P k (fun _ => some ((DataW.nil : DataW Nat), [])))).foldr DataW.insert []))).Perm (keysI l) := by
              refine ((WideShapes.sorted_perm _).map _).trans (.of_eq ?_)
              rw [keysI_map, List.map_map]
              apply List.ext_getElem?
              intro i
              rw [List.getElem?_map, List.getElem?_map]
              rcases Nat.lt_or_ge i es.size with hi | hi
              · obtain ⟨kv, h1, ⟨x, h2, h3⟩, _, lit, h5⟩ := hall i hi
                rw [h1]
                have : es.toList[i]? = some es[i] := by simp [hi]
                rw [this]
                simp only [Option.map_some, Function.comp_apply]
                congr 1
                have hlit : lit = .int .i64 x := by
                  rw [h3] at h5
                  obtain ⟨uk, huk, hukd⟩ := (hT _ _ hk).und
                  cases uk <;> simp only [Und] at hukd
                  subst hukd
                  obtain ⟨x', h6, h7, _⟩ := Maps.keyOf_i64 huk h5
                  cases h6
                  exact h7
                have : WideElems.rg P k (fun _ => some ((DataW.nil : DataW Nat), [])) es[i] = (lit, .nil) := by simp [WideElems.rg, WideElems.rd, h5]
                rw [this, hlit, h2]
                rfl
              · rw [List.getElem?_eq_none (by simpa using hi), List.getElem?_eq_none (by omega)]
                rfl
            refine (hS.some b bm' es.size _ _ X.w hbl hcell hown (by rw [hD]; unfold maxLen; omega) (by rw [hD]; omega)).mono ?_
            rintro e w' ⟨v, ss, rfl, hss, hrow, hnil, hB⟩
            refine fin w' v ss (keysI l) (rowI (sortI (keysI l))) hB (hss.trans hperm) (fun i _ => rfl) hnil hrow ?_
            have hkl : (keysI l).length = l.length := by rw [keysI_map, List.length_map]
            rw [hkl]
            exact h
          · exact (all_fail h).elim
        · exact (all_fail h).elim
      · exact (all_fail h).elim
    · exact (all_fail h).elim
  · exact (all_fail h).elim
end
end Go.VM
namespace Go.Proofs
open Go.RowKit Go.Maps Go.Sort Go.Shelf
theorem Try.sortsA (m : Nat) : AnyZI.SortsIn Try.prog Try.sortedA_ren Fence.wide m :=
  ⟨fun blk off cap ss W hH hblk hsz => callsIn_wide.2 (AnyM.slices_Sort_int Try.sortA blk off cap ss W hH hblk hsz),
   fun p cap W => callsIn_wide.2 (AnyM.slices_Sort_int_none Try.sortA p cap W)⟩
theorem Try.says : Go.VM.SortedSays Try.prog 51 91 3 := by
  refine ⟨enters_of Try.func51 (by kernel_rfl) rfl, ?_, ?_⟩
  · intro bx b nn D0 R w hbx hm hown hmax hbytes
    refine (callsIn_wide (n := 5)).1 ?_
    have hseq : SeqGives Fence.wide 2 Try.prog 91 #[.pointer (some ⟨bx, 0, none⟩)] encZ (fun ss => ss.Perm (intKeys D0)) (Maps.size D0) w :=
      AnyZI.keys_gives (ρ := Try.keysA_ren) { Try.keysA with } Fence.wide _ trivial rfl (by omega) bx b nn D0 w hbx hm hown
    exact AnyZI.sorted_in Try.sortedA Fence.wide 5 trivial trivial trivial trivial rfl (by omega) (Try.sortsA _) (enters_of Try.func90 (by kernel_rfl) rfl) 91 #[.pointer (some ⟨bx, 0, none⟩)] trivial (enters_of Try.func91 (by kernel_rfl) rfl) _ _ hmax hbytes _ hseq
  · intro bx w hbx hm
    refine (callsIn_wide (n := 5)).1 ?_
    have hseq : SeqGives Fence.wide 2 Try.prog 91 #[.pointer (some ⟨bx, 0, none⟩)] encZ (fun ss : List Int => ss = []) 0 w :=
      AnyZI.keys_gives_nil (ρ := Try.keysA_ren) { Try.keysA with } Fence.wide _ trivial rfl bx w hbx hm
    refine (AnyZI.sorted_in Try.sortedA Fence.wide 5 trivial trivial trivial trivial rfl (by omega) (Try.sortsA _) (enters_of Try.func90 (by kernel_rfl) rfl) 91 #[.pointer (some ⟨bx, 0, none⟩)] trivial (enters_of Try.func91 (by kernel_rfl) rfl) _ 0 (Nat.zero_le _) (by omega) _ hseq).mono ?_
    rintro e w' ⟨v, ss, rfl, rfl, _, hnil, hb⟩
    exact ⟨by rw [hnil.2 rfl], hb⟩
end Go.Proofs
