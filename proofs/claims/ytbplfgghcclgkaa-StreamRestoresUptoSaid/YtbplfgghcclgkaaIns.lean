/- slices.Insert at elements of several cells: the walks at this program, and what the machine over values makes of them. No conditions. -/
import Derived.Test.YtbplfgghcclgkaaVmD
import Derived.Shelf.Spec.SlicesInsert
import Derived.Lib.AppendZerosOnto
import Derived.Laws.NewBlocks
import Derived.Laws.IdiomCopy
import Derived.Test.YtbplfgghcclgkaaProg
import Derived.KernelRfl
namespace Go.Ins
open Go Go.RowKit Go.Lib
variable {P : Program}
theorem run_copy_k (w : World) (dT sT ty elem : TypeId) (b o dLen dCap : Nat) (a : Addr) (sLen sCap k : Nat) (cs : List Value)
    (hu : P.underlying dT = some (.slice elem)) (hs : (P.info? elem).map (·.size) = some k) (hn : cs.length = Nat.min sLen dLen * k)
    (hsrc : ∀ j v, cs[j]? = some v → w.cell? (a.add j) = some v) (hc : ∀ j, j < cs.length → (w.cell? ⟨b, o + j, none⟩).isSome = true) (hf : ∀ j, j < cs.length → w.frozen? ⟨b, o + j, none⟩ = false) (h1 : ∀ v ∈ cs, v.oneCell' = true) :
    (Builtin.copy_ #[dT, sT] ty #[.slice (some ⟨b, o, none⟩) dLen dCap, .slice (some a) sLen sCap]).run P w = .ok (goInt (Nat.min sLen dLen)) (w.setCells b o cs) := by
  have hl := run_loadCells_list (P := P) w a cs hsrc
  have hst := run_storeCells_cells (P := P) b o cs 0 w (by simpa using hc) (by simpa using hf) h1
  cases hq : P.info? elem with
  | none => simp [hq] at hs
  | some i =>
    have hi : i.size = k := by simpa [hq] using hs
    simp [Builtin.copy_, run_underlying hu, Builtin.lenOf, Builtin.firstCells, sizeOf, typeInfo, hq, hi, ← hn, hl, hst]
end Go.Ins
namespace Go.VM
section
variable {P : Program} {T : Tab}
theorem ins_cells {α : Type} {l V : List α} {I M N : Nat} (hI : I ≤ N) (hl : N + M ≤ l.length) (hV : V.length = M) {x : Nat} (hx : x < N + M) :
    (((l.take (I + M) ++ (l.take N).drop I ++ l.drop (I + M + ((l.take N).drop I).length)).take I ++ V ++ (l.take (I + M) ++ (l.take N).drop I ++ l.drop (I + M + ((l.take N).drop I).length)).drop (I + V.length)))[x]? =
      if x < I then l[x]? else if x < I + M then V[x - I]? else l[x - M]? := by
  have hd : ((l.take N).drop I).length = N - I := by rw [List.length_drop, List.length_take, Nat.min_eq_left (by omega)]
  have h1 : I + M + ((l.take N).drop I).length ≤ l.length := by omega
  have hlen : (l.take (I + M) ++ (l.take N).drop I ++ l.drop (I + M + ((l.take N).drop I).length)).length = l.length := by
    rw [List.length_append, List.length_append, List.length_take, List.length_drop (l := l), Nat.min_eq_left (by omega)]; omega
  rw [over_get _ _ _ _ (by rw [hlen]; omega), over_get _ _ _ _ h1, hV, hd]
  by_cases c1 : x < I
  · rw [if_pos c1, if_pos c1, if_pos (by omega)]
  · rw [if_neg c1, if_neg c1]
    by_cases c2 : x < I + M
    · rw [if_pos c2, if_pos c2]
    · rw [if_neg c2, if_neg c2, if_neg c2, if_pos (by omega), List.getElem?_drop, List.getElem?_take, if_pos (by omega)]
      congr 1; omega
theorem ins_cells2 {α : Type} {l V R : List α} {I M N : Nat} (hI : I ≤ N) (hl : N ≤ l.length) (hR : N + M ≤ R.length) (hV : V.length = M) (hp : ∀ x, x < I → R[x]? = l[x]?) {x : Nat} (hx : x < N + M) :
    (((R.take I ++ V ++ R.drop (I + V.length)).take (I + M) ++ (l.take N).drop I ++ (R.take I ++ V ++ R.drop (I + V.length)).drop (I + M + ((l.take N).drop I).length)))[x]? =
      if x < I then l[x]? else if x < I + M then V[x - I]? else l[x - M]? := by
  have hd : ((l.take N).drop I).length = N - I := by rw [List.length_drop, List.length_take, Nat.min_eq_left (by omega)]
  have hlen : (R.take I ++ V ++ R.drop (I + V.length)).length = R.length := by
    rw [List.length_append, List.length_append, List.length_take, List.length_drop, Nat.min_eq_left (by omega)]; omega
  rw [over_get _ _ _ _ (by rw [hlen]; omega), over_get _ _ _ _ (by omega), hV, hd]
  by_cases c2 : x < I + M
  · rw [if_pos c2]
    by_cases c1 : x < I
    · rw [if_pos c1, if_pos c1]; exact hp x c1
    · rw [if_neg c1, if_neg c1, if_pos c2, if_pos c2]
  · rw [if_neg c2, if_pos (by omega), if_neg (by omega), if_neg c2, List.getElem?_drop, List.getElem?_take, if_pos (by omega)]
    congr 1; omega
theorem ins_blk {α : Type} {F l V : List α} {i m n s : Nat} (hF : ∀ x, x < n * s + m * s → F[x]? = if x < i * s then l[x]? else if x < i * s + m * s then V[x - i * s]? else l[x - m * s]?) {j : Nat} (hj : j < n + m) :
    (F.drop (j * s)).take s = if j < i then (l.drop (j * s)).take s else if j < i + m then (V.drop ((j - i) * s)).take s else (l.drop ((j - m) * s)).take s := by
  apply List.ext_getElem?
  intro t
  rw [blk_get]
  by_cases ht : t < s
  · rw [if_pos ht]
    have e0 : j * s + s ≤ n * s + m * s := by rw [← Nat.succ_mul, ← Nat.add_mul]; exact Nat.mul_le_mul_right _ hj
    rw [hF _ (by omega)]
    by_cases c1 : j < i
    · have e1 : j * s + s ≤ i * s := by rw [← Nat.succ_mul]; exact Nat.mul_le_mul_right _ c1
      rw [if_pos (by omega), if_pos c1, blk_get, if_pos ht]
    · have e1 : i * s ≤ j * s := Nat.mul_le_mul_right _ (by omega)
      rw [if_neg (by omega), if_neg c1]
      by_cases c2 : j < i + m
      · have e2 : j * s + s ≤ i * s + m * s := by rw [← Nat.succ_mul, ← Nat.add_mul]; exact Nat.mul_le_mul_right _ c2
        rw [if_pos (by omega), if_pos c2, blk_get, if_pos ht, Nat.sub_mul]
        congr 1; omega
      · have e2 : i * s + m * s ≤ j * s := by rw [← Nat.add_mul]; exact Nat.mul_le_mul_right _ (by omega)
        rw [if_neg (by omega), if_neg c2, blk_get, if_pos ht, Nat.sub_mul]
        congr 1; omega
  · rw [if_neg ht]
    split
    · rw [blk_get, if_neg ht]
    · split <;> rw [blk_get, if_neg ht]
theorem setCells_row (P : Program) {w : World} {b e : Nat} {cs : Array Value} (hb : w.heap[b]? = some (.cells cs e (0, 0))) {o : Nat} {vs : List Value} (ho : o + vs.length ≤ cs.size) (h1 : ∀ v ∈ vs, v.oneCell' = true) :
    w.setCells b o vs = w.setRow b (cs.toList.take o ++ vs ++ cs.toList.drop (o + vs.length)).toArray := by
  have a := run_storeCells_at P b o e vs 0 cs w hb (by omega) h1
  have c := run_storeCells_cells (P := P) b o vs 0 w (fun j hj => by
    have : cs[o + 0 + j]? = some cs[o + 0 + j] := Array.getElem?_eq_getElem (by omega)
    simp [World.cell?, hb]
    omega) (fun j hj => by simp [World.frozen?, hb]) h1
  simp only [Nat.add_zero] at a c
  rw [a] at c
  injection c with _ c
  exact c.symm
structure InsertSays (P : Program) (fn tS e s : Nat) (Z : Value) : Prop where
  enter : ∀ args w, (callFunc fn args).run P w = .ok (.enter fn args) w
  zs : Z.cells.size = s
  shift : ∀ (b n c i vb m vc : Nat) (cs vs : List Value) (w : World), i < n → 0 < m → n + m ≤ c → n + m ≤ 1073741824 → vb ≠ b → cs.length = n * s → vs.length = m * s →
    (∀ j v, cs[j]? = some v → w.cell? ⟨b, j, none⟩ = some v) → (∀ j, j < (n + m) * s → (w.cell? ⟨b, j, none⟩).isSome = true) → (∀ j, j < (n + m) * s → w.frozen? ⟨b, j, none⟩ = false) →
    (∀ j v, vs[j]? = some v → w.cell? ⟨vb, j, none⟩ = some v) → (∀ v ∈ cs, v.oneCell' = true) → (∀ v ∈ vs, v.oneCell' = true) →
    ∀ (tA tB : TypeId) (kA kB : Nat), w.shape? vb = some (tA, kA) → w.shape? b = some (tB, kB) → kB ≠ 0 → w.frozen? ⟨vb, 0, none⟩ = false → w.frozen? ⟨vb, kA, none⟩ = false →
    Calls P fn #[.slice (some ⟨b, 0, none⟩) n c, .int .i64 i, .slice (some ⟨vb, 0, none⟩) m vc] w fun e w' =>
      e = .returned (.slice (some ⟨b, 0, none⟩) (n + m) c) ∧ w' = (w.drew.setCells b ((i + m) * s) (cs.drop (i * s))).setCells b (i * s) vs
  fin : ∀ (a a2 : Option Addr) (n c m vc : Nat) (w w' : World) (y : Value), 0 < m → n ≤ c → n + m ≤ 1073741824 → (a = none → n = 0 ∧ c = 0) → a2.isSome = true →
    (∀ ty, (Builtin.append_ #[tS, tS] ty #[.slice a n c, .slice a2 m vc]).run P w = .ok y w') →
    Calls P fn #[.slice a n c, .int .i64 n, .slice a2 m vc] w fun e w'' => e = .returned y ∧ w'' = w'
  grow : ∀ (b n c i vb m vc : Nat) (cs vs : List Value) (w : World), i < n → 0 < m → n ≤ c → c < n + m → n + m ≤ 1073741824 → cs.length = n * s → vs.length = m * s →
    (∀ j v, cs[j]? = some v → w.cell? ⟨b, j, none⟩ = some v) → (∀ j v, vs[j]? = some v → w.cell? ⟨vb, j, none⟩ = some v) → (∀ v ∈ cs, v.oneCell' = true) → (∀ v ∈ vs, v.oneCell' = true) →
    Calls P fn #[.slice (some ⟨b, 0, none⟩) n c, .int .i64 i, .slice (some ⟨vb, 0, none⟩) m vc] w fun e' w' =>
      e' = .returned (.slice (some ⟨w.heap.size, 0, none⟩) (n + m) (grownCap w (n + m) c e)) ∧
      w' = (((w.alloc (.cells ((cs.take (i * s)).toArray ++ Builtin.zeroCells Z.cells (n + m - i) ++ Builtin.zeroCells Z.cells (grownCap w (n + m) c e - (n + m))) e)).drew.setCells w.heap.size (i * s) vs).drew).setCells w.heap.size ((i + m) * s) (cs.drop (i * s))
theorem insF_at (f g : Nat → V) (i m j : Nat) : insF f g i m j = if j < i then f j else if j < i + m then g (j - i) else f (j - m) := rfl
theorem insert_ok (hT : TabOk P T) {fn tS e : Nat} {Z : Value} {de : TyD} (hd : find e T = some de) (htS : find tS T = some (.slice e)) (hS : InsertSays P fn tS e (sz P e) Z) : EntryOK P T fn ⟨[0, 2], fun a G K => extInsert e a G K⟩ := by
  intro β PP X args xs K hX hA h Q hQ
  replace h : All PP (extInsert e args X.G K) := h
  unfold extInsert at h
  split at h
  · rename_i n i m e1 k1 f e2 k g hG
    replace h := all_must.1 h
    obtain ⟨he1, h⟩ := h
    replace h := all_must.1 h
    obtain ⟨he2, h⟩ := h
    replace h := all_must.1 h
    obtain ⟨hm, h⟩ := h
    replace h := all_must.1 h
    obtain ⟨hi0, h⟩ := h
    replace h := all_must.1 h
    obtain ⟨hin, h⟩ := h
    replace h := all_must.1 h
    obtain ⟨hro, h⟩ := h
    have he1 := Nat.eq_of_beq_eq_true he1
    have he2 := Nat.eq_of_beq_eq_true he2
    subst he1
    subst he2
    have hm : 0 < m := by simpa [ltN] using hm
    have hi0 : 0 ≤ i := by simpa [VM.leI] using hi0
    have hin : i ≤ (n : Int) := of_decide_eq_true hin
    have hro : n + m ≤ 1073741824 := of_decide_eq_true hro
    obtain ⟨q, rfl⟩ : ∃ q : Nat, i = q := ⟨i.toNat, by omega⟩
    have hqn : q ≤ n := by omega
    have hnat : natI (q : Int) = q := rfl
    rw [hnat] at h
    obtain ⟨x, xs1, rfl, hx, hxs1⟩ := relVs_cons.1 hA
    obtain ⟨xi, xs2, rfl, hxi, hxs2⟩ := relVs_cons.1 hxs1
    obtain ⟨xv, xs3, rfl, hxv, hxs3⟩ := relVs_cons.1 hxs2
    have hxs3 := relVs_nil.1 hxs3
    subst hxs3
    rw [rel_int] at hxi
    subst hxi
    have hr0 : X.reg 0 = .row e2 k1 f := by unfold Rx.reg; rw [hG]; rfl
    have hr1 : X.reg 1 = .row e2 k g := by unfold Rx.reg; rw [hG]; rfl
    have hlen : X.G.length = 2 := by rw [hG]; rfl
    have sub : ∀ (r n k : Nat) (f : Nat → V) (x : Value), X.reg r = .row e2 k f → Rel P T X (.sub r 0 n) x → ∃ a cap, x = .slice a n cap ∧ n ≤ cap ∧ (0 < n → a.isSome = true) ∧ n ≤ k ∧ RowOk P T X r e2 k f false ∧
        match X.blk r with | none => a = none ∧ cap = 0 | some b => (0 < cap → a = some ⟨b, 0, none⟩) ∧ cap * sz P e2 ≤ bsize X.w b := by
      intro r n k f x hreg hx
      have hlt := Rx.reg_lt (X := X) (r := r) (by rw [hreg]; simp)
      have hok := hX.reg r hlt
      unfold RegOk at hok
      rw [hreg] at hok
      obtain ⟨a, cap, rfl, hnc, hsome, hs⟩ := rel_sub.1 hx
      rcases hs with hd | ⟨e', k', hl, hle, hb⟩
      · exact absurd hd.2 (by rw [hreg]; simp)
      · rw [hreg] at hl
        obtain ⟨rfl, rfl⟩ := hl
        refine ⟨a, cap, rfl, hnc, hsome, by omega, hok, ?_⟩
        cases hb2 : X.blk r with
        | none => simpa [hb2] using hb
        | some b => simpa [hb2] using hb
    obtain ⟨a, cap, rfl, hnc, hsome, hnk, hrow0, hsub0⟩ := sub 0 n k1 f x hr0 hx
    obtain ⟨a2, cap2, rfl, hnc2, hsome2, hmk, hrow1, hsub1⟩ := sub 1 m k g xv hr1 hxv
    obtain ⟨hde, hfit1, hblk1⟩ := hrow1
    rcases hblk1 with ⟨_, k0⟩ | ⟨vb, cv, elv, fzv, capv, v1, v2, v3, v4, v5, v6, v7⟩
    · omega
    obtain ⟨rfl, rfl⟩ := v3 rfl
    simp only [v1] at hsub1
    have ha2 := hsub1.1 (by omega)
    subst ha2
    obtain ⟨hde0, hfit0, hblk0⟩ := hrow0
    have hfit : ∀ j, j < n + m → T.fits elv (insF f g q m j) = true := by
      intro j hj
      rw [insF_at]
      split
      · exact hfit0 j (by omega)
      · split
        · exact hfit1 _ (by omega)
        · exact hfit0 _ (by omega)
    unfold Runs
    rw [hS.enter]
    simp only
    by_cases hqe : q = n
    · subst hqe
      have hap := append_ok (PP := fun p : V × List Reg => p = (.sub 2 0 (q + m), [.gone, .row elv k g, .row elv (q + m) (joinF f g q)])) (β := V × List Reg) (K := fun v G => .ret (v, G)) (t := tS) (ty := tS) hT hX hx hxv (by
        unfold appendE
        rw [htS, hG]
        exact all_must.2 ⟨Nat.beq_refl _, all_must.2 ⟨Nat.beq_refl _, all_must.2 ⟨(show leN (addN q m) room = true from decide_eq_true hro), rfl⟩⟩⟩)
      obtain ⟨v, Y, y, e1, e2, e3, e4, e5⟩ := hap
      replace e1 : (v, Y.G) = (.sub 2 0 (q + m), [.gone, .row elv k g, .row elv (q + m) (joinF f g q)]) := e1
      obtain ⟨ev, eG⟩ := Prod.mk.inj e1
      subst ev
      refine (hS.fin a (some ⟨vb, 0, none⟩) q cap m cap2 X.w Y.w y hm hnc hro ?_ rfl (fun ty => ?_)).mono ?_
      · intro ha
        cases hb : X.blk 0 with
        | none =>
          rw [hb] at hsub0
          rcases hblk0 with ⟨_, k0⟩ | ⟨b, _, _, _, _, b1, _⟩
          · exact ⟨by omega, hsub0.2⟩
          · rw [hb] at b1; cases b1
        | some b =>
          rw [hb] at hsub0
          rcases Nat.eq_zero_or_pos cap with h0 | h0
          · exact ⟨by omega, h0⟩
          · have := hsub0.1 h0
            rw [ha] at this
            cases this
      · exact e5
      · rintro e' w' ⟨rfl, rfl⟩
        have hsame : RowsSame Y.G [.gone, .row elv k g, .row elv (q + m) (insF f g q m)] := by
          rw [eG]
          refine RowsSame.cons (RowSame.refl _) (RowsSame.cons (RowSame.refl _) (RowsSame.cons ⟨rfl, rfl, fun j hj => ?_⟩ RowsSame.nil))
          rw [insF_at]
          split
          · exact joinF_lt (by assumption)
          · exact joinF_ge (by omega)
        obtain ⟨r1, r2, r3⟩ := rows_ok e2 hsame
        exact hQ _ y { Y with G := [.gone, .row elv k g, .row elv (q + m) (insF f g q m)] } h r1 (r3 X e3) (rel_mono r2 e4)
    · have hqlt : q < n := by omega
      rcases hblk0 with ⟨_, k0⟩ | ⟨b, cs, el, fz, capb, b1, b2, b3, b4, b5, b6, b7⟩
      · omega
      obtain ⟨rfl, rfl⟩ := b3 rfl
      simp only [b1] at hsub0
      have ha := hsub0.1 (by omega)
      subst ha
      have hbs : cap * sz P el ≤ cs.size := by
        have := hsub0.2
        unfold bsize at this
        rw [b2] at this
        exact this
      have hvb : vb ≠ b := by
        intro hh
        subst hh
        rcases hX.inj 0 1 vb (by decide) b1 v1 with h1 | h1
        · rw [hr0] at h1; cases h1
        · rw [hr1] at h1; cases h1
      have hpos : 0 < sz P el := (hT _ _ hd).pos
      have hcl : (cs.toList.take (n * sz P el)).length = n * sz P el := by
        rw [List.length_take, Array.length_toList]
        exact Nat.min_eq_left (Nat.le_trans (Nat.mul_le_mul_right _ hnc) hbs)
      have hvl : (cv.toList.take (m * sz P el)).length = m * sz P el := by
        rw [List.length_take, Array.length_toList, v5]
        exact Nat.min_eq_left (Nat.mul_le_mul_right _ (by omega))
      have hcs : ∀ j v, (cs.toList.take (n * sz P el))[j]? = some v → X.w.cell? ⟨b, j, none⟩ = some v := by
        intro j v hj
        rw [List.getElem?_take] at hj
        split at hj
        · simp [World.cell?, b2]; simpa using hj
        · cases hj
      have hvs : ∀ j v, (cv.toList.take (m * sz P el))[j]? = some v → X.w.cell? ⟨vb, j, none⟩ = some v := by
        intro j v hj
        rw [List.getElem?_take] at hj
        split at hj
        · simp [World.cell?, v2]; simpa using hj
        · cases hj
      have one : ∀ (n : Nat) (f : Nat → V) (cs : List Value), (∀ i, i < n → T.fits el (f i) = true) → (∀ i, i < n → RelF P T X (f i) ((cs.drop (i * sz P el)).take (sz P el))) → ∀ v ∈ cs.take (n * sz P el), v.oneCell' = true := by
        intro n f cs hf hr v hv
        obtain ⟨t, ht, rfl⟩ := List.getElem_of_mem hv
        have hlt : t < n * sz P el := by rw [List.length_take] at ht; omega
        have hdiv : t / sz P el < n := Nat.div_lt_of_lt_mul (by rw [Nat.mul_comm]; exact hlt)
        have := relF_one (fits_shape (hf _ hdiv)) (hr _ hdiv)
        refine this _ ?_
        refine List.mem_of_getElem? (i := t % sz P el) ?_
        rw [blk_get, if_pos (Nat.mod_lt _ hpos), show t / sz P el * sz P el + t % sz P el = t by rw [Nat.mul_comm]; exact Nat.div_add_mod t (sz P el)]
        rw [List.getElem_take, List.getElem?_eq_getElem]
      have h1c := one n f cs.toList (fun i hi => hfit0 i (by omega)) (fun i hi => b7 i (by omega))
      have h1v := one m g cv.toList (fun i hi => hfit1 i (by omega)) (fun i hi => v7 i (by omega))
      have hrel : ∀ (Y : Rx) (F : List Value), Ext X Y → (∀ x, x < n * sz P el + m * sz P el → F[x]? = if x < q * sz P el then cs.toList[x]? else if x < q * sz P el + m * sz P el then (cv.toList.take (m * sz P el))[x - q * sz P el]? else cs.toList[x - m * sz P el]?) →
          ∀ j, j < n + m → RelF P T Y (insF f g q m j) ((F.drop (j * sz P el)).take (sz P el)) := by
        intro Y F hE hF j hj
        rw [ins_blk hF hj, insF_at]
        split
        · exact relF_mono hE (b7 j (by omega))
        · split
          · rw [blk_take (by omega)]
            exact relF_mono hE (v7 _ (by omega))
          · exact relF_mono hE (b7 _ (by omega))
      have hmul : (n + m) * sz P el = n * sz P el + m * sz P el := Nat.add_mul _ _ _
      have hmul2 : (q + m) * sz P el = q * sz P el + m * sz P el := Nat.add_mul _ _ _
      have hIN : q * sz P el ≤ n * sz P el := Nat.mul_le_mul_right _ hqn
      have hdl : ((cs.toList.take (n * sz P el)).drop (q * sz P el)).length = n * sz P el - q * sz P el := by rw [List.length_drop, hcl]
      have hbX := hX.blk_lt b1 (by rw [hr0]; simp)
      by_cases hroom : n + m ≤ cap
      · -- in place
        have hNM : n * sz P el + m * sz P el ≤ cs.size := by rw [← hmul]; exact Nat.le_trans (Nat.mul_le_mul_right _ hroom) hbs
        refine (hS.shift b n cap q vb m cap2 _ _ X.w hqlt hm hroom hro hvb hcl hvl hcs (fun j hj => ?_) (fun j hj => by simp [World.frozen?, b2]) hvs h1c h1v el el cv.size cs.size (by simp [World.shape?, v2]) (by simp [World.shape?, b2]) (by have := Nat.mul_pos (show 0 < n + m by omega) hpos; omega) (by simp [World.frozen?, v2]) (by simp [World.frozen?, v2])).mono ?_
        · have : cs[j]? = some cs[j] := Array.getElem?_eq_getElem (by omega)
          simp [World.cell?, b2, this]
        · rintro e' w' ⟨rfl, hw'⟩
          have e1 := setCells_row P (w := X.w.drew) b2 (o := (q + m) * sz P el) (vs := (cs.toList.take (n * sz P el)).drop (q * sz P el)) (by rw [hdl, hmul2]; omega) (fun v hv => h1c v (List.mem_of_mem_drop hv))
          rw [e1] at hw'
          have hheap1 := setRow_heap X.w.drew b cs (cs.toList.take ((q + m) * sz P el) ++ (cs.toList.take (n * sz P el)).drop (q * sz P el) ++ cs.toList.drop ((q + m) * sz P el + ((cs.toList.take (n * sz P el)).drop (q * sz P el)).length)).toArray el (0, 0) b2
          have hsz1 : (cs.toList.take ((q + m) * sz P el) ++ (cs.toList.take (n * sz P el)).drop (q * sz P el) ++ cs.toList.drop ((q + m) * sz P el + ((cs.toList.take (n * sz P el)).drop (q * sz P el)).length)).toArray.size = cs.size := by
            rw [List.size_toArray, List.length_append, List.length_append, List.length_take, List.length_drop (l := cs.toList), hdl, Array.length_toList, Nat.min_eq_left (by rw [hmul2]; omega), hmul2]
            omega
          have e2 := setCells_row P hheap1 (o := q * sz P el) (vs := cv.toList.take (m * sz P el)) (by rw [hvl, hsz1]; omega) h1v
          rw [e2] at hw'
          have hheap2 := setRow_heap _ b _ ((cs.toList.take ((q + m) * sz P el) ++ (cs.toList.take (n * sz P el)).drop (q * sz P el) ++ cs.toList.drop ((q + m) * sz P el + ((cs.toList.take (n * sz P el)).drop (q * sz P el)).length)).toArray.toList.take (q * sz P el) ++ cv.toList.take (m * sz P el) ++ (cs.toList.take ((q + m) * sz P el) ++ (cs.toList.take (n * sz P el)).drop (q * sz P el) ++ cs.toList.drop ((q + m) * sz P el + ((cs.toList.take (n * sz P el)).drop (q * sz P el)).length)).toArray.toList.drop (q * sz P el + (cv.toList.take (m * sz P el)).length)).toArray el (0, 0) hheap1
          rw [← hw'] at hheap2
          have hother : ∀ b', b' ≠ b → w'.heap[b']? = X.w.heap[b']? := by
            intro b' hne
            rw [hw', setRow_other _ _ _ _ hne, setRow_other _ _ _ _ hne]
            rfl
          have hsz2 : ∀ (R : Array Value), w'.heap[b]? = some (.cells R el (0, 0)) → R.size = cs.size := by
            intro R hR
            rw [hheap2] at hR
            injection hR with hR
            injection hR with hR
            rw [← hR, List.size_toArray, List.length_append, List.length_append, List.length_take, List.length_drop (i := q * sz P el + (cv.toList.take (m * sz P el)).length), Array.length_toList, hsz1, hvl, Nat.min_eq_left (by omega)]
            omega
          obtain ⟨R, hR⟩ : ∃ R, w'.heap[b]? = some (.cells R el (0, 0)) := ⟨_, hheap2⟩
          have hRs := hsz2 R hR
          obtain ⟨m1, m2⟩ := new_ok (P := P) (T := T) hX (ro := some 0) (g := .row el (n + m) (insF f g q m)) (b' := some b) (w' := w') (fun r hr => by cases hr; exact ⟨by omega, by rw [hr0]; trivial⟩) (by rw [hw']; rfl) (by rw [hw']; rfl) (by rw [hw']; rfl) (by rw [hw']; simp)
            (fun b' _ hne => hother b' (fun hh => hne 0 rfl (by rw [b1, hh]))) (fun b' => by
              by_cases hh : b' = b
              · subst hh
                unfold bsize
                rw [hR, b2]
                simp only
                omega
              · unfold bsize
                rw [hother b' hh]
                exact Nat.le_refl _) (fun k hk => by cases hk; exact .inr ⟨0, rfl, b1⟩)
            (fun Y hY hE hb hr => by
              unfold RegOk
              rw [hr]
              refine ⟨⟨_, hd⟩, hfit, .inr ⟨b, R, el, (0, 0), capb, hb, by rw [hY]; exact hR, fun _ => ⟨rfl, rfl⟩, (by intro h; cases h), by rw [hRs]; exact b5, by
                have := Nat.le_of_mul_le_mul_right (Nat.le_trans hbs (Nat.le_of_eq b5)) hpos
                omega, hrel Y R.toList hE ?_⟩⟩
              intro x hx
              rw [hheap2] at hR
              injection hR with hR
              injection hR with hR
              rw [← hR]
              simp only [hmul2]
              exact ins_cells hIN (by rw [Array.length_toList]; exact hNM) hvl hx)
          refine hQ _ _ ⟨w', goneAt X.G (some 0) ++ [.row el (n + m) (insF f g q m)], X.ρ ++ [some b], X.S⟩ (by rw [hG]; exact h) m1 m2 ?_
          have := (rel_sub (P := P) (T := T) (X := ⟨w', goneAt X.G (some 0) ++ [.row el (n + m) (insF f g q m)], X.ρ ++ [some b], X.S⟩) (r := X.G.length) (off := 0) (n := n + m) (x := .slice (some ⟨b, 0, none⟩) (n + m) cap)).2 ⟨_, cap, rfl, hroom, by simp, .inr ⟨el, n + m, by rw [reg_new]; exact ⟨rfl, rfl⟩, by omega, ?_⟩⟩
          · rw [hlen] at this; exact this
          · have hbk : (⟨w', goneAt X.G (some 0) ++ [.row el (n + m) (insF f g q m)], X.ρ ++ [some b], X.S⟩ : Rx).blk X.G.length = some b := by
              show (X.ρ ++ [some b]).getD X.G.length none = _
              rw [blk_snoc hX, if_pos rfl]
            rw [hbk]
            refine ⟨fun _ => by simp, ?_⟩
            show (0 + cap) * sz P el ≤ bsize w' b
            unfold bsize
            rw [hR]
            simp only [Nat.zero_add]
            omega
      · -- a new row
        have hGn : n + m ≤ grownCap X.w (n + m) cap el := grownCap_ge X.w _ _ _
        refine (hS.grow b n cap q vb m cap2 _ _ X.w hqlt hm hnc (by omega) hro hcl hvl hcs hvs h1c h1v).mono ?_
        generalize grownCap X.w (n + m) cap el = gc at hGn ⊢
        obtain ⟨ROW, hROW⟩ : ∃ ROW : Array Value, ROW = ((cs.toList.take (n * sz P el)).take (q * sz P el)).toArray ++ Builtin.zeroCells Z.cells (n + m - q) ++ Builtin.zeroCells Z.cells (gc - (n + m)) := ⟨_, rfl⟩
        rw [← hROW]
        have hRs : ROW.size = gc * sz P el := by
          rw [hROW]
          simp only [Array.size_append, List.size_toArray, size_zeroCells, hS.zs]
          rw [List.length_take, hcl, Nat.min_eq_left hIN, ← Nat.add_mul, ← Nat.add_mul]
          congr 1; omega
        have hRp : ∀ x, x < q * sz P el → ROW.toList[x]? = cs.toList[x]? := by
          intro x hx
          have hl : ((cs.toList.take (n * sz P el)).take (q * sz P el)).length = q * sz P el := by rw [List.length_take, hcl, Nat.min_eq_left hIN]
          rw [hROW]
          simp only [Array.toList_append, List.append_assoc]
          rw [List.getElem?_append_left (by rw [hl]; exact hx), List.getElem?_take, if_pos hx, List.getElem?_take, if_pos (by omega)]
        have hgs : n * sz P el + m * sz P el ≤ ROW.size := by rw [hRs, ← hmul]; exact Nat.mul_le_mul_right _ hGn
        rintro e' w' ⟨rfl, hw'⟩
        have hN0 : (X.w.alloc (.cells ROW el)).drew.heap[X.w.heap.size]? = some (.cells ROW el (0, 0)) := heap_push_new (w := X.w) rfl
        have e1 := setCells_row P hN0 (o := q * sz P el) (vs := cv.toList.take (m * sz P el)) (by rw [hvl]; omega) h1v
        rw [e1] at hw'
        have hN1 := setRow_heap _ X.w.heap.size _ (ROW.toList.take (q * sz P el) ++ cv.toList.take (m * sz P el) ++ ROW.toList.drop (q * sz P el + (cv.toList.take (m * sz P el)).length)).toArray el (0, 0) hN0
        have hs1 : (ROW.toList.take (q * sz P el) ++ cv.toList.take (m * sz P el) ++ ROW.toList.drop (q * sz P el + (cv.toList.take (m * sz P el)).length)).toArray.size = ROW.size := by
          rw [List.size_toArray, List.length_append, List.length_append, List.length_take, List.length_drop, hvl, Array.length_toList, Nat.min_eq_left (by omega)]
          omega
        obtain ⟨W1, hW1⟩ : ∃ W1, W1 = (X.w.alloc (.cells ROW el)).drew.setRow X.w.heap.size (ROW.toList.take (q * sz P el) ++ cv.toList.take (m * sz P el) ++ ROW.toList.drop (q * sz P el + (cv.toList.take (m * sz P el)).length)).toArray := ⟨_, rfl⟩
        rw [← hW1] at hw' hN1
        have hN2 : W1.drew.heap[X.w.heap.size]? = some (.cells (ROW.toList.take (q * sz P el) ++ cv.toList.take (m * sz P el) ++ ROW.toList.drop (q * sz P el + (cv.toList.take (m * sz P el)).length)).toArray el (0, 0)) := hN1
        have e2 := setCells_row P hN2 (o := (q + m) * sz P el) (vs := (cs.toList.take (n * sz P el)).drop (q * sz P el)) (by rw [hdl, hs1, hmul2]; omega) (fun v hv => h1c v (List.mem_of_mem_drop hv))
        rw [e2] at hw'
        have hN3 := setRow_heap _ X.w.heap.size _ ((ROW.toList.take (q * sz P el) ++ cv.toList.take (m * sz P el) ++ ROW.toList.drop (q * sz P el + (cv.toList.take (m * sz P el)).length)).toArray.toList.take ((q + m) * sz P el) ++ (cs.toList.take (n * sz P el)).drop (q * sz P el) ++ (ROW.toList.take (q * sz P el) ++ cv.toList.take (m * sz P el) ++ ROW.toList.drop (q * sz P el + (cv.toList.take (m * sz P el)).length)).toArray.toList.drop ((q + m) * sz P el + ((cs.toList.take (n * sz P el)).drop (q * sz P el)).length)).toArray el (0, 0) hN2
        rw [← hw'] at hN3
        have hother : ∀ b', b' < X.w.heap.size → w'.heap[b']? = X.w.heap[b']? := by
          intro b' hb'
          rw [hw', setRow_other _ _ _ _ (by omega)]
          show W1.heap[b']? = _
          rw [hW1, setRow_other _ _ _ _ (by omega)]
          exact heap_push_old (w := X.w) (o := .cells ROW el) rfl hb'
        have hsize : X.w.heap.size ≤ w'.heap.size := by
          have := (Array.getElem?_eq_some_iff.1 hN3).1
          omega
        obtain ⟨R, hR, hRR⟩ : ∃ R, w'.heap[X.w.heap.size]? = some (.cells R el (0, 0)) ∧ R.toList = ((ROW.toList.take (q * sz P el) ++ cv.toList.take (m * sz P el) ++ ROW.toList.drop (q * sz P el + (cv.toList.take (m * sz P el)).length)).take (q * sz P el + m * sz P el) ++ (cs.toList.take (n * sz P el)).drop (q * sz P el) ++ (ROW.toList.take (q * sz P el) ++ cv.toList.take (m * sz P el) ++ ROW.toList.drop (q * sz P el + (cv.toList.take (m * sz P el)).length)).drop (q * sz P el + m * sz P el + ((cs.toList.take (n * sz P el)).drop (q * sz P el)).length)) := ⟨_, hN3, by simp only [hmul2]⟩
        have hRsz : R.size = gc * sz P el := by
          rw [← Array.length_toList, hRR, List.length_append, List.length_append, List.length_take, List.length_drop (l := _ ++ _), hdl, ← hRs]
          have := hs1
          rw [List.size_toArray] at this
          rw [this, Nat.min_eq_left (by omega)]
          omega
        obtain ⟨m1, m2⟩ := new_ok (P := P) (T := T) hX (ro := some 0) (g := .row el (n + m) (insF f g q m)) (b' := some X.w.heap.size) (w' := w') (fun r hr => by cases hr; exact ⟨by omega, by rw [hr0]; trivial⟩) (by rw [hw', hW1]; rfl) (by rw [hw', hW1]; rfl) (by rw [hw', hW1]; rfl) hsize
          (fun b' hb' _ => hother b' hb') (fun b' => by
            by_cases hh : b' < X.w.heap.size
            · unfold bsize
              rw [hother b' hh]
              exact Nat.le_refl _
            · unfold bsize
              rw [Array.getElem?_eq_none (by omega)]
              exact Nat.zero_le _) (fun k hk => by cases hk; exact .inl (Nat.le_refl _))
          (fun Y hY hE hb hr => by
            unfold RegOk
            rw [hr]
            refine ⟨⟨_, hd⟩, hfit, .inr ⟨X.w.heap.size, R, el, (0, 0), gc, hb, by rw [hY]; exact hR, fun _ => ⟨rfl, rfl⟩, (by intro h; cases h), hRsz, hGn, hrel Y R.toList hE ?_⟩⟩
            intro x hx
            rw [hRR]
            exact ins_cells2 hIN (by rw [Array.length_toList]; exact Nat.le_trans (Nat.mul_le_mul_right _ hnc) hbs) (by rw [Array.length_toList]; exact hgs) hvl hRp hx)
        refine hQ _ _ ⟨w', goneAt X.G (some 0) ++ [.row el (n + m) (insF f g q m)], X.ρ ++ [some X.w.heap.size], X.S⟩ (by rw [hG]; exact h) m1 m2 ?_
        have := sub_new (P := P) (T := T) hX (w' := w') (ro := some 0) (e := el) (n := n + m) (m := n + m) (cap := gc) (f := insF f g q m) (Nat.le_refl _) hGn (by
          unfold bsize
          rw [hR]
          simp only
          omega)
        rw [hlen] at this
        exact this
  · exact (all_fail h).elim
end
end Go.VM
namespace Go.Proofs
open Go.Shelf Go.RowKit Go.Lib Go.Ins
set_option maxHeartbeats 4000000 in
set_option maxRecDepth 100000 in
theorem Try.ins_shift (b n c i vb m vc : Nat) (cs vs : List Value) (w : World) (hi : i < n) (hm : 0 < m) (hroom : n + m ≤ c) (hc63 : n + m ≤ 1073741824) (hvb : vb ≠ b)
    (hcl : cs.length = n * 5) (hvl : vs.length = m * 5)
    (hcs : ∀ j v, cs[j]? = some v → w.cell? ⟨b, j, none⟩ = some v) (hsp : ∀ j, j < (n + m) * 5 → (w.cell? ⟨b, j, none⟩).isSome = true) (hfz : ∀ j, j < (n + m) * 5 → w.frozen? ⟨b, j, none⟩ = false)
    (hvs : ∀ j v, vs[j]? = some v → w.cell? ⟨vb, j, none⟩ = some v) (h1c : ∀ v ∈ cs, v.oneCell' = true) (h1v : ∀ v ∈ vs, v.oneCell' = true)
    (tA tB : TypeId) (kA kB : Nat) (hsa : w.shape? vb = some (tA, kA)) (hsb : w.shape? b = some (tB, kB)) (hkB : kB ≠ 0) (hfa : w.frozen? ⟨vb, 0, none⟩ = false) (hfe : w.frozen? ⟨vb, kA, none⟩ = false) :
    Calls Try.prog 115 #[.slice (some ⟨b, 0, none⟩) n c, .int .i64 i, .slice (some ⟨vb, 0, none⟩) m vc] w fun e w' =>
      e = .returned (.slice (some ⟨b, 0, none⟩) (n + m) c) ∧ w' = (w.drew.setCells b ((i + m) * 5) (cs.drop (i * 5))).setCells b (i * 5) vs := by
  have hz1 : ¬ ((m : Int) = 0) := by omega
  have hz2 : ¬ ((i : Int) = (n : Int)) := by omega
  have hsz : (Try.prog.info? 38).map (·.size) = some 5 := by kernel_rfl
  have hov : ∀ lb cb, (callFunc 137 #[.slice (some ⟨vb, 0, none⟩) m vc, .slice (some ⟨b, (i + m) * 5, none⟩) lb cb]).run Try.prog w = .ok (.value (.bool false)) w := fun lb cb => by
    rw [run_callFunc_extern Try.func137 (by kernel_rfl) (by kernel_rfl) (by kernel_rfl) (e := Extern.SlicesOverlaps.overlaps #[36, 36] #[4]) (by kernel_rfl),
      Lib.run_overlaps_apart w 36 4 38 Try.underlying36 5 Try.sizeOf38 ⟨vb, 0, none⟩ ⟨b, (i + m) * 5, none⟩ m vc lb cb hvb tA tB kA kB hsa hsb hkB hfa hfe]
    rfl
  have hdl : (cs.drop (i * 5)).length = (n - i) * 5 := by rw [List.length_drop, hcl, Nat.sub_mul]
  have mixed : Try.prog.follows .mixedOrders = true := by kernel_rfl
  have hw1 : IntKind.i64.wrap ((i : Int) + (m : Int)) = (i : Int) + (m : Int) := by rw [IntKind.wrap_i64]; omega
  have hb1 : (0 : Int) ≤ (i : Int) + (m : Int) := by omega
  have hin : i ≤ n := by omega
  have htn : ((i : Int) + (m : Int)).toNat = i + m := by omega
  have hb2 : ¬ (c = i + m) := by omega
  have hb3 : (i : Int) ≤ (n : Int) + (m : Int) := by omega
  have hb4 : ¬ (c = i) := by omega
  have hmin : Nat.min (n + m - i) (n + m - (i + m)) = n - i := by simp only [Nat.min_def]; split <;> omega
  have hmin2 : Nat.min m (n + m - i) = m := by simp only [Nat.min_def]; split <;> omega
  have hcp1 : ∀ ty dc sc, (Builtin.copy_ #[36, 36] ty #[.slice (some ⟨b, (i + m) * 5, none⟩) (n + m - (i + m)) dc, .slice (some ⟨b, i * 5, none⟩) (n + m - i) sc]).run Try.prog w.drew = .ok (goInt (n - i : Nat)) (w.drew.setCells b ((i + m) * 5) (cs.drop (i * 5))) := fun ty dc sc => by
    have := run_copy_k (P := Try.prog) w.drew 36 36 ty 38 b ((i + m) * 5) (n + m - (i + m)) dc ⟨b, i * 5, none⟩ (n + m - i) sc 5 (cs.drop (i * 5)) Try.underlying36 hsz (by rw [hdl, hmin])
      (fun j v hj => by rw [Addr.add_lit]; exact hcs (i * 5 + j) v (by rwa [List.getElem?_drop] at hj))
      (fun j hj => hsp _ (by rw [hdl] at hj; omega)) (fun j hj => hfz _ (by rw [hdl] at hj; omega)) (fun v hv => h1c v (List.mem_of_mem_drop hv))
    rw [hmin] at this
    exact this
  obtain ⟨W1, hW1⟩ : ∃ W1, W1 = w.drew.setCells b ((i + m) * 5) (cs.drop (i * 5)) := ⟨_, rfl⟩
  have hsp1 : ∀ k, k < (n + m) * 5 → (W1.cell? ⟨b, k, none⟩).isSome = true := fun k hk => by
    rw [hW1]
    exact isSome_setCells b (cs.drop (i * 5)) ((i + m) * 5) w.drew (fun j hj => hsp ((i + m) * 5 + j) (by rw [hdl] at hj; omega)) k (hsp k hk)
  have hcp2 : ∀ (W : World), (∀ x, W.cell? x = W1.cell? x) → (∀ x, W.frozen? x = W1.frozen? x) → ∀ ty dc, (Builtin.copy_ #[36, 36] ty #[.slice (some ⟨b, i * 5, none⟩) (n + m - i) dc, .slice (some ⟨vb, 0, none⟩) m vc]).run Try.prog W = .ok (goInt (m : Nat)) (W.setCells b (i * 5) vs) := fun W hWc hWf ty dc => by
    have := run_copy_k (P := Try.prog) W 36 36 ty 38 b (i * 5) (n + m - i) dc ⟨vb, 0, none⟩ m vc 5 vs Try.underlying36 hsz (by rw [hvl, hmin2])
      (fun j v hj => by
        rw [Addr.add_lit, Nat.zero_add, hWc, hW1, World.cell?_setCells_out b _ _ _ _ (fun h _ => absurd h hvb)]
        exact hvs j v hj)
      (fun j hj => by rw [hWc]; exact hsp1 _ (by rw [hvl] at hj; omega)) (fun j hj => by rw [hWf, hW1, World.frozen?_setCells]; exact hfz _ (by rw [hvl] at hj; omega)) h1v
    rw [hmin2] at this
    exact this
  rw [← hW1] at hcp1
  go_enter Try.func115, Try.ntmps115
  go_wp2_with (simp only [hov])
  go_region_law_o (refine step_copy_runI rfl _ _ 36 36 rfl _ _ (by simp [Act.eval, Act.put]) (by simp [Act.eval, Act.put]) (hcp1 _ _ _) ?_)
  go_wp2_with (at_builtin; refine wpList_copy_runI _ rfl _ _ 36 36 rfl _ _ rfl rfl (hcp2 _ (fun _ => rfl) (fun _ => rfl) _ _) ?_)
  go_ret
  first | exact ⟨rfl, rfl⟩ | exact ⟨rfl, by rw [hW1]⟩
set_option maxHeartbeats 4000000 in
set_option maxRecDepth 100000 in
theorem Try.ins_end (a a2 : Option Addr) (n c m vc : Nat) (w w' : World) (y : Value) (hm : 0 < m) (hnc : n ≤ c) (hc63 : n + m ≤ 1073741824) (hnil : a = none → n = 0 ∧ c = 0) (ha2 : a2.isSome = true)
    (hrun : ∀ ty, (Builtin.append_ #[36, 36] ty #[.slice a n c, .slice a2 m vc]).run Try.prog w = .ok y w') :
    Calls Try.prog 115 #[.slice a n c, .int .i64 n, .slice a2 m vc] w fun e w'' => e = .returned y ∧ w'' = w' := by
  have hz1 : ¬ ((m : Int) = 0) := by omega
  have mixed : Try.prog.follows .mixedOrders = true := by kernel_rfl
  obtain ⟨ad, rfl⟩ := Option.isSome_iff_exists.1 ha2
  cases a with
  | none =>
    obtain ⟨rfl, rfl⟩ := hnil rfl
    go_enter Try.func115, Try.ntmps115
    go_wp2_with (at_builtin; refine Lib.wpList_append_run _ rfl _ _ _ _ rfl _ _ rfl rfl _ _ (hrun _) ?_)
    go_ret
    exact ⟨rfl, rfl⟩
  | some a =>
    obtain ⟨ab, ao, asp⟩ := a
    go_enter Try.func115, Try.ntmps115
    go_wp2_with (at_builtin; refine Lib.wpList_append_run _ rfl _ _ _ _ rfl _ _ rfl rfl _ _ (hrun _) ?_)
    all_goals (go_ret; exact ⟨rfl, rfl⟩)
set_option maxHeartbeats 4000000 in
set_option maxRecDepth 100000 in
theorem Try.ins_grow (b n c i vb m vc : Nat) (cs vs : List Value) (w : World) (hi : i < n) (hm : 0 < m) (hnc : n ≤ c) (hroom : c < n + m) (hbig : (n + m) * 40 ≤ 140737488355328)
    (hcl : cs.length = n * 5) (hvl : vs.length = m * 5)
    (hcs : ∀ j v, cs[j]? = some v → w.cell? ⟨b, j, none⟩ = some v)
    (hvs : ∀ j v, vs[j]? = some v → w.cell? ⟨vb, j, none⟩ = some v) (h1c : ∀ v ∈ cs, v.oneCell' = true) (h1v : ∀ v ∈ vs, v.oneCell' = true) :
    Calls Try.prog 115 #[.slice (some ⟨b, 0, none⟩) n c, .int .i64 i, .slice (some ⟨vb, 0, none⟩) m vc] w fun e w' =>
      e = .returned (.slice (some ⟨w.heap.size, 0, none⟩) (n + m) (grownCap w (n + m) c 38)) ∧
      w' = (((w.alloc (.cells ((cs.take (i * 5)).toArray ++ Builtin.zeroCells (Value.agg #[.int .i64 0, .int .i64 0, .int .i64 0, .int .i64 0, .int .i64 0]).cells (n + m - i) ++ Builtin.zeroCells (Value.agg #[.int .i64 0, .int .i64 0, .int .i64 0, .int .i64 0, .int .i64 0]).cells (grownCap w (n + m) c 38 - (n + m))) 38)).drew.setCells w.heap.size (i * 5) vs).drew).setCells w.heap.size ((i + m) * 5) (cs.drop (i * 5)) := by
  have mixed : Try.prog.follows .mixedOrders = true := by kernel_rfl
  obtain ⟨i0, hi0, hz0, hzs, hzb⟩ := info_parts (P := Try.prog) (show (Try.prog.info? 38).map (fun i => (i.zero, i.size, i.bytes)) = some (some (Value.agg #[.int .i64 0, .int .i64 0, .int .i64 0, .int .i64 0, .int .i64 0]), 5, 40) by kernel_rfl)
  generalize hZ : (Value.agg #[.int .i64 0, .int .i64 0, .int .i64 0, .int .i64 0, .int .i64 0]) = Z at *
  have hZs : Z.cells.size = 5 := by rw [← hZ]; rfl
  have hz1 : ¬ ((m : Int) = 0) := by omega
  have hz2 : ¬ ((i : Int) = (n : Int)) := by omega
  have hz3 : (c : Int) < (n : Int) + (m : Int) := by omega
  have hsz : (Try.prog.info? 38).map (·.size) = some 5 := by rw [hi0]; simp [hzs]
  have hbw : b < w.heap.size := block_lt_of_cell (hcs 0 _ (List.getElem?_eq_getElem (by omega)))
  have hvw : vb < w.heap.size := block_lt_of_cell (hvs 0 _ (List.getElem?_eq_getElem (by omega)))
  have hkk : (n : Int) + (m : Int) - (i : Int) = ((n + m - i : Nat) : Int) := by omega
  have hik : i + (n + m - i) = n + m := by omega
  have hold : (Builtin.firstCells i0.size i (.slice (some ⟨b, 0, none⟩) i c)).run Try.prog w.drew = .ok (cs.take (i * 5)).toArray w.drew := by
    rw [hzs]
    exact run_firstCells_some w.drew 5 i ⟨b, 0, none⟩ i c (cs.take (i * 5)) (by rw [List.length_take]; omega) (fun j v hj => by
      rw [Addr.add_lit, Nat.zero_add]
      rw [List.getElem?_take] at hj
      split at hj
      · exact hcs j v hj
      · cases hj)
  have hrz : ∀ ty, (Builtin.append_ #[36, 3] ty #[.slice (some ⟨b, 0, none⟩) i c, .int .i64 ((n : Int) + (m : Int) - (i : Int))]).run Try.prog w =
      .ok (.slice (some ⟨w.heap.size, 0, none⟩) (n + m) (grownCap w (n + m) c 38)) (w.drew.alloc (.cells ((cs.take (i * 5)).toArray ++ Builtin.zeroCells Z.cells (n + m - i) ++ Builtin.zeroCells Z.cells (grownCap w (n + m) c 38 - (n + m))) 38)) := fun ty => by
    have h := Lib.run_append_grow_zeros w 36 3 ty 38 i0 _ .i64 .i64 Try.underlying36 Try.underlying3 hi0 hz0 (some ⟨b, 0, none⟩) i c (cs.take (i * 5)) hold (n + m - i) (by omega) (by omega) (by omega) (by omega) (by rw [hzb]; omega) (by rw [hzb, hik]; exact growslice_fits hroom hbig)
    rw [hik] at h
    rw [hkk]
    exact h
  obtain ⟨G, hG⟩ : ∃ G, G = grownCap w (n + m) c 38 := ⟨_, rfl⟩
  obtain ⟨ROW, hROW⟩ : ∃ ROW : Array Value, ROW = (cs.take (i * 5)).toArray ++ Builtin.zeroCells Z.cells (n + m - i) ++ Builtin.zeroCells Z.cells (G - (n + m)) := ⟨_, rfl⟩
  rw [← hG] at hrz ⊢
  rw [← hROW] at hrz ⊢
  have hRl : (n + m) * 5 ≤ ROW.size := by
    rw [hROW]
    simp only [Array.size_append, List.size_toArray, size_zeroCells, hZs, List.length_take, hcl]
    omega
  obtain ⟨W1, hW1⟩ : ∃ W1, W1 = w.drew.alloc (.cells ROW 38) := ⟨_, rfl⟩
  rw [← hW1] at hrz
  have hN : ∀ j, j < (n + m) * 5 → (W1.cell? ⟨w.heap.size, j, none⟩).isSome = true := fun j hj => by
    rw [hW1, World.cell?_alloc_at (w := w.drew) ROW _ w.heap.size j rfl, Array.getElem?_eq_getElem (by omega)]; rfl
  have hNf : ∀ j, W1.frozen? ⟨w.heap.size, j, none⟩ = false := fun j => by rw [hW1]; exact World.frozen?_alloc_at (w := w.drew) ROW _ w.heap.size j rfl
  have hOb : ∀ j v, w.cell? ⟨b, j, none⟩ = some v → W1.cell? ⟨b, j, none⟩ = some v := fun j v h => by rw [hW1, World.cell?_alloc_past (w := w.drew) _ b j hbw]; exact h
  have hOv : ∀ j v, w.cell? ⟨vb, j, none⟩ = some v → W1.cell? ⟨vb, j, none⟩ = some v := fun j v h => by rw [hW1, World.cell?_alloc_past (w := w.drew) _ vb j hvw]; exact h
  have hmin2 : Nat.min m (n + m - i) = m := by simp only [Nat.min_def]; split <;> omega
  have hmin : Nat.min (n - i) (n + m - (i + m)) = n - i := by simp only [Nat.min_def]; split <;> omega
  have hdl : (cs.drop (i * 5)).length = (n - i) * 5 := by rw [List.length_drop, hcl, Nat.sub_mul]
  have hcpA : ∀ (W : World), (∀ x, W.cell? x = W1.cell? x) → (∀ x, W.frozen? x = W1.frozen? x) → ∀ ty dc, (Builtin.copy_ #[36, 36] ty #[.slice (some ⟨w.heap.size, i * 5, none⟩) (n + m - i) dc, .slice (some ⟨vb, 0, none⟩) m vc]).run Try.prog W = .ok (goInt (m : Nat)) (W.setCells w.heap.size (i * 5) vs) := fun W hWc hWf ty dc => by
    have := run_copy_k (P := Try.prog) W 36 36 ty 38 w.heap.size (i * 5) (n + m - i) dc ⟨vb, 0, none⟩ m vc 5 vs Try.underlying36 hsz (by rw [hvl, hmin2])
      (fun j v hj => by rw [Addr.add_lit, Nat.zero_add, hWc]; exact hOv _ v (hvs j v hj))
      (fun j hj => by rw [hWc]; exact hN _ (by rw [hvl] at hj; omega)) (fun j hj => by rw [hWf]; exact hNf _) h1v
    rw [hmin2] at this
    exact this
  have hGn : n + m ≤ G := by rw [hG]; exact grownCap_ge w _ _ _
  have hG63 : G ≤ 9223372036854775807 := by
    have := grownCap_le_maxLen w (n + m) c 38 (by unfold maxLen; omega)
    rw [← hG] at this
    unfold maxLen at this
    omega
  have hGi : ¬ (G = i) := by omega
  have hGim : ¬ (G = i + m) := by omega
  have hci : ¬ (c = i) := by omega
  have hbN : b ≠ w.heap.size := by omega
  have hcpB : ∀ (W : World), (∀ x, W.cell? x = (W1.setCells w.heap.size (i * 5) vs).cell? x) → (∀ x, W.frozen? x = (W1.setCells w.heap.size (i * 5) vs).frozen? x) → ∀ ty dc sc, (Builtin.copy_ #[36, 36] ty #[.slice (some ⟨w.heap.size, (i + m) * 5, none⟩) (n + m - (i + m)) dc, .slice (some ⟨b, i * 5, none⟩) (n - i) sc]).run Try.prog W = .ok (goInt (n - i : Nat)) (W.setCells w.heap.size ((i + m) * 5) (cs.drop (i * 5))) := fun W hWc hWf ty dc sc => by
    have := run_copy_k (P := Try.prog) W 36 36 ty 38 w.heap.size ((i + m) * 5) (n + m - (i + m)) dc ⟨b, i * 5, none⟩ (n - i) sc 5 (cs.drop (i * 5)) Try.underlying36 hsz (by rw [hdl, hmin])
      (fun j v hj => by
        rw [Addr.add_lit, hWc, World.cell?_setCells_out _ _ _ _ _ (fun h _ => absurd h hbN)]
        exact hOb _ v (hcs (i * 5 + j) v (by rwa [List.getElem?_drop] at hj)))
      (fun j hj => by rw [hWc]; exact isSome_setCells w.heap.size vs (i * 5) W1 (fun t ht => hN _ (by rw [hvl] at ht; omega)) _ (hN _ (by rw [hdl] at hj; omega)))
      (fun j hj => by rw [hWf, World.frozen?_setCells]; exact hNf _) (fun v hv => h1c v (List.mem_of_mem_drop hv))
    rw [hmin] at this
    exact this
  subst hW1
  have hE1 : ∀ x, ((w.alloc (.cells ROW 38)).drew).cell? x = (w.drew.alloc (.cells ROW 38)).cell? x := fun x => rfl
  have hE2 : ∀ x, ((w.alloc (.cells ROW 38)).drew).frozen? x = (w.drew.alloc (.cells ROW 38)).frozen? x := fun x => rfl
  have hF1 : ∀ x, (((w.alloc (.cells ROW 38)).drew.setCells w.heap.size (i * 5) vs).drew).cell? x = ((w.drew.alloc (.cells ROW 38)).setCells w.heap.size (i * 5) vs).cell? x := fun x => rfl
  have hF2 : ∀ x, (((w.alloc (.cells ROW 38)).drew.setCells w.heap.size (i * 5) vs).drew).frozen? x = ((w.drew.alloc (.cells ROW 38)).setCells w.heap.size (i * 5) vs).frozen? x := fun x => rfl
  have hw1 : IntKind.i64.wrap ((i : Int) + (m : Int)) = (i : Int) + (m : Int) := by rw [IntKind.wrap_i64]; omega
  have hb1 : (0 : Int) ≤ (i : Int) + (m : Int) := by omega
  have hin : i ≤ n := by omega
  have htn : ((i : Int) + (m : Int)).toNat = i + m := by omega
  have hb3 : (i : Int) ≤ (n : Int) := by omega
  clear hkk hik hold hROW hG hRl hZ
  go_enter Try.func115, Try.ntmps115
  go_wp2_with (first
    | (at_builtin; refine Lib.wpList_append_run _ rfl _ _ _ _ rfl _ _ rfl rfl _ _ (hrz _) ?_)
    | (at_builtin; refine wpList_copy_runI _ rfl _ _ 36 36 rfl _ _ rfl rfl (hcpA _ hE1 hE2 _ _) ?_)
    | (at_builtin; refine wpList_copy_runI _ rfl _ _ 36 36 rfl _ _ rfl rfl (hcpB _ (fun _ => rfl) (fun _ => rfl) _ _ _) ?_))
  go_region_law_o (refine step_copy_runI rfl _ _ 36 36 rfl (.slice (some ⟨w.heap.size, (i + m) * 5, none⟩) (n + m - (i + m)) (G - (i + m))) (.slice (some ⟨b, i * 5, none⟩) (n - i) (c - i)) (by simp [Act.eval, Act.put]) (by simp [Act.eval, Act.put]) (hcpB _ hF1 hF2 3 (G - (i + m)) (c - i)) ?_)
  go_wp2
  go_ret
  exact ⟨rfl, rfl⟩
theorem Try.insSays : Go.VM.InsertSays Try.prog 115 36 38 (Go.VM.sz Try.prog 38) (Value.agg #[.int .i64 0, .int .i64 0, .int .i64 0, .int .i64 0, .int .i64 0]) := by
  have hs : Go.VM.sz Try.prog 38 = 5 := by kernel_rfl
  rw [hs]
  refine ⟨enters_of Try.func115 (by kernel_rfl) rfl, rfl, ?_, ?_, ?_⟩
  · intro b n c i vb m vc cs vs w h1 h2 h3 h4 h5 h6 h7 h8 h9 h10 h11 h12 h13 tA tB kA kB h14 h15 h16 h17 h18
    exact Try.ins_shift b n c i vb m vc cs vs w h1 h2 h3 h4 h5 h6 h7 h8 h9 h10 h11 h12 h13 tA tB kA kB h14 h15 h16 h17 h18
  · intro a a2 n c m vc w w' y h1 h2 h3 h4 h5 h6
    exact Try.ins_end a a2 n c m vc w w' y h1 h2 h3 h4 h5 h6
  · intro b n c i vb m vc cs vs w h1 h2 h3 h4 h5 h6 h7 h8 h9 h10 h11
    exact Try.ins_grow b n c i vb m vc cs vs w h1 h2 h3 h4 (by omega) h6 h7 h8 h9 h10 h11
end Go.Proofs
