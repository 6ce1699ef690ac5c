/- Arguments of small bulk: what comes in is short. No conditions. -/
import Derived.Test.YtbplfgghcclgkaaRows
import Derived.Test.YtbplfgghcclgkaaPb
open Go Go.VM Go.RowKit Go.ChangeShapes Go.WideShapes
namespace Go.Proofs.Ytbplfgghcclgkaa
section
variable {P : Program} {T : Tab}
inductive InU (T : Tab) : Nat → V → Prop
  | int {t : Nat} {k : IntKind} {n : Int} (h : find t T = some (.int k)) (h1 : k.min ≤ n) (h2 : n ≤ k.max) : InU T t (.int k n)
  | bool {t : Nat} {b : Bool} (h : find t T = some .bool) : InU T t (.bool b)
  | str {t : Nat} {s : ByteArray} (h : find t T = some .str) (h1 : s.size ≤ maxLen) : InU T t (.str s)
  | slice {t e n : Nat} {f : Nat → V} (h : find t T = some (.slice e)) (h1 : n ≤ 1048576) (h2 : ∀ i, i < n → InU T e (f i)) : InU T t (.view e n f)
  | st {t : Nat} {fs : List Nat} {l : List V} (h : find t T = some (.st fs)) (h1 : l.length = fs.length) (h2 : ∀ (i f : Nat) (v : V), fs[i]? = some f → l[i]? = some v → InU T f v) : InU T t (.nd t l)
  | ar {t n e : Nat} {f : Nat → V} (h : find t T = some (.ar n e)) (h2 : ∀ i, i < n → InU T e (f i)) : InU T t (.arr t n f)
theorem bulk_one {H : Type} (d : DataW H) : 1 ≤ Rows.uptoBulk d := by
  cases d with
  | lit l => cases l <;> simp [Rows.uptoBulk]
  | nil => simp [Rows.uptoBulk]
  | ptr d => simp [Rows.uptoBulk]
  | slice elems spare => simp [Rows.uptoBulk]
  | agg parts => simp [Rows.uptoBulk]
  | iface t d => simp [Rows.uptoBulk]
  | map entries => simp [Rows.uptoBulk]
  | held h => simp [Rows.uptoBulk]
theorem bulk_part {H : Type} {d : DataW H} {l : List (DataW H)} (h : d ∈ l) : Rows.uptoBulk d ≤ Rows.uptoBulkAll l := by
  induction l with
  | nil => cases h
  | cons x r ih =>
    simp only [Rows.uptoBulkAll]
    rcases List.mem_cons.1 h with e | e
    · subst e; omega
    · have := ih e; omega
theorem bulk_len {H : Type} (l : List (DataW H)) : l.length ≤ Rows.uptoBulkAll l := by
  induction l with
  | nil => simp [Rows.uptoBulkAll]
  | cons x r ih => have := bulk_one x; simp only [Rows.uptoBulkAll, List.length_cons]; omega
section
variable {H : Type} {enc : TypeId × Value → H} {W : World} {spare : Nat → Bool} {held : Bool}
def GotU (P : Program) (T : Tab) (W : World) (t : Nat) (cs : List Value) : Prop := ∃ v, InU T t v ∧ fitV T v t = true ∧ RelF P T (inX W) v cs
theorem got_fieldsU {fuel : Nat} (cs : List Value) : ∀ (L : List Field) (fs : List Nat) (o : Nat) (xs : List (DataW H × List MemPlace)), L.map (·.type) = fs → (∀ i f, L[i]? = some f → f.offset = o + foff P fs i) → cs.length = o + (fs.map (sz P)).sum →
    (L.mapM fun f => DataW.trod enc P W 0 spare held fuel f.type ((cs.drop f.offset).take (P.cellsOf f.type))) = some xs →
    Rows.uptoBulkAll (xs.map (·.1)) ≤ 1048576 →
    (∀ t ∈ fs, ∀ cs' x, Rows.uptoBulk x.1 ≤ 1048576 → DataW.trod enc P W 0 spare held fuel t cs' = some x → GotU P T W t cs') →
    ∃ l : List V, l.length = fs.length ∧ (∀ (i f : Nat) (v : V), fs[i]? = some f → l[i]? = some v → InU T f v) ∧ fitVs T l fs = true ∧ RelFs P T (inX W) l fs (cs.drop o)
  | [], fs, o, xs, hm, ho, hl, hx, hw, ih => by
    simp at hm
    subst hm
    simp at hl
    exact ⟨[], rfl, by simp, rfl, by simp [RelFs, hl]⟩
  | f :: L, fs, o, xs, hm, ho, hl, hx, hw, ih => by
    cases fs with
    | nil => simp at hm
    | cons t fs =>
      simp only [List.map_cons, List.cons.injEq] at hm
      obtain ⟨rfl, hm⟩ := hm
      have h0 : f.offset = o := by have := ho 0 f rfl; simpa [foff] using this
      simp only [List.mapM_cons, Option.pure_def, Option.bind_eq_bind, Option.bind_eq_some_iff] at hx
      obtain ⟨x, hx1, ys, hx2, hxy⟩ := hx
      have hxy : x :: ys = xs := by simpa using hxy
      subst hxy
      obtain ⟨v, v1, v2, v3⟩ := ih f.type (by simp) _ _ (by simp only [List.map_cons, Rows.uptoBulkAll] at hw; omega) hx1
      have hl' : cs.length = (o + sz P f.type) + (fs.map (sz P)).sum := by simp at hl; omega
      obtain ⟨l, l1, l2, l3, l4⟩ := got_fieldsU cs L fs (o + sz P f.type) ys hm (fun i g hg => by
        have := ho (i + 1) g (by simpa using hg)
        rw [this]; simp [foff]; omega) hl' hx2 (by simp only [List.map_cons, Rows.uptoBulkAll] at hw; omega) (fun t ht => ih t (by simp [ht]))
      rw [h0] at v3
      refine ⟨v :: l, by simp [l1], fun i g w hg hw => ?_, by simp [fitVs, v2, l3], ?_⟩
      · cases i with
        | zero => simp at hg hw; subst hg hw; exact v1
        | succ i => exact l2 i g w (by simpa using hg) (by simpa using hw)
      · simp only [RelFs]
        refine ⟨f.type, fs, (cs.drop o).take (sz P f.type), (cs.drop o).drop (sz P f.type), rfl, (List.take_append_drop _ _).symm, fits_shape v2, ?_, v3, ?_⟩
        · simp; omega
        · rw [List.drop_drop]; exact l4
theorem trod_inU (hT : TabOk P T) : ∀ (d fuel t : Nat) (cs : List Value) (x : DataW H × List MemPlace), Rows.uptoBulk x.1 ≤ 1048576 → inB T d t = true → DataW.trod enc P W 0 spare held fuel t cs = some x → GotU P T W t cs
  | 0, _, _, _, _, _, h, _ => by simp [inB] at h
  | d + 1, 0, _, _, _, _, _, hx => by simp [DataW.trod] at hx
  | d + 1, fuel + 1, t, cs, x, hwt, h, hx => by
    unfold inB at h
    cases hd : find t T with
    | none => rw [hd] at h; cases h
    | some ty =>
      rw [hd] at h
      obtain ⟨u, hu, hud⟩ := (hT t ty hd).und
      cases ty with
      | int k =>
        cases u <;> simp only [Und] at hud
        subst hud
        obtain ⟨n, rfl, _, h1⟩ := DataW.trod_int hu hx
        simp only [Lit.wf, Bool.and_eq_true, decide_eq_true_eq] at h1
        exact ⟨.int k n, .int hd h1.1 h1.2, by simp [fitV, kindIs, hd]; cases k <;> rfl, by simp [RelF]⟩
      | bool =>
        cases u <;> simp only [Und] at hud
        obtain ⟨b, rfl, _⟩ := DataW.trod_bool hu hx
        exact ⟨.bool b, .bool hd, by simp [fitV, hd], by simp [RelF]⟩
      | str =>
        cases u <;> simp only [Und] at hud
        obtain ⟨s, rfl, _, h1⟩ := DataW.trod_string hu hx
        exact ⟨.str s, .str hd h1, by simp [fitV, hd], by simp [RelF]⟩
      | slice e =>
        cases u <;> simp only [Und] at hud
        subst hud
        have hb : Nat.beq e e = true := Nat.beq_refl e
        obtain ⟨_, ⟨de, hde⟩, _⟩ := (hT t _ hd).size
        have hpos := (hT e de hde).pos
        have h : inB T d e = true := h
        rcases DataW.trod_slice hu hx with ⟨rfl, _⟩ | ⟨a, len, cap, elems, rest, n, hn, rfl, rfl, _, hlc, hcm, hlen, hel, _⟩
        · refine ⟨.view e 0 fun _ => .junk, .slice hd (Nat.zero_le _) (fun i hi => absurd hi (by omega)), by simp [fitV, hd], ?_⟩
          simp only [RelF]
          exact ⟨none, 0, rfl, Nat.le_refl _, fun i hi => absurd hi (by omega), fun h => absurd h (by omega)⟩
        · have hn : n = fuel := by omega
          subst hn
          simp only [Rows.uptoBulk] at hwt
          have hlr : len ≤ 1048576 := by
            have h1 := bulk_len (elems.map (·.1))
            simp only [List.length_map] at h1
            omega
          have hwe : ∀ i (hi : i < elems.length), Rows.uptoBulk (elems[i]).1 ≤ 1048576 := fun i hi => by
            have := bulk_part (d := (elems[i]).1) (l := elems.map (·.1)) (List.mem_map.2 ⟨_, List.getElem_mem hi, rfl⟩)
            omega
          have hi : ∀ i, i < len → ∃ cs', W.cells? 0 (a.add (i * sz P e)) (sz P e) = some cs' ∧ GotU P T W e cs' := by
            intro i hi
            have := hel i hi
            rw [List.getElem?_eq_getElem (by omega)] at this
            simp only [Option.bind_eq_some_iff] at this
            obtain ⟨cs', h1, h2⟩ := this
            exact ⟨cs', h1, trod_inU hT d n e cs' _ (hwe i (by omega)) h h2⟩
          have hex : ∀ i, ∃ v, i < len → ∃ cs', W.cells? 0 (a.add (i * sz P e)) (sz P e) = some cs' ∧ InU T e v ∧ fitV T v e = true ∧ RelF P T (inX W) v cs' := by
            intro i
            by_cases h' : i < len
            · obtain ⟨cs', h1, v, h2, h3, h4⟩ := hi i h'
              exact ⟨v, fun _ => ⟨cs', h1, h2, h3, h4⟩⟩
            · exact ⟨.junk, fun h => absurd h h'⟩
          obtain ⟨f, hf⟩ := Classical.axiomOfChoice hex
          refine ⟨.view e len f, .slice hd hlr (fun i hi => by obtain ⟨_, _, h2, _⟩ := hf i hi; exact h2), by simp [fitV, hd], ?_⟩
          simp only [RelF]
          refine ⟨some a, cap, rfl, hlc, fun i hi => by obtain ⟨_, _, _, h3, _⟩ := hf i hi; exact h3, fun h0 => ?_⟩
          have hspot : a.spot = none ∧ a.block < W.heap.size := by
            obtain ⟨cs', h1, _⟩ := hf 0 h0
            obtain ⟨_, hl, hc⟩ := World.cells?_some h1
            have := hc 0 hpos
            rw [List.getElem?_eq_getElem (by omega)] at this
            simp only [Nat.zero_mul, Addr.add, if_true] at this
            unfold World.cell? at this
            split at this
            · rename_i c _ _ hh
              refine ⟨?_, ?_⟩
              · cases hsp : a.spot with
                | none => rfl
                | some s => rw [hsp] at this; simp at this
              · have := (Array.getElem?_eq_some_iff.1 hh).1; exact this
            · cases this
          obtain ⟨b, o, sp⟩ := a
          obtain ⟨hs1, hs2⟩ := hspot
          simp only at hs1 hs2
          subst hs1
          refine ⟨b, o, rfl, hs2, fun i hi => ?_⟩
          obtain ⟨cs', h1, _, h3, h4⟩ := hf i hi
          obtain ⟨_, hl, hc⟩ := World.cells?_some h1
          refine ⟨cs', fun j y hj => ?_, hl, h4⟩
          have hjl : j < sz P e := by
            rcases Nat.lt_or_ge j cs'.length with h' | h'
            · omega
            · rw [List.getElem?_eq_none h'] at hj; cases hj
          have := hc j hjl
          rw [hj] at this
          rw [add_plain', add_plain'] at this
          exact this
      | ar n e =>
        cases u <;> simp only [Und] at hud
        obtain ⟨rfl, rfl⟩ := hud
        have h : inB T d e = true := h
        obtain ⟨xs, m, hm, rfl, hlen, hxl, hel⟩ := DataW.trod_array hu hx
        simp only [Rows.uptoBulk] at hwt
        have hwe : ∀ i (hi : i < xs.length), Rows.uptoBulk (xs[i]).1 ≤ 1048576 := fun i hi => by
          have := bulk_part (d := (xs[i]).1) (l := xs.map (·.1)) (List.mem_map.2 ⟨_, List.getElem_mem hi, rfl⟩)
          omega
        have hm : m = fuel := by omega
        subst hm
        have hlen : cs.length = n * sz P e := hlen.trans ((hT t _ hd).size).1
        have hi : ∀ i, i < n → GotU P T W e ((cs.drop (i * sz P e)).take (sz P e)) := fun i hi => by
          have := hel i hi
          rw [List.getElem?_eq_getElem (by omega)] at this
          exact trod_inU hT d m e _ _ (hwe i (by omega)) h this
        have hex : ∀ i, ∃ v, i < n → InU T e v ∧ fitV T v e = true ∧ RelF P T (inX W) v ((cs.drop (i * sz P e)).take (sz P e)) := by
          intro i
          by_cases h' : i < n
          · obtain ⟨v, hv⟩ := hi i h'
            exact ⟨v, fun _ => hv⟩
          · exact ⟨.junk, fun h => absurd h h'⟩
        obtain ⟨f, hf⟩ := Classical.axiomOfChoice hex
        refine ⟨.arr t n f, .ar hd (fun i hi => (hf i hi).1), by simp [fitV, hd], ?_⟩
        simp only [RelF]
        refine ⟨e, hd, fun i => (cs.drop (i * sz P e)).take (sz P e), chunks (sz P e) n cs hlen, fun i hi => ⟨(hf i hi).2.1, ?_, (hf i hi).2.2⟩⟩
        rw [List.length_take, List.length_drop, hlen]
        have : (i + 1) * sz P e ≤ n * sz P e := Nat.mul_le_mul_right _ hi
        rw [Nat.succ_mul] at this
        omega
      | st fs =>
        cases u <;> simp only [Und] at hud
        rename_i fields
        obtain ⟨hty, hoff⟩ := hud
        unfold DataW.trod at hx
        rw [hu] at hx
        simp only at hx h
        have hsz := ((hT t _ hd).size).1
        split at hx
        · rename_i hlen
          simp only [Option.map_eq_some_iff] at hx
          obtain ⟨xs, hxs, hxx⟩ := hx
          subst hxx
          simp only [Rows.uptoBulk] at hwt
          have hwt : Rows.uptoBulkAll (xs.map (·.1)) ≤ 1048576 := by omega
          have hins : ∀ (d : Nat) (fs : List Nat), inBs T d fs = true → ∀ t ∈ fs, ∃ d', d' < d ∧ inB T d' t = true := by
            intro d
            induction d with
            | zero =>
              intro fs hb t ht
              cases fs with
              | nil => cases ht
              | cons => simp [inBs] at hb
            | succ d ih =>
              intro fs hb t ht
              cases fs with
              | nil => cases ht
              | cons s fs =>
                simp only [inBs, Bool.and_eq_true] at hb
                rcases List.mem_cons.1 ht with rfl | ht
                · exact ⟨d, by omega, hb.1⟩
                · obtain ⟨d', h1, h2⟩ := ih fs hb.2 t ht
                  exact ⟨d', by omega, h2⟩
          obtain ⟨l, l1, l2, l3, l4⟩ := got_fieldsU cs fields.toList fs 0 xs hty (fun i f hf => by
            have := (hoff i f (by simpa using hf)).1
            omega) (by rw [Nat.zero_add]; exact hlen.trans hsz) hxs hwt (fun t' ht' cs' x' hw' hx' => by
              obtain ⟨d', hd', hb'⟩ := hins d fs h t' ht'
              exact trod_inU hT d' fuel t' cs' x' hw' hb' hx')
          exact ⟨.nd t l, .st hd l1 l2, by simp [fitV, hd, l3], by simp only [RelF]; exact ⟨fs, hd, by simpa using l4⟩⟩
        · cases hx
      | _ => cases h
termination_by d => d
end
end
section
variable {P : Program} {T : Tab} {H : Type} {enc : TypeId × Value → H}
theorem outer_okU (hT : TabOk P T) {W : World} {base t : Nat} {v : V} {x : Value} (hok : Value.okWide P W .any base t x) (hv : InU T t v) : aggOk v x := by
  cases hv with
  | int h _ _ =>
    obtain ⟨u, hu, hud⟩ := (hT _ _ h).und
    cases u <;> simp only [Und] at hud
    intro cs hc; subst hc
    simp [Value.okWide, Cell.okWide, Cell.ok, hu] at hok
  | bool h =>
    obtain ⟨u, hu, hud⟩ := (hT _ _ h).und
    cases u <;> simp only [Und] at hud
    intro cs hc; subst hc
    simp [Value.okWide, Cell.okWide, Cell.ok, hu] at hok
  | str h _ =>
    obtain ⟨u, hu, hud⟩ := (hT _ _ h).und
    cases u <;> simp only [Und] at hud
    intro cs hc; subst hc
    simp [Value.okWide, Cell.okWide, Cell.ok, hu] at hok
  | slice h _ _ =>
    obtain ⟨u, hu, hud⟩ := (hT _ _ h).und
    cases u <;> simp only [Und] at hud
    intro cs hc; subst hc
    simp [Value.okWide, Cell.okWide, Cell.ok, hu] at hok
  | st h _ _ =>
    obtain ⟨u, hu, hud⟩ := (hT _ _ h).und
    cases u <;> simp only [Und] at hud
    simp only [Value.okWide, hu] at hok
    obtain ⟨cs, rfl, _⟩ := hok
    exact ⟨cs, rfl⟩
  | ar h _ =>
    obtain ⟨u, hu, hud⟩ := (hT _ _ h).und
    cases u <;> simp only [Und] at hud
    simp only [Value.okWide, hu] at hok
    obtain ⟨cs, rfl, _⟩ := hok
    exact ⟨cs, rfl⟩
inductive InsU (T : Tab) : List Nat → List V → Prop
  | nil : InsU T [] []
  | cons {t : Nat} {v : V} {ts : List Nat} {l : List V} (h : InU T t v) (hl : InsU T ts l) : InsU T (t :: ts) (v :: l)
theorem InsU.none {T : Tab} {l : List V} (h : InsU T [] l) : l = [] := by cases h; rfl
theorem InsU.one {T : Tab} {t : Nat} {ts : List Nat} {l : List V} (h : InsU T (t :: ts) l) : ∃ v l', l = v :: l' ∧ InU T t v ∧ InsU T ts l' := by
  cases h with | cons h hl => exact ⟨_, _, rfl, h, hl⟩
theorem InU.int' {T : Tab} {t : Nat} {v : V} {k : IntKind} (h : InU T t v) (ht : find t T = some (.int k)) : ∃ n, v = .int k n ∧ k.min ≤ n ∧ n ≤ k.max := by
  cases h with
  | int h h1 h2 => rw [ht] at h; cases h; exact ⟨_, rfl, h1, h2⟩
  | bool h => rw [ht] at h; cases h
  | str h => rw [ht] at h; cases h
  | slice h => rw [ht] at h; cases h
  | st h => rw [ht] at h; cases h
  | ar h => rw [ht] at h; cases h
theorem InU.bool' {T : Tab} {t : Nat} {v : V} (h : InU T t v) (ht : find t T = some .bool) : ∃ b, v = .bool b := by
  cases h with
  | int h => rw [ht] at h; cases h
  | bool h => exact ⟨_, rfl⟩
  | str h => rw [ht] at h; cases h
  | slice h => rw [ht] at h; cases h
  | st h => rw [ht] at h; cases h
  | ar h => rw [ht] at h; cases h
theorem InU.slice'' {T : Tab} {t e : Nat} {v : V} (h : InU T t v) (ht : find t T = some (.slice e)) : ∃ n f, v = .view e n f ∧ n ≤ 1048576 ∧ ∀ i, i < n → InU T e (f i) := by
  cases h with
  | int h => rw [ht] at h; cases h
  | bool h => rw [ht] at h; cases h
  | str h => rw [ht] at h; cases h
  | slice h h1 h2 => rw [ht] at h; cases h; exact ⟨_, _, rfl, h1, h2⟩
  | st h => rw [ht] at h; cases h
  | ar h => rw [ht] at h; cases h
theorem ins_ofU {T : Tab} : ∀ {fs : List Nat} {l : List V}, l.length = fs.length → (∀ (i f : Nat) (v : V), fs[i]? = some f → l[i]? = some v → InU T f v) → InsU T fs l
  | [], [], _, _ => .nil
  | [], _ :: _, h, _ => by simp at h
  | _ :: _, [], h, _ => by simp at h
  | f :: fs, v :: l, h, hh => .cons (hh 0 f v rfl rfl) (ins_ofU (by simpa using h) fun i g w h1 h2 => hh (i + 1) g w (by simpa using h1) (by simpa using h2))
theorem InU.st' {T : Tab} {t : Nat} {v : V} {fs : List Nat} (h : InU T t v) (ht : find t T = some (.st fs)) : ∃ l, v = .nd t l ∧ InsU T fs l := by
  cases h with
  | int h => rw [ht] at h; cases h
  | bool h => rw [ht] at h; cases h
  | str h => rw [ht] at h; cases h
  | slice h => rw [ht] at h; cases h
  | st h h1 h2 => rw [ht] at h; cases h; exact ⟨_, rfl, ins_ofU h1 h2⟩
  | ar h => rw [ht] at h; cases h
theorem args_inU (hT : TabOk P T) {W : World} {base : Nat} : ∀ (ts : List TypeId) (vs : List Value) (ds : List (DataW H)) (ps : List MemPlace), Rows.uptoBulkAll ds ≤ 1048576 → DataW.TrodAll enc P W 0 (fun _ => true) true ts vs ds ps →
    (∀ t ∈ ts, inB T 60 t = true) → (∀ (j : Nat) t v, ts[j]? = some t → vs[j]? = some v → Value.okWide P W .any base t v) → ∃ Vs, RelVs P T (inX W) Vs vs ∧ InsU T ts Vs
  | [], vs, ds, ps, _, h, _, _ => by
    obtain ⟨rfl, _, _⟩ := trodAll_nil h
    exact ⟨[], relVs_nil.2 rfl, .nil⟩
  | t :: ts, vs, ds, ps, hw, h, hb, hok => by
    obtain ⟨v, vs', d, ds', p, q, rfl, rfl, rfl, ⟨fuel, h1⟩, h2⟩ := trodAll_cons h
    obtain ⟨V, v1, v2, v3⟩ := trod_inU hT 60 fuel t _ _ (by simp only [Rows.uptoBulkAll] at hw; first | omega | (show Rows.uptoBulk d ≤ _; omega)) (hb t (by simp)) h1
    obtain ⟨Vs, k1, k2⟩ := args_inU hT ts vs' ds' q (by simp only [Rows.uptoBulkAll] at hw; first | omega | (show Rows.uptoBulk d ≤ _; omega)) h2 (fun t ht => hb t (by simp [ht])) (fun j t' v' h h' => hok (j + 1) t' v' (by simpa using h) (by simpa using h'))
    rw [cells_cellsL] at v3
    exact ⟨V :: Vs, relVs_cons.2 ⟨v, vs', rfl, .inr ⟨outer_okU hT (hok 0 t v rfl rfl) v1, v3⟩, k1⟩, .cons v1 k2⟩
theorem law_callsU (hT : TabOk P T) {n : Nat} {e : Entry} (he : EntryOK P T n e) {fn : Func} (hf : P.funcs[n]? = some fn) (hbody : fn.body.isSome = true) (hname : (fn.name == "runtime.NumGoroutine") = false)
    (hin : fn.params.toList.all (inB T 60) = true) (hread : fn.params.toList.all (fun t => P.readableRec t && Nat.blt t P.types.size) = true) (hl : laidOutB P = true) {tb : TypeId} (hres : fn.resultTypes = #[tb]) (htb : P.underlying tb = some .bool)
    {s : ChangeSpec} (hvars : s.vars = []) (hspec : ∀ ds : List (DataW H), ds.length = fn.params.size → s.fn H ds = { results := [.lit (.bool true)], args := ds })
    (hlaw : ∀ Vs, InsU T fn.params.toList Vs → All (fun v => v = V.bool true) (e.run Vs [] fun v _ => .ret v))
    (W : World) (base : Nat) (args : Array Value) (ds gs : List (DataW H)) (before : List MemPlace)
    (hval : ∀ (j : Nat) t v, fn.params[j]? = some t → args[j]? = some v → Value.okWide P W .any base t v) (hW : DataW.Whole enc P fn.params.toList s.vars false W args.toList ds gs before)
    (hwt : Rows.uptoSmall H (ds ++ gs) = true) :
    Calls P n args W fun e W' => ∃ v, e = .returned v ∧ s.post enc P fn false true false false W args v W' := by
  have hW' := hW
  obtain ⟨p, q, hA, hV, rfl, hfz, hnd⟩ := hW
  have hgs : gs = [] ∧ q = [] := by rw [hvars] at hV; exact trodVars_none hV
  obtain ⟨rfl, rfl⟩ := hgs
  have hlen : ∀ (ts : List TypeId) (vs : List Value) (ds : List (DataW H)) (ps : List MemPlace), DataW.TrodAll enc P W 0 (fun _ => true) true ts vs ds ps → ds.length = ts.length := by
    intro ts
    induction ts with
    | nil => intro vs ds ps h; obtain ⟨_, rfl, _⟩ := trodAll_nil h; rfl
    | cons t ts ih => intro vs ds ps h; obtain ⟨v, vs', d, ds', p, q, rfl, rfl, rfl, _, h2⟩ := trodAll_cons h; simp [ih vs' ds' q h2]
  have hwt' : Rows.uptoBulkAll ds ≤ 1048576 := by
    rw [List.append_nil] at hwt
    exact of_decide_eq_true hwt
  obtain ⟨Vs, r1, r2⟩ := args_inU hT _ _ _ _ hwt' hA (fun t ht => List.all_eq_true.1 hin t ht) (fun j t v h h' => hval j t v (by simpa using h) (by simpa using h'))
  have hrun := @he V (fun v => v = V.bool true) (inX W) Vs args.toList (fun v _ => .ret v) (inX_inv W) r1 (hlaw Vs r2) (fun e W' => ∃ v, e = .returned v ∧ s.post enc P fn false true false false W args v W') ?_
  · have hcall : (callFunc n args.toList.toArray).run P W = .ok (.enter n args.toList.toArray) W := by
      have hname' : ¬ fn.name = "runtime.NumGoroutine" := by simpa using hname
      obtain ⟨code, hc⟩ := Option.isSome_iff_exists.1 hbody
      simp [callFunc, hf, hname', hc]
    unfold Runs at hrun
    have hcall : (callFunc n args.toList.toArray).run P (inX W).w = .ok (.enter n args.toList.toArray) W := hcall
    rw [hcall] at hrun
    simpa using hrun
  · intro v y Y hv hI hS hR
    have hv : v = .bool true := hv
    subst hv
    rw [rel_bool] at hR
    subst hR
    have hb := step_below hS
    refine ⟨.bool true, rfl, ds, [], p ++ [], [], p, [], hW', ?_, ?_, ?_, ?_, fun h => by cases h⟩
    · rw [List.append_nil, hspec ds (by rw [hlen _ _ _ _ hA]; simp), hres]
      exact trodAll_mk1 ⟨1, by simp [DataW.trod, htb, Value.cells]⟩
    · rw [List.append_nil, hspec ds (by rw [hlen _ _ _ _ hA]; simp)]
      refine trodAll_below hl hb _ _ _ _ hA (fun t ht => ?_) (fun x hx => hW'.lt x (by simp [hx]))
      have := List.all_eq_true.1 hread t ht
      simp only [Bool.and_eq_true] at this
      exact ⟨this.1, by have := this.2; rwa [Nat.blt_eq] at this⟩
    · rw [hvars, List.append_nil, hspec ds (by rw [hlen _ _ _ _ hA]; simp)]
      rfl
    · exact below_kept hb _
theorem InsU.at {T : Tab} : ∀ {fs : List Nat} {l : List V} {k u : Nat}, InsU T fs l → fs[k]? = some u → InU T u (l.getD k .junk)
  | _ :: _, _, 0, _, .cons h _, hk => by
    simp only [List.getElem?_cons_zero, Option.some.injEq] at hk
    subst hk
    exact h
  | _ :: _, _, k + 1, _, .cons _ hl, hk => InsU.at (k := k) hl (by simpa using hk)
theorem InU.part {T : Tab} {t u k : Nat} {v : V} {fs : List Nat} (h : InU T t v) (ht : find t T = some (.st fs)) (hk : fs[k]? = some u) : InU T u (partV v k) := by
  obtain ⟨l, rfl, hl⟩ := h.st' ht
  exact hl.at hk
theorem InU.inI {T : Tab} {t : Nat} {v : V} (h : InU T t v) (ht : find t T = some (.int .i64)) : inI (intV v) := by
  obtain ⟨n, rfl, h1, h2⟩ := h.int' ht
  exact ⟨h1, h2⟩
end
end Go.Proofs.Ytbplfgghcclgkaa
