/- Renaming, lending, storing, making, appending, calling: the machine over values is as the model. No conditions. -/
import Derived.Test.YtcafnbjmebichaaVmA
import Derived.Laws.MakeOwn
import Derived.Laws.OwnMore
import Derived.Below
import Derived.Laws.IdiomRangeMap
namespace Go.VM
section
variable {P : Program} {T : Tab}

/-- the blocks that nobody writes stand in Y as they stood in X -/
def Keeps (X Y : Rx) : Prop := ∀ b, X.S b → Y.S b ∧ Y.w.heap[b]? = X.w.heap[b]?

theorem fitV_int {v : V} {e : Nat} {k : IntKind} (h : find e T = some (.int k)) (hv : fitV T v e = true) : ∃ n, v = .int k n := by
  cases v <;> simp only [fitV, kindIs, h] at hv
  all_goals first
    | (cases hv; done)
    | (exact ⟨_, by rw [sameK_eq hv]⟩)
    | (split at hv <;> first | (cases hv; done) | (rename_i he; cases he))

/-- Values without names of regions stand in every world that keeps the safe blocks. -/
theorem fits_all (_ : TabOk P T) {X Y : Rx} (hk : Keeps X Y) : (∀ v t cs, fitV T v t = true → RelF P T X v cs → RelF P T Y v cs) ∧
    (∀ l ts fs cs, fitVs T l ts = true → RelFs P T X l fs cs → RelFs P T Y l fs cs) := by
  apply V.ind (M := fun v => ∀ t cs, fitV T v t = true → RelF P T X v cs → RelF P T Y v cs) (L := fun l => ∀ ts fs cs, fitVs T l ts = true → RelFs P T X l fs cs → RelFs P T Y l fs cs)
  case junk => intro t cs h; simp [fitV] at h
  case undef => intro t cs h; simp [fitV] at h
  case ptr => intro r p u t cs h; simp [fitV] at h
  case ref => intro u v _ t cs h; simp [fitV] at h
  case it => intro r t cs h; simp [fitV] at h
  case sub => intro r o n t cs h; simp [fitV] at h
  case mp => intro r t cs h; simp [fitV] at h
  case fn => intro g l _ t cs h; simp [fitV] at h
  case tup => intro l _ t cs h; simp [fitV] at h
  case bool => intro b t cs _ hr; simpa only [RelF] using hr
  case int => intro k n t cs _ hr; simpa only [RelF] using hr
  case str => intro s t cs _ hr; simpa only [RelF] using hr
  case nilp => intro t cs _ hr; simpa only [RelF] using hr
  case nils => intro t cs _ hr; simpa only [RelF] using hr
  case nilm => intro t cs _ hr; simpa only [RelF] using hr
  case nilf => intro t cs _ hr; simpa only [RelF] using hr
  case ei => intro b u n t cs _ hr; simpa only [RelF] using hr
  case view =>
    intro e n f ih t cs _ hr
    simp only [RelF] at hr ⊢
    obtain ⟨a, cap, he, hle, hfit, hn⟩ := hr
    refine ⟨a, cap, he, hle, hfit, fun h0 => ?_⟩
    obtain ⟨b, o, ha, hS, hi⟩ := hn h0
    obtain ⟨hS', hh⟩ := hk b hS
    refine ⟨b, o, ha, hS', fun i hin => ?_⟩
    obtain ⟨cs', hc, hl, hv⟩ := hi i hin
    exact ⟨cs', cellsIn_of_heap hh hc, hl, ih i e cs' (hfit i hin) hv⟩
  case nd =>
    intro u l ih t cs h hr
    simp only [RelF] at hr ⊢
    obtain ⟨fs, hfs, hl⟩ := hr
    simp only [fitV] at h
    split at h
    · rename_i hb he
      have := Nat.eq_of_beq_eq_true hb
      subst this
      exact ⟨fs, hfs, ih _ fs cs h hl⟩
    · cases h
  case arr =>
    intro u n f ih t cs _ hr
    simp only [RelF] at hr ⊢
    obtain ⟨e, he, cf, hcf, hi⟩ := hr
    exact ⟨e, he, cf, hcf, fun i hin => ⟨(hi i hin).1, (hi i hin).2.1, ih i e (cf i) (hi i hin).1 (hi i hin).2.2⟩⟩
  case nil => intro ts fs cs _ hr; exact relFs_nil.2 (relFs_nil.1 hr)
  case cons =>
    intro v l ihv ihl ts fs cs h hr
    cases ts with
    | nil => simp [fitVs] at h
    | cons t ts =>
      simp only [fitVs] at h
      split at h
      · rename_i hv
        obtain ⟨u, fs', c1, c2, h1, h2, h3, h4, h5, h6⟩ := relFs_cons.1 hr
        exact relFs_cons.2 ⟨u, fs', c1, c2, h1, h2, h3, h4, ihv t c1 hv h5, ihl ts fs' c2 h h6⟩
      · cases h
theorem relF_fits (hT : TabOk P T) {X Y : Rx} (hk : Keeps X Y) {v : V} {t : Nat} {cs : List Value} (hf : T.fits t v = true) (hr : RelF P T X v cs) : RelF P T Y v cs :=
  (fits_all hT hk).1 v t cs hf hr

/-- The names of X that f keeps mean in Y what they mean in X, or nothing any more. -/
def Names (f : Nat → Option Nat) (X Y : Rx) : Prop := ∀ r s, f r = some s → r < X.G.length →
  Y.dead s ∨ (¬ X.dead r ∧ Y.blk s = X.blk r ∧ sameKind (X.reg r) (Y.reg s) ∧ ∀ b, X.blk r = some b → bsize X.w b ≤ bsize Y.w b)

theorem subAt_via {X Y : Rx} {f : Nat → Option Nat} (h : Names f X Y) {r s off n : Nat} {a : Option Addr} {cap : Nat} (hf : f r = some s) (hs : SubAt P X r off n a cap) : Y.dead s ∨ SubAt P Y s off n a cap := by
  obtain ⟨e, k, hr, hle, hb⟩ := hs
  rcases h r s hf (rowLike_lt hr) with hd | ⟨_, hblk, hk, hsz⟩
  · exact .inl hd
  · refine .inr ⟨e, k, sameKind_rowLike hk hr, hle, ?_⟩
    rw [hblk]
    cases hX : X.blk r with
    | none => simpa [hX] using hb
    | some b =>
      simp only [hX] at hb ⊢
      exact ⟨hb.1, Nat.le_trans hb.2 (hsz b hX)⟩

theorem one_ptr (a : Option Addr) : (Value.pointer a).oneCell' = true := rfl
theorem ren_shape {f : Nat → Option Nat} {t : Nat} {v : V} (h : tagShape T t v) : tagShape T t (ren f v) := by
  cases v <;> simp only [ren] <;> first | exact h | (split <;> exact h) | skip

theorem views_nd (t : Nat) (l : List V) : views (.nd t l) = viewsL l := by simp [views]
theorem viewsL_cons (v : V) (l : List V) : viewsL (v :: l) = false ↔ views v = false ∧ viewsL l = false := by
  simp only [viewsL]
  split <;> simp_all

theorem aggOk_ren {f : Nat → Option Nat} {v : V} {x : Value} (h : aggOk v x) : aggOk (ren f v) x := by
  cases v <;> simp only [ren] <;> first | exact h | (split <;> exact h) | skip

/-- What is told of v in X is told of the renamed v in Y. -/
theorem via_all (hT : TabOk P T) {X Y : Rx} {f : Nat → Option Nat} (hf : Names f X Y) : (∀ v cs, (Keeps X Y ∨ views v = false) → RelF P T X v cs → RelF P T Y (ren f v) cs) ∧
    (∀ l, (Keeps X Y ∨ viewsL l = false) → (∀ fs cs, RelFs P T X l fs cs → RelFs P T Y (rens f l) fs cs) ∧ (∀ xs, RelVs P T X l xs → RelVs P T Y (rens f l) xs)) := by
  apply V.ind (M := fun v => ∀ cs, (Keeps X Y ∨ views v = false) → RelF P T X v cs → RelF P T Y (ren f v) cs)
    (L := fun l => (Keeps X Y ∨ viewsL l = false) → (∀ fs cs, RelFs P T X l fs cs → RelFs P T Y (rens f l) fs cs) ∧ (∀ xs, RelVs P T X l xs → RelVs P T Y (rens f l) xs))
  case junk => intro cs _ hr; simpa only [ren, RelF] using hr
  case undef => intro cs _ hr; simpa only [ren, RelF] using hr
  case bool => intro b cs _ hr; simpa only [ren, RelF] using hr
  case int => intro k n cs _ hr; simpa only [ren, RelF] using hr
  case str => intro s cs _ hr; simpa only [ren, RelF] using hr
  case nilp => intro cs _ hr; simpa only [ren, RelF] using hr
  case nils => intro cs _ hr; simpa only [ren, RelF] using hr
  case nilm => intro cs _ hr; simpa only [ren, RelF] using hr
  case nilf => intro cs _ hr; simpa only [ren, RelF] using hr
  case ei => intro b t n cs _ hr; simpa only [ren, RelF] using hr
  case ptr =>
    intro r p t cs _ hr
    simp only [RelF] at hr
    obtain ⟨x, hx, hr⟩ := hr
    simp only [ren]
    cases hs : f r with
    | none => simp only [RelF]; exact ⟨_, hx, rfl⟩
    | some s =>
      simp only [RelF]
      refine ⟨x, hx, ?_⟩
      rcases hr with hd | ⟨b, off, hb, hp, he⟩
      · rcases hf r s hs hd.1 with h1 | h1
        · exact .inl h1
        · exact absurd hd h1.1
      · rcases hf r s hs (ptrAt_lt hp) with h1 | ⟨_, h1, h2, _⟩
        · exact .inl h1
        · exact .inr ⟨b, off, h1.trans hb, sameKind_ptrAt h2 hp, he⟩
  case ref =>
    intro t v _ cs hk hr
    simp only [ren, RelF] at hr ⊢
    obtain ⟨b, o, he, hS, hfit, cs', hc, hl, hv⟩ := hr
    rcases hk with hk | hk
    · obtain ⟨hS', hh⟩ := hk b hS
      exact ⟨b, o, he, hS', hfit, cs', cellsIn_of_heap hh hc, hl, relF_fits hT hk hfit hv⟩
    · simp [views] at hk
  case it =>
    intro r cs _ hr
    simp only [RelF] at hr
    obtain ⟨x, hx, hr⟩ := hr
    simp only [ren]
    cases hs : f r with
    | none => simp only [RelF]; exact ⟨_, hx, rfl⟩
    | some s =>
      simp only [RelF]
      refine ⟨x, hx, ?_⟩
      rcases hr with hd | ⟨b, hb, hp, he⟩
      · rcases hf r s hs hd.1 with h1 | h1
        · exact .inl h1
        · exact absurd hd h1.1
      · rcases hf r s hs (iterLike_lt hp) with h1 | ⟨_, h1, h2, _⟩
        · exact .inl h1
        · exact .inr ⟨b, h1.trans hb, sameKind_iterLike h2 hp, he⟩
  case sub =>
    intro r off n cs _ hr
    simp only [RelF] at hr
    obtain ⟨x, cap, hx, hcap, h1, hr⟩ := hr
    simp only [ren]
    cases hs : f r with
    | none => simp only [RelF]; exact ⟨_, hx, rfl⟩
    | some s =>
      simp only [RelF]
      refine ⟨x, cap, hx, hcap, h1, ?_⟩
      rcases hr with hd | hsub
      · rcases hf r s hs hd.1 with h1 | h1
        · exact .inl h1
        · exact absurd hd h1.1
      · exact subAt_via hf hs hsub
  case view =>
    intro e n g _ cs hk hr
    simp only [ren, RelF] at hr ⊢
    obtain ⟨a, cap, he, hle, hfit, hn⟩ := hr
    refine ⟨a, cap, he, hle, hfit, fun h0 => ?_⟩
    obtain ⟨b, o, ha, hS, hi⟩ := hn h0
    rcases hk with hk | hk
    · obtain ⟨hS', hh⟩ := hk b hS
      refine ⟨b, o, ha, hS', fun i hin => ?_⟩
      obtain ⟨cs', hc, hl, hv⟩ := hi i hin
      exact ⟨cs', cellsIn_of_heap hh hc, hl, relF_fits hT hk (hfit i hin) hv⟩
    · simp [views] at hk
  case mp =>
    intro r cs _ hr
    simp only [RelF] at hr
    obtain ⟨x, hx, hr⟩ := hr
    simp only [ren]
    cases hs : f r with
    | none => simp only [RelF]; exact ⟨_, hx, rfl⟩
    | some s =>
      simp only [RelF]
      refine ⟨x, hx, ?_⟩
      rcases hr with hd | ⟨hb, hp⟩
      · rcases hf r s hs hd.1 with h1 | h1
        · exact .inl h1
        · exact absurd hd h1.1
      · rcases hf r s hs (mapLike_lt hp) with h1 | ⟨_, h1, h2, _⟩
        · exact .inl h1
        · exact .inr ⟨h1.trans hb, sameKind_mapLike h2 hp⟩
  case fn =>
    intro g l ih cs hk hr
    simp only [ren, RelF] at hr ⊢
    obtain ⟨xs, he, hl⟩ := hr
    exact ⟨xs, he, (ih (hk.imp id fun h => by simpa [views] using h)).2 _ hl⟩
  case nd =>
    intro t l ih cs hk hr
    simp only [ren, RelF] at hr ⊢
    obtain ⟨fs, hfs, hl⟩ := hr
    exact ⟨fs, hfs, (ih (hk.imp id fun h => by simpa [views] using h)).1 fs cs hl⟩
  case arr =>
    intro t n g _ cs _ hr
    simp only [ren, RelF] at hr ⊢
    obtain ⟨e, he, cf, hcf, hi⟩ := hr
    refine ⟨e, he, cf, hcf, fun i hin => ⟨(hi i hin).1, (hi i hin).2.1, ?_⟩⟩
    obtain ⟨k, hk⟩ := ((hT _ _ he).size).2
    obtain ⟨m, hm⟩ := fitV_int hk (hi i hin).1
    have := (hi i hin).2.2
    rw [hm] at this ⊢
    simpa only [RelF] using this
  case tup =>
    intro l ih cs hk hr
    simp only [ren, RelF] at hr ⊢
    obtain ⟨xs, he, hl⟩ := hr
    exact ⟨xs, he, (ih (hk.imp id fun h => by simpa [views] using h)).2 _ hl⟩
  case nil => intro _; exact ⟨fun fs cs hr => relFs_nil.2 (relFs_nil.1 hr), fun xs hr => relVs_nil.2 (relVs_nil.1 hr)⟩
  case cons =>
    intro v l ihv ihl hk
    have hkv : Keeps X Y ∨ views v = false := hk.imp id fun h => ((viewsL_cons v l).1 h).1
    have hkl : Keeps X Y ∨ viewsL l = false := hk.imp id fun h => ((viewsL_cons v l).1 h).2
    refine ⟨fun fs cs hr => ?_, fun xs hr => ?_⟩
    · obtain ⟨t, fs', c1, c2, h1, h2, h3, h4, h5, h6⟩ := relFs_cons.1 hr
      exact relFs_cons.2 ⟨t, fs', c1, c2, h1, h2, ren_shape h3, h4, ihv c1 hkv h5, (ihl hkl).1 fs' c2 h6⟩
    · obtain ⟨x, xs', h1, h2, h3⟩ := relVs_cons.1 hr
      refine relVs_cons.2 ⟨x, xs', h1, ?_, (ihl hkl).2 xs' h3⟩
      rcases h2 with rfl | ⟨ha, h2⟩
      · exact .inl rfl
      · exact .inr ⟨aggOk_ren ha, ihv _ hkv h2⟩
theorem relF_via (hT : TabOk P T) {X Y : Rx} {f : Nat → Option Nat} (hf : Names f X Y) {v : V} {cs : List Value} (hk : Keeps X Y ∨ views v = false) (hr : RelF P T X v cs) : RelF P T Y (ren f v) cs := (via_all hT hf).1 v cs hk hr
theorem relVs_via (hT : TabOk P T) {X Y : Rx} {f : Nat → Option Nat} (hf : Names f X Y) {l : List V} {xs : List Value} (hk : Keeps X Y ∨ viewsL l = false) (hr : RelVs P T X l xs) : RelVs P T Y (rens f l) xs := ((via_all hT hf).2 l hk).2 xs hr
theorem rel_via (hT : TabOk P T) {X Y : Rx} {f : Nat → Option Nat} (hf : Names f X Y) {v : V} {x : Value} (hk : Keeps X Y ∨ views v = false) (hr : Rel P T X v x) : Rel P T Y (ren f v) x := by
  rcases hr with rfl | ⟨ha, hr⟩
  · exact .inl rfl
  · exact .inr ⟨aggOk_ren ha, relF_via hT hf hk hr⟩
end
end Go.VM

namespace Go.VM
section
variable {P : Program} {T : Tab}

/-- r's block stands in Y, where nobody writes it, as it stands in X -/
def Lent (X Y : Rx) (r : Nat) : Prop := (∃ e n, rowLike (X.reg r) e n) → ∀ b, X.blk r = some b → Y.S b ∧ Y.w.heap[b]? = X.w.heap[b]?

theorem memN_none (o : List Nat) (r : Nat) : memN r o = false ↔ posIn o r = none := by
  induction o with
  | nil => simp [memN, posIn]
  | cons s o ih =>
    simp only [memN, posIn]
    cases Nat.beq r s with
    | true => simp
    | false =>
      simp only
      rw [ih]
      cases posIn o r <;> simp
theorem mem_addTo_self (r : Nat) : ∀ o : List Nat, r ∈ addTo r o
  | [] => by simp [addTo]
  | s :: o => by
    simp only [addTo]
    split <;> rename_i h
    · rw [Nat.eq_of_beq_eq_true h]; simp
    · exact List.mem_cons_of_mem _ (mem_addTo_self r o)
theorem mem_addTo {x r : Nat} : ∀ o : List Nat, x ∈ o → x ∈ addTo r o
  | [], h => by cases h
  | s :: o, h => by
    simp only [addTo]
    split
    · exact h
    · rcases List.mem_cons.1 h with rfl | h
      · simp
      · exact List.mem_cons_of_mem _ (mem_addTo o h)
theorem mem_addTo_iff {x r : Nat} : ∀ o : List Nat, x ∈ addTo r o → x = r ∨ x ∈ o
  | [], h => by simp [addTo] at h; exact .inl h
  | s :: o, h => by
    simp only [addTo] at h
    split at h
    · exact .inr h
    · rcases List.mem_cons.1 h with rfl | h
      · simp
      · exact (mem_addTo_iff o h).imp id (List.mem_cons_of_mem _)
theorem lent_sub_all (o : List Nat) : (∀ v a r, r ∈ a → r ∈ lent o v a) ∧ (∀ l a r, r ∈ a → r ∈ lentL o l a) := by
  apply V.ind (M := fun v => ∀ a r, r ∈ a → r ∈ lent o v a) (L := fun l => ∀ a r, r ∈ a → r ∈ lentL o l a)
  case sub =>
    intro r off n a x h
    simp only [lent]
    split
    · exact h
    · exact mem_addTo a h
  case fn => intro g l ih a r h; simp only [lent]; exact ih a r h
  case nd => intro g l ih a r h; simp only [lent]; exact ih a r h
  case tup => intro l ih a r h; simp only [lent]; exact ih a r h
  case cons => intro v l ihv ihl a r h; simp only [lentL]; exact ihl _ r (ihv a r h)
  all_goals intros; simpa only [lent, lentL]
theorem lentL_sub {o : List Nat} (l : List V) (a : List Nat) (r : Nat) (h : r ∈ a) : r ∈ lentL o l a := (lent_sub_all o).2 l a r h

theorem lend_shape {G : List Reg} {o : List Nat} {t : Nat} {v : V} (h : tagShape T t v) : tagShape T t (lend T G o v) := by
  cases v <;> simp only [lend] <;> first | exact h | (split <;> exact h) | (split <;> first | exact h | (split <;> exact h))
theorem aggOk_lend {G : List Reg} {o : List Nat} {v : V} {x : Value} (h : aggOk v x) : aggOk (lend T G o v) x := by
  cases v <;> simp only [lend] <;> first | exact h | (split <;> exact h) | (split <;> first | exact h | (split <;> exact h))

theorem row_cells {X : Rx} {r e n i b : Nat} {f : Nat → V} {z : Bool} (h : RowOk P T X r e n f z) (hb : X.blk r = some b) (hi : i < n) :
    ∃ cs, cellsIn X.w b (i * sz P e) cs ∧ cs.length = sz P e ∧ RelF P T X (f i) cs := by
  obtain ⟨_, hfit, hrow⟩ := h
  rcases hrow with ⟨hn, _⟩ | ⟨b', cs, el, fz', cap, hb', hh, _, _, hsz, hcap, hel⟩
  · rw [hn] at hb; cases hb
  · rw [hb'] at hb; cases hb
    have hr := hel i hi
    have hle : i * sz P e + sz P e ≤ cs.size := by
      rw [hsz, ← Nat.succ_mul]
      exact Nat.mul_le_mul_right _ (by omega)
    have hl : ((cs.toList.drop (i * sz P e)).take (sz P e)).length = sz P e := by simp; omega
    refine ⟨_, ?_, hl, hr⟩
    have h1 := (List.take_append_drop (i * sz P e) cs.toList).symm
    have h2 := (List.take_append_drop (sz P e) (cs.toList.drop (i * sz P e))).symm
    have hsplit : cs.toList = cs.toList.take (i * sz P e) ++ (cs.toList.drop (i * sz P e)).take (sz P e) ++ (cs.toList.drop (i * sz P e)).drop (sz P e) := by
      rw [List.append_assoc, ← h2, ← h1]
    have := cellsIn_of_block hh hsplit
    simpa [Nat.min_eq_left (show i * sz P e ≤ cs.size by omega)] using this

/-- What is told of v in X is told of v in Y, its rows handed by value. -/
theorem lend_all (hT : TabOk P T) {X Y : Rx} (hX : RInv P T X) {o : List Nat} (hf : Names (posIn o) X Y) (hk : Keeps X Y) : (∀ v a cs, (∀ r, r ∈ lent o v a → Lent X Y r) → RelF P T X v cs → RelF P T Y (lend T X.G o v) cs) ∧
    (∀ l a, (∀ r, r ∈ lentL o l a → Lent X Y r) → (∀ fs cs, RelFs P T X l fs cs → RelFs P T Y (lends T X.G o l) fs cs) ∧ (∀ xs, RelVs P T X l xs → RelVs P T Y (lends T X.G o l) xs)) := by
  apply V.ind (M := fun v => ∀ a cs, (∀ r, r ∈ lent o v a → Lent X Y r) → RelF P T X v cs → RelF P T Y (lend T X.G o v) cs)
    (L := fun l => ∀ a, (∀ r, r ∈ lentL o l a → Lent X Y r) → (∀ fs cs, RelFs P T X l fs cs → RelFs P T Y (lends T X.G o l) fs cs) ∧ (∀ xs, RelVs P T X l xs → RelVs P T Y (lends T X.G o l) xs))
  case junk => intro acc cs hl hr; simpa only [lend, RelF] using hr
  case undef => intro acc cs hl hr; simpa only [lend, RelF] using hr
  case bool => intro b acc cs hl hr; simpa only [lend, RelF] using hr
  case int => intro k n acc cs hl hr; simpa only [lend, RelF] using hr
  case str => intro s acc cs hl hr; simpa only [lend, RelF] using hr
  case nilp => intro acc cs hl hr; simpa only [lend, RelF] using hr
  case nils => intro acc cs hl hr; simpa only [lend, RelF] using hr
  case nilm => intro acc cs hl hr; simpa only [lend, RelF] using hr
  case nilf => intro acc cs hl hr; simpa only [lend, RelF] using hr
  case ei => intro b t n acc cs hl hr; simpa only [lend, RelF] using hr
  case ptr =>
    intro r p t acc cs hl hr
    simp only [RelF] at hr
    obtain ⟨x, hx, hr⟩ := hr
    simp only [lend]
    cases hs : posIn o r with
    | none => simp only [RelF]; exact ⟨_, hx, rfl⟩
    | some s =>
      simp only [RelF]
      refine ⟨x, hx, ?_⟩
      rcases hr with hd | ⟨b, off, hb, hp, he⟩
      · rcases hf r s hs hd.1 with h1 | h1
        · exact .inl h1
        · exact absurd hd h1.1
      · rcases hf r s hs (ptrAt_lt hp) with h1 | ⟨_, h1, h2, _⟩
        · exact .inl h1
        · exact .inr ⟨b, off, h1.trans hb, sameKind_ptrAt h2 hp, he⟩
  case ref =>
    intro t v _ acc cs hl hr
    simp only [lend, RelF] at hr ⊢
    obtain ⟨b, o', he, hS, hfit, cs', hc, hl', hv⟩ := hr
    obtain ⟨hS', hh⟩ := hk b hS
    exact ⟨b, o', he, hS', hfit, cs', cellsIn_of_heap hh hc, hl', relF_fits hT hk hfit hv⟩
  case it =>
    intro r acc cs hl hr
    simp only [RelF] at hr
    obtain ⟨x, hx, hr⟩ := hr
    simp only [lend]
    cases hs : posIn o r with
    | none => simp only [RelF]; exact ⟨_, hx, rfl⟩
    | some s =>
      simp only [RelF]
      refine ⟨x, hx, ?_⟩
      rcases hr with hd | ⟨b, hb, hp, he⟩
      · rcases hf r s hs hd.1 with h1 | h1
        · exact .inl h1
        · exact absurd hd h1.1
      · rcases hf r s hs (iterLike_lt hp) with h1 | ⟨_, h1, h2, _⟩
        · exact .inl h1
        · exact .inr ⟨b, h1.trans hb, sameKind_iterLike h2 hp, he⟩
  case sub =>
    intro r off n acc cs hl hr
    simp only [RelF] at hr
    obtain ⟨x, cap, hx, hcap, h1, hr⟩ := hr
    simp only [lend]
    cases hs : posIn o r with
    | none =>
      have hlent : Lent X Y r := hl r (by simp only [lent, (memN_none o r).2 hs]; exact mem_addTo_self r acc)
      have row : ∀ e k g z, rowLike (X.reg r) e k → RowOk P T X r e k g z → RelF P T Y (.view e n (shiftF g off)) cs := by
        intro e k g z hlike hrow
        rcases hr with hd | ⟨e', k', hlike', hle, hb⟩
        · unfold Rx.dead at hd
          rw [hd.2] at hlike
          exact hlike.elim
        · obtain ⟨rfl, rfl⟩ : e' = e ∧ k' = k := by
            cases hg : X.reg r <;> rw [hg] at hlike hlike' <;> first | exact hlike.elim | exact ⟨hlike'.1.symm.trans hlike.1, hlike'.2.symm.trans hlike.2⟩
          simp only [RelF]
          refine ⟨x, cap, hx, hcap, fun i hi => by rw [shiftF_at]; exact hrow.2.1 _ (by omega), fun h0 => ?_⟩
          cases hX' : X.blk r with
          | none => simp only [hX'] at hb; omega
          | some b =>
            simp only [hX'] at hb
            refine ⟨b, _, hb.1 (by omega), (hlent ⟨_, _, hlike⟩ b hX').1, fun i hi => ?_⟩
            rw [shiftF_at]
            obtain ⟨cs', h2, h3, h4⟩ := row_cells hrow hX' (show off + i < k' by omega)
            refine ⟨cs', cellsIn_of_heap (hlent ⟨_, _, hlike⟩ b hX').2 ?_, h3, relF_fits hT hk (hrow.2.1 _ (by omega)) h4⟩
            rw [← Nat.add_mul]; exact h2
      cases hg : X.G.getD r .gone with
      | row e k g =>
        have hreg : X.reg r = .row e k g := hg
        have := hX.reg r (Rx.reg_lt (by rw [hreg]; simp))
        unfold RegOk at this
        rw [hreg] at this
        exact row e k g _ (by rw [hreg]; exact ⟨rfl, rfl⟩) this
      | frz e k g =>
        have hreg : X.reg r = .frz e k g := hg
        have := hX.reg r (Rx.reg_lt (by rw [hreg]; simp))
        unfold RegOk at this
        rw [hreg] at this
        exact row e k g _ (by rw [hreg]; exact ⟨rfl, rfl⟩) this
      | _ => simp only [RelF]; exact ⟨_, hx, rfl⟩
    | some s =>
      simp only [RelF]
      refine ⟨x, cap, hx, hcap, h1, ?_⟩
      rcases hr with hd | hsub
      · rcases hf r s hs hd.1 with h1 | h1
        · exact .inl h1
        · exact absurd hd h1.1
      · exact subAt_via hf hs hsub
  case view =>
    intro e n g _ acc cs hl hr
    simp only [lend, RelF] at hr ⊢
    obtain ⟨a, cap, he, hle, hfit, hn⟩ := hr
    refine ⟨a, cap, he, hle, hfit, fun h0 => ?_⟩
    obtain ⟨b, o', ha, hS, hi⟩ := hn h0
    obtain ⟨hS', hh⟩ := hk b hS
    refine ⟨b, o', ha, hS', fun i hin => ?_⟩
    obtain ⟨cs', hc, hl', hv⟩ := hi i hin
    exact ⟨cs', cellsIn_of_heap hh hc, hl', relF_fits hT hk (hfit i hin) hv⟩
  case mp =>
    intro r acc cs hl hr
    simp only [RelF] at hr
    obtain ⟨x, hx, hr⟩ := hr
    simp only [lend]
    cases hs : posIn o r with
    | none => simp only [RelF]; exact ⟨_, hx, rfl⟩
    | some s =>
      simp only [RelF]
      refine ⟨x, hx, ?_⟩
      rcases hr with hd | ⟨hb, hp⟩
      · rcases hf r s hs hd.1 with h1 | h1
        · exact .inl h1
        · exact absurd hd h1.1
      · rcases hf r s hs (mapLike_lt hp) with h1 | ⟨_, h1, h2, _⟩
        · exact .inl h1
        · exact .inr ⟨h1.trans hb, sameKind_mapLike h2 hp⟩
  case fn =>
    intro g l ih acc cs hl hr
    simp only [lend, RelF] at hr ⊢
    obtain ⟨xs, he, hl'⟩ := hr
    exact ⟨xs, he, (ih acc (fun r h => hl r (by simpa only [lent] using h))).2 _ hl'⟩
  case nd =>
    intro t l ih acc cs hl hr
    simp only [lend, RelF] at hr ⊢
    obtain ⟨fs, hfs, hl'⟩ := hr
    exact ⟨fs, hfs, (ih acc (fun r h => hl r (by simpa only [lent] using h))).1 fs cs hl'⟩
  case arr =>
    intro t n g _ acc cs _ hr
    simp only [lend, RelF] at hr ⊢
    obtain ⟨e, he, cf, hcf, hi⟩ := hr
    refine ⟨e, he, cf, hcf, fun i hin => ⟨(hi i hin).1, (hi i hin).2.1, ?_⟩⟩
    obtain ⟨k, hk⟩ := ((hT _ _ he).size).2
    obtain ⟨m, hm⟩ := fitV_int hk (hi i hin).1
    have := (hi i hin).2.2
    rw [hm] at this ⊢
    simpa only [RelF] using this
  case tup =>
    intro l ih acc cs hl hr
    simp only [lend, RelF] at hr ⊢
    obtain ⟨xs, he, hl'⟩ := hr
    exact ⟨xs, he, (ih acc (fun r h => hl r (by simpa only [lent] using h))).2 _ hl'⟩
  case nil => intro acc _; exact ⟨fun fs cs hr => relFs_nil.2 (relFs_nil.1 hr), fun xs hr => relVs_nil.2 (relVs_nil.1 hr)⟩
  case cons =>
    intro v l ihv ihl acc hl
    have hlv : ∀ r, r ∈ lent o v acc → Lent X Y r := fun r h => hl r (by simp only [lentL]; exact lentL_sub l _ r h)
    have hll : ∀ r, r ∈ lentL o l (lent o v acc) → Lent X Y r := fun r h => hl r (by simpa only [lentL] using h)
    refine ⟨fun fs cs hr => ?_, fun xs hr => ?_⟩
    · obtain ⟨t, fs', c1, c2, h1, h2, h3, h4, h5, h6⟩ := relFs_cons.1 hr
      exact relFs_cons.2 ⟨t, fs', c1, c2, h1, h2, lend_shape h3, h4, ihv acc c1 hlv h5, (ihl _ hll).1 fs' c2 h6⟩
    · obtain ⟨x, xs', h1, h2, h3⟩ := relVs_cons.1 hr
      refine relVs_cons.2 ⟨x, xs', h1, ?_, (ihl _ hll).2 xs' h3⟩
      rcases h2 with rfl | ⟨ha, h2⟩
      · exact .inl rfl
      · exact .inr ⟨aggOk_lend ha, ihv acc _ hlv h2⟩
theorem relF_lend (hT : TabOk P T) {X Y : Rx} (hX : RInv P T X) {o : List Nat} (hf : Names (posIn o) X Y) (hk : Keeps X Y) {v : V} {cs : List Value} {a : List Nat} (hl : ∀ r, r ∈ lent o v a → Lent X Y r) (hr : RelF P T X v cs) : RelF P T Y (lend T X.G o v) cs :=
  (lend_all hT hX hf hk).1 v a cs hl hr
theorem rel_lend (hT : TabOk P T) {X Y : Rx} (hX : RInv P T X) {o : List Nat} (hf : Names (posIn o) X Y) (hk : Keeps X Y) {v : V} {x : Value} {a : List Nat} (hl : ∀ r, r ∈ lent o v a → Lent X Y r) (hr : Rel P T X v x) : Rel P T Y (lend T X.G o v) x := by
  rcases hr with rfl | ⟨ha, hr⟩
  · exact .inl rfl
  · exact .inr ⟨aggOk_lend ha, relF_lend hT hX hf hk hl hr⟩
theorem relVs_lend (hT : TabOk P T) {X Y : Rx} (hX : RInv P T X) {o : List Nat} (hf : Names (posIn o) X Y) (hk : Keeps X Y) {l : List V} {xs : List Value} {a : List Nat} (hl : ∀ r, r ∈ lentL o l a → Lent X Y r) (hr : RelVs P T X l xs) : RelVs P T Y (lends T X.G o l) xs :=
  ((lend_all hT hX hf hk).2 l a hl).2 xs hr
end
end Go.VM

namespace Go.VM
section
variable {P : Program} {T : Tab}

theorem sameKind_refl {g : Reg} (h : g ≠ .gone) : sameKind g g := by cases g <;> simp_all [sameKind]
theorem sameKind_trans {a b c : Reg} (h : sameKind a b) (h' : sameKind b c) : sameKind a c := by
  cases a <;> cases b <;> simp_all [sameKind] <;> cases c <;> simp_all
theorem sameKind_live {a b : Reg} (h : sameKind a b) : a ≠ .gone ∧ b ≠ .gone := by cases a <;> cases b <;> simp_all [sameKind]
theorem writable_live {g : Reg} (h : writable g) : g ≠ .gone := by rintro rfl; exact h
theorem rowLike_live {g : Reg} {e n : Nat} (h : rowLike g e n) : g ≠ .gone := by rintro rfl; exact h

/-- What a piece of the walk may do: names live on or die, nobody writes what isn't the function's. -/
structure Step (X Y : Rx) : Prop where
  ext : Ext X Y
  os : Y.w.os = X.w.os
  tape : Y.w.tape = X.w.tape
  output : Y.w.output = X.w.output
  size : X.w.heap.size ≤ Y.w.heap.size
  len : X.G.length ≤ Y.G.length
  keep : ∀ b, b < X.w.heap.size → (∀ r, X.blk r = some b → ¬ writable (X.reg r)) → Y.w.heap[b]? = X.w.heap[b]?
  own : ∀ r b, Y.blk r = some b → Y.reg r ≠ .gone → X.w.heap.size ≤ b ∨ ∃ s, X.blk s = some b ∧ X.reg s ≠ .gone ∧ (writable (Y.reg r) → writable (X.reg s))
  sown : ∀ b, Y.S b → X.S b ∨ X.w.heap.size ≤ b ∨ ∃ s, X.blk s = some b ∧ X.reg s ≠ .gone

theorem Ext.refl (X : Rx) : Ext X X :=
  ⟨fun r hr => by
    by_cases hd : X.dead r
    · exact .inl hd
    · exact .inr ⟨hd, rfl, sameKind_refl fun h => hd ⟨hr, h⟩, fun _ _ => Nat.le_refl _⟩, fun b h => ⟨h, rfl⟩⟩
theorem Ext.trans {X Y Z : Rx} (h : Ext X Y) (h' : Ext Y Z) (hl : X.G.length ≤ Y.G.length) : Ext X Z := by
  refine ⟨fun r hr => ?_, fun b hb => ?_⟩
  · rcases h'.reg r (by omega) with hd | ⟨hd, k1, k2, k3⟩
    · exact .inl hd
    · rcases h.reg r hr with h1 | ⟨h1, h2, h3, h4⟩
      · exact absurd h1 hd
      · exact .inr ⟨h1, k1.trans h2, sameKind_trans h3 k2, fun b hb => Nat.le_trans (h4 b hb) (k3 b (h2.trans hb))⟩
  · obtain ⟨h1, h2⟩ := h.safe b hb
    obtain ⟨h3, h4⟩ := h'.safe b h1
    exact ⟨h3, h4.trans h2⟩
theorem Step.refl (X : Rx) : Step X X :=
  ⟨Ext.refl X, rfl, rfl, rfl, Nat.le_refl _, Nat.le_refl _, fun _ _ _ => rfl, fun r _ h1 h2 => .inr ⟨r, h1, h2, id⟩, fun _ h => .inl h⟩
theorem Step.trans {X Y Z : Rx} (h : Step X Y) (h' : Step Y Z) : Step X Z := by
  refine ⟨h.ext.trans h'.ext h.len, h'.os.trans h.os, h'.tape.trans h.tape, h'.output.trans h.output, Nat.le_trans h.size h'.size, Nat.le_trans h.len h'.len, fun b hb hn => ?_, fun r b h1 h2 => ?_, fun b hb => ?_⟩
  · refine (h'.keep b (Nat.lt_of_lt_of_le hb h.size) fun r hr hw => ?_).trans (h.keep b hb hn)
    rcases h.own r b hr (writable_live hw) with h1 | ⟨s, h1, h2, h3⟩
    · omega
    · exact hn s h1 (h3 hw)
  · rcases h'.own r b h1 h2 with h3 | ⟨s, h3, h4, h5⟩
    · exact .inl (Nat.le_trans h.size h3)
    · rcases h.own s b h3 h4 with k | ⟨s', k1, k2, k3⟩
      · exact .inl k
      · exact .inr ⟨s', k1, k2, fun hw => k3 (h5 hw)⟩
  · rcases h'.sown b hb with h1 | h1 | ⟨s, h1, h2⟩
    · exact h.sown b h1
    · exact .inr (.inl (Nat.le_trans h.size h1))
    · rcases h.own s b h1 h2 with k | ⟨s', k1, k2, _⟩
      · exact .inr (.inl k)
      · exact .inr (.inr ⟨s', k1, k2⟩)

theorem RInv.blk_lt {X : Rx} (hX : RInv P T X) {r b : Nat} (hb : X.blk r = some b) (hg : X.reg r ≠ .gone) : b < X.w.heap.size := by
  have hr := hX.reg r (Rx.reg_lt hg)
  unfold RegOk at hr
  have row : ∀ {e n f z}, RowOk P T X r e n f z → b < X.w.heap.size := by
    rintro e n f z ⟨_, _, ⟨h, _⟩ | ⟨b', cs, el, fz, cap, hb', hh, _⟩⟩
    · rw [h] at hb; cases hb
    · rw [hb'] at hb; cases hb
      exact (Array.getElem?_eq_some_iff.1 hh).1
  cases hreg : X.reg r with
  | gone => exact absurd hreg hg
  | box t v =>
    rw [hreg] at hr
    obtain ⟨_, _, b', cs, el, hb', hh, _⟩ := hr
    rw [hb'] at hb; cases hb
    exact (Array.getElem?_eq_some_iff.1 hh).1
  | row e n f => rw [hreg] at hr; exact row hr
  | frz e n f => rw [hreg] at hr; exact row hr
  | map t c l =>
    rw [hreg] at hr
    obtain ⟨_, _, _, b', es, hb', hh, _⟩ := hr
    rw [hb'] at hb; cases hb
    exact (Array.getElem?_eq_some_iff.1 hh).1
  | iter m a c s =>
    rw [hreg] at hr
    obtain ⟨b', bm, seen, hb', hh, _⟩ := hr
    rw [hb'] at hb; cases hb
    exact (Array.getElem?_eq_some_iff.1 hh).1

/-- a region that nobody touched -/
theorem regOk_same {X Y : Rx} (hE : Ext X Y) {r : Nat} (hreg : Y.reg r = X.reg r) (hblk : Y.blk r = X.blk r) (hh : ∀ b, X.blk r = some b → X.reg r ≠ .gone → Y.w.heap[b]? = X.w.heap[b]?)
    (h : RegOk P T X r) : RegOk P T Y r := by
  unfold RegOk at h ⊢
  rw [hreg]
  have row : ∀ {e n f z}, X.reg r ≠ .gone → RowOk P T X r e n f z → RowOk P T Y r e n f z := by
    rintro e n f z hg ⟨hd, hfit, hrow⟩
    refine ⟨hd, hfit, ?_⟩
    rcases hrow with ⟨h1, h2⟩ | ⟨b, cs, el, fz, cap, h1, h2, h3, h4, h5, h6, h7⟩
    · exact .inl ⟨hblk.trans h1, h2⟩
    · exact .inr ⟨b, cs, el, fz, cap, hblk.trans h1, (hh b h1 hg).trans h2, h3, fun hz => (hE.safe b (h4 hz)).1, h5, h6, fun i hi => relF_mono hE (h7 i hi)⟩
  cases hg : X.reg r with
  | gone => trivial
  | box t v =>
    simp only [hg] at h ⊢
    obtain ⟨hd, hs, b, cs, el, h1, h2, h3, h4⟩ := h
    exact ⟨hd, hs, b, cs, el, hblk.trans h1, (hh b h1 (by rw [hg]; simp)).trans h2, h3, relF_mono hE h4⟩
  | row e n f => simp only [hg] at h ⊢; exact row (by rw [hg]; simp) h
  | frz e n f => simp only [hg] at h ⊢; exact row (by rw [hg]; simp) h
  | map t c l =>
    simp only [hg] at h ⊢
    obtain ⟨k, e, hd, b, es, h1, h2, h3, hds, h4⟩ := h
    exact ⟨k, e, hd, b, es, hblk.trans h1, (hh b h1 (by rw [hg]; simp)).trans h2, h3, hds, fun i kv hi => by
      obtain ⟨f0, f1, f2, en, e1, e2, e3, e5, e4⟩ := h4 i kv hi
      exact ⟨f0, f1, f2, en, e1, rel_mono hE e2, rel_mono hE e3, e5, e4⟩⟩
  | iter m a c s =>
    simp only [hg] at h ⊢
    obtain ⟨b, bm, seen, h1, h2, h3, h4⟩ := h
    exact ⟨b, bm, seen, hblk.trans h1, (hh b h1 (by rw [hg]; simp)).trans h2, h3, relF_mono hE h4⟩

/-- SOME REGIONS CHANGE, SOME ARE NEW, THE REST STAYS. -/
theorem mk_ok {X Y : Rx} (hX : RInv P T X) (chg : Nat → Prop) (hYl : Y.ρ.length = Y.G.length) (hlen : X.G.length ≤ Y.G.length) (hSS : Y.S = X.S)
    (hos : Y.w.os = X.w.os) (htape : Y.w.tape = X.w.tape) (hout : Y.w.output = X.w.output) (hsize : X.w.heap.size ≤ Y.w.heap.size)
    (hold : ∀ r, chg r → r < X.G.length ∧ writable (X.reg r) ∧ (Y.reg r = .gone ∨ (sameKind (X.reg r) (Y.reg r) ∧ Y.blk r = X.blk r)))
    (hsame : ∀ r, r < X.G.length → ¬ chg r → Y.reg r = X.reg r ∧ Y.blk r = X.blk r)
    (hheap : ∀ b, b < X.w.heap.size → (∀ r, chg r → X.blk r ≠ some b) → Y.w.heap[b]? = X.w.heap[b]?)
    (hbs : ∀ b, bsize X.w b ≤ bsize Y.w b)
    (hown : ∀ r b, (chg r ∨ X.G.length ≤ r) → Y.blk r = some b → Y.reg r ≠ .gone → X.w.heap.size ≤ b ∨ ∃ s, chg s ∧ X.blk s = some b)
    (hinj : ∀ r s b, r ≠ s → (chg r ∨ X.G.length ≤ r) → (chg s ∨ X.G.length ≤ s) → Y.blk r = some b → Y.blk s = some b → Y.reg r = .gone ∨ Y.reg s = .gone)
    (hreg : Ext X Y → ∀ r, r < Y.G.length → (chg r ∨ X.G.length ≤ r) → RegOk P T Y r) : RInv P T Y ∧ Step X Y := by
  have hE : Ext X Y := by
    refine ⟨fun r hr => ?_, fun b hb => ?_⟩
    · by_cases hc : chg r
      · obtain ⟨_, hw, h | ⟨h1, h2⟩⟩ := hold r hc
        · exact .inl ⟨by omega, h⟩
        · exact .inr ⟨fun hd => writable_live hw hd.2, h2, h1, fun b _ => hbs b⟩
      · obtain ⟨h1, h2⟩ := hsame r hr hc
        by_cases hd : X.reg r = .gone
        · exact .inl ⟨by omega, h1.trans hd⟩
        · exact .inr ⟨fun h => hd h.2, h2, by rw [h1]; exact sameKind_refl hd, fun b _ => hbs b⟩
    · obtain ⟨h1, h2⟩ := hX.safe b hb
      exact ⟨by rw [hSS]; exact hb, hheap b h1 fun r hc hr => h2 r hr (hold r hc).2.1⟩
  have hfar : ∀ r b, r < X.G.length → ¬ chg r → X.blk r = some b → X.reg r ≠ .gone → ∀ s, chg s → X.blk s ≠ some b := by
    intro r b hr hc hb hg s hs hsb
    rcases hX.inj r s b (fun e => hc (e ▸ hs)) hb hsb with h | h
    · exact hg h
    · exact writable_live (hold s hs).2.1 h
  have hcase : ∀ r, (chg r ∨ X.G.length ≤ r) ∨ (r < X.G.length ∧ ¬ chg r) := by
    intro r
    by_cases hc : chg r
    · exact .inl (.inl hc)
    · rcases Nat.lt_or_ge r X.G.length with h | h
      · exact .inr ⟨h, hc⟩
      · exact .inl (.inr h)
  refine ⟨⟨hYl, fun r hr => ?_, fun r s b hne h1 h2 => ?_, fun b hb => ?_⟩, ⟨hE, hos, htape, hout, hsize, hlen, fun b hb hn => ?_, fun r b h1 h2 => ?_, fun b hb => .inl (by rw [← hSS]; exact hb)⟩⟩
  · rcases hcase r with hc | ⟨h1, h2⟩
    · exact hreg hE r hr hc
    · obtain ⟨h3, h4⟩ := hsame r h1 h2
      refine regOk_same hE h3 h4 (fun b hb hg => hheap b (hX.blk_lt hb hg) (hfar r b h1 h2 hb hg)) (hX.reg r h1)
  · have mixed : ∀ r s, (chg r ∨ X.G.length ≤ r) → (s < X.G.length ∧ ¬ chg s) → Y.blk r = some b → Y.blk s = some b → Y.reg r = .gone ∨ Y.reg s = .gone := by
      intro r s hr hs h1 h2
      by_cases hgr : Y.reg r = .gone
      · exact .inl hgr
      · obtain ⟨h3, h4⟩ := hsame s hs.1 hs.2
        rw [h4] at h2
        by_cases hgs : X.reg s = .gone
        · exact .inr (h3.trans hgs)
        · rcases hown r b hr h1 hgr with h | ⟨s', hs', hb'⟩
          · have := hX.blk_lt h2 hgs; omega
          · exact absurd hb' (hfar s b hs.1 hs.2 h2 hgs s' hs')
    rcases hcase r with hr | hr
    · rcases hcase s with hs | hs
      · exact hinj r s b hne hr hs h1 h2
      · exact mixed r s hr hs h1 h2
    · rcases hcase s with hs | hs
      · exact (mixed s r hs hr h2 h1).symm
      · obtain ⟨k1, k2⟩ := hsame r hr.1 hr.2
        obtain ⟨k3, k4⟩ := hsame s hs.1 hs.2
        rw [k2] at h1
        rw [k4] at h2
        rw [k1, k3]
        exact hX.inj r s b hne h1 h2
  · rw [hSS] at hb
    obtain ⟨h1, h2⟩ := hX.safe b hb
    refine ⟨by omega, fun r hr hw => ?_⟩
    rcases hcase r with hc | ⟨k1, k2⟩
    · rcases hown r b hc hr (writable_live hw) with h | ⟨s, hs, hsb⟩
      · omega
      · exact h2 s hsb (hold s hs).2.1
    · obtain ⟨h3, h4⟩ := hsame r k1 k2
      rw [h4] at hr
      rw [h3] at hw
      exact h2 r hr hw
  · exact hheap b hb fun r hc hr => hn r hr (hold r hc).2.1
  · rcases hcase r with hc | ⟨k1, k2⟩
    · rcases hown r b hc h1 h2 with h | ⟨s, hs, hsb⟩
      · exact .inl h
      · exact .inr ⟨s, hsb, writable_live (hold s hs).2.1, fun _ => (hold s hs).2.1⟩
    · obtain ⟨h3, h4⟩ := hsame r k1 k2
      rw [h4] at h1
      rw [h3] at h2 ⊢
      exact .inr ⟨r, h1, h2, id⟩

/-! ### Rows are frozen -/
theorem freezeAll_len : ∀ (l : List Nat) (G : List Reg), (freezeAll G l).length = G.length
  | [], _ => rfl
  | r :: l, G => by simp only [freezeAll]; rw [freezeAll_len l]; simp
theorem freeze_idem (g : Reg) : g.freeze.freeze = g.freeze := by cases g <;> rfl
theorem freeze_gone (g : Reg) : g.freeze = .gone ↔ g = .gone := by cases g <;> simp [Reg.freeze]
theorem getD_set (G : List Reg) (r s : Nat) (g : Reg) : (G.set r g).getD s .gone = if s = r ∧ r < G.length then g else G.getD s .gone := by
  simp only [List.getD_eq_getElem?_getD, List.getElem?_set]
  by_cases h : r = s
  · subst h
    by_cases hl : r < G.length
    · simp [hl]
    · simp [hl]
  · simp [h, Ne.symm h]
theorem freezeAll_getD : ∀ (l : List Nat) (G : List Reg) (s : Nat), (freezeAll G l).getD s .gone = if s ∈ l then (G.getD s .gone).freeze else G.getD s .gone
  | [], G, s => by simp [freezeAll]
  | r :: l, G, s => by
    simp only [freezeAll]
    rw [freezeAll_getD l, getD_set]
    by_cases hr : s = r
    · subst hr
      by_cases hl : s < G.length
      · simp [hl, freeze_idem]
      · have hg : G.getD s .gone = .gone := by simp [List.getElem?_eq_none (Nat.le_of_not_lt hl)]
        simp only [hl, and_false, if_false, List.mem_cons_self, if_true, hg]
        split <;> rfl
    · simp [hr]

def frzX (X : Rx) (l : List Nat) : Rx := ⟨X.w, freezeAll X.G l, X.ρ, fun b => X.S b ∨ ∃ r, r ∈ l ∧ X.blk r = some b ∧ ∃ e n, rowLike (X.reg r) e n⟩
theorem frzX_reg (X : Rx) (l : List Nat) (s : Nat) : (frzX X l).reg s = if s ∈ l then (X.reg s).freeze else X.reg s := freezeAll_getD l X.G s
theorem frzX_blk (X : Rx) (l : List Nat) (s : Nat) : (frzX X l).blk s = X.blk s := rfl
theorem sameKind_freeze {g : Reg} (h : g ≠ .gone) : sameKind g g.freeze := by cases g <;> simp_all [sameKind, Reg.freeze]
theorem writable_freeze {g : Reg} (h : writable g.freeze) : writable g ∧ ∀ e n, ¬ rowLike g e n := by cases g <;> simp_all [writable, Reg.freeze, rowLike]

theorem frz_ok {X : Rx} (hX : RInv P T X) (l : List Nat) : RInv P T (frzX X l) ∧ Step X (frzX X l) := by
  have hgone : ∀ r, (frzX X l).reg r = .gone ↔ X.reg r = .gone := by
    intro r
    rw [frzX_reg]
    split
    · exact freeze_gone _
    · rfl
  have hkind : ∀ r, X.reg r ≠ .gone → sameKind (X.reg r) ((frzX X l).reg r) := by
    intro r h
    rw [frzX_reg]
    split
    · exact sameKind_freeze h
    · exact sameKind_refl h
  have hwr : ∀ r, writable ((frzX X l).reg r) → writable (X.reg r) ∧ (r ∈ l → ∀ e n, ¬ rowLike (X.reg r) e n) := by
    intro r h
    rw [frzX_reg] at h
    split at h
    · exact ⟨(writable_freeze h).1, fun _ => (writable_freeze h).2⟩
    · rename_i hn
      exact ⟨h, fun h' => absurd h' hn⟩
  have hE : Ext X (frzX X l) := by
    refine ⟨fun r hr => ?_, fun b hb => ⟨.inl hb, rfl⟩⟩
    by_cases hd : X.reg r = .gone
    · exact .inl ⟨by show r < (freezeAll X.G l).length; rw [freezeAll_len]; exact hr, (hgone r).2 hd⟩
    · exact .inr ⟨fun h => hd h.2, rfl, hkind r hd, fun _ _ => Nat.le_refl _⟩
  refine ⟨⟨?_, fun r hr => ?_, fun r s b hne h1 h2 => ?_, fun b hb => ?_⟩, ⟨hE, rfl, rfl, rfl, Nat.le_refl _, ?_, fun _ _ _ => rfl, fun r b h1 h2 => ?_, fun b hb => ?_⟩⟩
  · show X.ρ.length = (freezeAll X.G l).length
    rw [freezeAll_len]; exact hX.len
  · have hr' : r < X.G.length := by
      have : r < (freezeAll X.G l).length := hr
      rwa [freezeAll_len] at this
    have h := hX.reg r hr'
    by_cases hl : r ∈ l
    · have e := frzX_reg X l r
      rw [if_pos hl] at e
      unfold RegOk at h ⊢
      rw [e]
      cases hg : X.reg r with
      | row e n f =>
        simp only [hg] at h
        obtain ⟨hd, hfit, hrow⟩ := h
        simp only [Reg.freeze]
        refine ⟨hd, hfit, ?_⟩
        rcases hrow with h1 | ⟨b, cs, el, fz, cap, h1, h2, h3, h4, h5, h6, h7⟩
        · exact .inl h1
        · exact .inr ⟨b, cs, el, fz, cap, h1, h2, by simp, fun _ => .inr ⟨r, hl, h1, e, n, by rw [hg]; exact ⟨rfl, rfl⟩⟩, h5, h6, fun i hi => relF_mono hE (h7 i hi)⟩
      | gone => trivial
      | box t v =>
        simp only [hg] at h
        simp only [Reg.freeze]
        obtain ⟨hd, hs, b, cs, el, h1, h2, h3, h4⟩ := h
        exact ⟨hd, hs, b, cs, el, h1, h2, h3, relF_mono hE h4⟩
      | frz e n f =>
        simp only [hg] at h
        simp only [Reg.freeze]
        obtain ⟨hd, hfit, hrow⟩ := h
        refine ⟨hd, hfit, ?_⟩
        rcases hrow with h1 | ⟨b, cs, el, fz, cap, h1, h2, h3, h4, h5, h6, h7⟩
        · exact .inl h1
        · exact .inr ⟨b, cs, el, fz, cap, h1, h2, h3, fun hz => .inl (h4 hz), h5, h6, fun i hi => relF_mono hE (h7 i hi)⟩
      | map t c l =>
        simp only [hg] at h
        simp only [Reg.freeze]
        obtain ⟨k, e, hd, b, es, h1, h2, h3, hds, h4⟩ := h
        exact ⟨k, e, hd, b, es, h1, h2, h3, hds, fun i kv hi => by
          obtain ⟨f0, f1, f2, en, e1, e2, e3, e5, e4⟩ := h4 i kv hi
          exact ⟨f0, f1, f2, en, e1, rel_mono hE e2, rel_mono hE e3, e5, e4⟩⟩
      | iter m a c s =>
        simp only [hg] at h
        simp only [Reg.freeze]
        obtain ⟨b, bm, seen, h1, h2, h3, h4⟩ := h
        exact ⟨b, bm, seen, h1, h2, h3, relF_mono hE h4⟩
    · refine regOk_same hE ?_ rfl (fun b _ _ => rfl) h
      rw [frzX_reg, if_neg hl]
  · rw [hgone, hgone]; exact hX.inj r s b hne h1 h2
  · rcases hb with hb | ⟨r0, h0, h1, e, n, h2⟩
    · obtain ⟨k1, k2⟩ := hX.safe b hb
      exact ⟨k1, fun r hr hw => k2 r hr (hwr r hw).1⟩
    · refine ⟨hX.blk_lt h1 (rowLike_live h2), fun r hr hw => ?_⟩
      by_cases hrr : r = r0
      · subst hrr
        exact (hwr r hw).2 h0 e n h2
      · rcases hX.inj r r0 b hrr hr h1 with h | h
        · exact writable_live (hwr r hw).1 h
        · exact rowLike_live h2 h
  · show X.G.length ≤ (freezeAll X.G l).length
    rw [freezeAll_len]; exact Nat.le_refl _
  · exact .inr ⟨r, h1, fun h => h2 ((hgone r).2 h), fun hw => (hwr r hw).1⟩
  · rcases hb with hb | ⟨r0, h0, h1, e, n, h2⟩
    · exact .inl hb
    · exact .inr (.inr ⟨r0, h1, rowLike_live h2⟩)
end
end Go.VM

namespace Go.VM
section
variable {P : Program} {T : Tab} {β : Type} {PP : β → Prop}

theorem fits_lend_all (G : List Reg) (o : List Nat) : (∀ v t, fitV T v t = true → lend T G o v = v) ∧ (∀ l ts, fitVs T l ts = true → lends T G o l = l) := by
  apply V.ind (M := fun v => ∀ t, fitV T v t = true → lend T G o v = v) (L := fun l => ∀ ts, fitVs T l ts = true → lends T G o l = l)
  case ptr => intro r p u t h; simp [fitV] at h
  case it => intro r t h; simp [fitV] at h
  case sub => intro r o n t h; simp [fitV] at h
  case mp => intro r t h; simp [fitV] at h
  case fn => intro g l _ t h; simp [fitV] at h
  case tup => intro l _ t h; simp [fitV] at h
  case nd =>
    intro u l ih t h
    simp only [fitV] at h
    split at h
    · simp only [lend]; rw [ih _ h]
    · cases h
  case nil => intro ts _; rfl
  case cons =>
    intro v l ihv ihl ts h
    cases ts with
    | nil => simp [fitVs] at h
    | cons t ts =>
      simp only [fitVs] at h
      split at h
      · rename_i hv
        simp only [lends]
        rw [ihv t hv, ihl ts h]
      · cases h
  all_goals intros; simp only [lend]
theorem fits_lend {G : List Reg} {o : List Nat} {v : V} {t : Nat} (h : fitV T v t = true) : lend T G o v = v := (fits_lend_all G o).1 v t h

/-- a value that goes into a row: its own rows are frozen -/
theorem esc_ok (hT : TabOk P T) {X : Rx} (hX : RInv P T X) {v : V} {cs : List Value} (hv : RelF P T X v cs) :
    ∃ X1, RInv P T X1 ∧ Step X X1 ∧ X1.w = X.w ∧ X1.ρ = X.ρ ∧ X1.G = escG X.G v ∧ RelF P T X1 (escV T X.G v) cs := by
  obtain ⟨h1, h2⟩ := frz_ok hX (lent [] v [])
  refine ⟨frzX X (lent [] v []), h1, h2, rfl, rfl, rfl, ?_⟩
  refine relF_lend hT hX (o := []) (fun r s h => by simp [posIn] at h) h2.ext.safe (a := []) (fun r hr hl b hb => ⟨.inr ⟨r, hr, hb, hl⟩, rfl⟩) hv

theorem blk_get {α : Type} (k i j : Nat) (l : List α) : ((l.drop (i * k)).take k)[j]? = if j < k then l[i * k + j]? else none := by
  rw [List.getElem?_take]
  split
  · rw [List.getElem?_drop]
  · rfl
theorem over_get {α : Type} (l c : List α) (o j : Nat) (h : o + c.length ≤ l.length) :
    (l.take o ++ c ++ l.drop (o + c.length))[j]? = if j < o then l[j]? else if j < o + c.length then c[j - o]? else l[j]? := by
  by_cases h1 : j < o
  · rw [List.append_assoc, List.getElem?_append_left (by simp; omega), List.getElem?_take, if_pos h1, if_pos h1]
  · rw [if_neg h1]
    by_cases h2 : j < o + c.length
    · rw [if_pos h2, List.getElem?_append_left (by simp; omega), List.getElem?_append_right (by simp; omega)]
      congr 1; simp; omega
    · rw [if_neg h2, List.getElem?_append_right (by simp; omega), List.getElem?_drop]
      congr 1; simp; omega

theorem run_storeVar {w : World} {t b off : Nat} {cur : Array Value} {el : Nat} {y : Value} {d : TyD} (hF : TyFacts P T t d) (hg : w.heap[b]? = some (.cells cur el (0, 0)))
    (hl : (cellsL y).length = sz P t) (hfit : off + sz P t ≤ cur.size) (h1 : ∀ x ∈ cellsL y, x.oneCell' = true) :
    (storeVar t ⟨b, off, none⟩ y).run P w = .ok () (w.setRow b (cur.toList.take off ++ cellsL y ++ cur.toList.drop (off + (cellsL y).length)).toArray) := by
  have hs : y.cells.size = sz P t := by rw [← Array.length_toList, cells_cellsL, hl]
  have := run_storeCells_at P b off el (cellsL y) 0 cur w hg (by omega) h1
  simp only [Nat.add_zero] at this
  simp [storeVar, hF.run_sizeOf, hs, cells_cellsL, this]

theorem bsize_setRow (w : World) (g : Nat) (old cs : Array Value) (t : TypeId) (fr : Nat × Nat) (hg : w.heap[g]? = some (.cells old t fr)) (hs : old.size ≤ cs.size) (b : Nat) : bsize w b ≤ bsize (w.setRow g cs) b := by
  unfold bsize
  by_cases h : b = g
  · subst h
    rw [setRow_heap w b old cs t fr hg, hg]
    exact hs
  · rw [setRow_other w g b cs h]
    exact Nat.le_refl _

theorem reg_set {X : Rx} {r s : Nat} {g : Reg} (hr : r < X.G.length) : (X.G.set r g).getD s .gone = if s = r then g else X.reg s := by
  rw [getD_set]
  by_cases h : s = r
  · subst h; simp [hr]
  · simp [h, Rx.reg]

/-- a region's block is written, its content with it -/
theorem write_ok {X : Rx} (hX : RInv P T X) {r b el : Nat} {cur new : Array Value} {g' : Reg} (hr : r < X.G.length) (hw : writable (X.reg r)) (hk : sameKind (X.reg r) g') (hb : X.blk r = some b)
    (hg : X.w.heap[b]? = some (.cells cur el (0, 0))) (hs : new.size = cur.size)
    (hreg : ∀ Y : Rx, Y = ⟨X.w.setRow b new, X.G.set r g', X.ρ, X.S⟩ → Ext X Y → Y.blk r = some b → Y.w.heap[b]? = some (.cells new el (0, 0)) → Y.reg r = g' → RegOk P T Y r) :
    RInv P T ⟨X.w.setRow b new, X.G.set r g', X.ρ, X.S⟩ ∧ Step X ⟨X.w.setRow b new, X.G.set r g', X.ρ, X.S⟩ := by
  have hblk : ∀ s, (⟨X.w.setRow b new, X.G.set r g', X.ρ, X.S⟩ : Rx).blk s = X.blk s := fun _ => rfl
  have hrg : ∀ s, (⟨X.w.setRow b new, X.G.set r g', X.ρ, X.S⟩ : Rx).reg s = if s = r then g' else X.reg s := fun s => reg_set hr
  refine mk_ok hX (fun s => s = r) (by show X.ρ.length = (X.G.set r g').length; rw [List.length_set]; exact hX.len) (by show X.G.length ≤ (X.G.set r g').length; simp) rfl rfl rfl rfl (by show _ ≤ (X.w.setRow b new).heap.size; simp) ?_ ?_ ?_ ?_ ?_ ?_ ?_
  · rintro s rfl
    exact ⟨hr, hw, .inr ⟨by rw [hrg, if_pos rfl]; exact hk, rfl⟩⟩
  · intro s _ hne
    exact ⟨by rw [hrg, if_neg hne], rfl⟩
  · intro b' hb' hne
    exact setRow_other X.w b b' new (fun e => hne r rfl (e ▸ hb))
  · exact bsize_setRow X.w b cur new el _ hg (by omega)
  · intro s b' hs hb' hg'
    rcases hs with rfl | hs
    · exact .inr ⟨s, rfl, hb'⟩
    · rw [hrg] at hg'
      split at hg'
      · rename_i e; subst e; omega
      · exact absurd (by simp [Rx.reg, List.getElem?_eq_none hs]) hg'
  · intro s s' b' hne hs hs' _ _
    have far : ∀ s, (s = r ∨ X.G.length ≤ s) → s ≠ r → (⟨X.w.setRow b new, X.G.set r g', X.ρ, X.S⟩ : Rx).reg s = .gone := by
      intro s hs hne
      rw [hrg, if_neg hne]
      exact by simp [Rx.reg, List.getElem?_eq_none (hs.resolve_left hne)]
    by_cases h : s = r
    · subst h; exact .inr (far s' hs' (Ne.symm hne))
    · exact .inl (far s hs h)
  · intro hE s hsl hs
    rcases hs with rfl | hs
    · exact hreg _ rfl hE hb (setRow_heap X.w b cur new el _ hg) (by rw [hrg, if_pos rfl])
    · exact absurd hsl (by show ¬ s < (X.G.set r g').length; rw [List.length_set]; omega)

theorem storeR_ok (hT : TabOk P T) {X : Rx} (hX : RInv P T X) {r t b off : Nat} {p : List Nat} (hb : X.blk r = some b) (hp : PtrAt P T (X.reg r) p t off) {x : V} {y : Value}
    (hx : RelF P T X x (cellsL y)) (hsh : tagShape T t x) (hfl : T.flat t = true → fitV T x t = true) {K : List Reg → R β} (h : All PP (storeR T X.G r p x K)) :
    ∃ Y, All PP (K Y.G) ∧ RInv P T Y ∧ Step X Y ∧ (storeVar t ⟨b, off, none⟩ y).run P X.w = .ok () Y.w := by
  have hlt := ptrAt_lt hp
  have hreg := hX.reg r hlt
  unfold RegOk at hreg
  unfold storeR at h
  cases hg : X.reg r with
  | box t0 v =>
    have hg' : X.G.getD r .gone = .box t0 v := hg
    simp only [hg'] at h
    simp only [hg] at hreg hp
    obtain ⟨⟨d0, hd0⟩, hsh0, b', cs, el, hb', hh, hsz, hr⟩ := hreg
    rw [hb'] at hb; cases hb
    obtain ⟨⟨d, hd⟩, c1, c2, c3, e1, e2, e3, e4, e5, _, hset⟩ := path_at hT hp ⟨d0, hd0⟩ hsh0 (by simpa using hsz) hr
    have hlen := relF_len hT hd hsh hx
    obtain ⟨k1, k2, _⟩ := hset x (cellsL y) hlen hsh hx hfl
    have hcs : cs.size = c1.length + c2.length + c3.length := by
      have := congrArg List.length e1
      simpa [Nat.add_assoc] using this
    have hnew : cs.toList.take off ++ cellsL y ++ cs.toList.drop (off + (cellsL y).length) = c1 ++ cellsL y ++ c3 := by
      rw [e1, hlen, ← e3, ← e2]
      have h1 : (c1 ++ c2 ++ c3).take c1.length = c1 := by simp
      have h2 : (c1 ++ c2 ++ c3).drop (c1.length + c2.length) = c3 := by
        rw [← List.length_append]; simp
      rw [h1, h2]
    have hrun := run_storeVar (hT _ _ hd) hh hlen (off := off) (by omega) (relF_one hsh hx)
    rw [hnew] at hrun
    obtain ⟨m1, m2⟩ := write_ok (P := P) (T := T) hX (g' := .box t0 (setP v p x)) (new := (c1 ++ cellsL y ++ c3).toArray) hlt (by rw [hg]; trivial) (by rw [hg]; rfl) hb' hh (by simp [hcs, hlen, ← e3]; omega)
      (fun Y hY hE hb2 hh2 hr2 => by
        unfold RegOk
        rw [hr2]
        exact ⟨⟨d0, hd0⟩, k1, b, _, el, hb2, hh2, by simp [hlen, ← e3]; omega, by simpa using relF_mono hE k2⟩)
    exact ⟨_, h, m1, m2, hrun⟩
  | row e n f =>
    have hg' : X.G.getD r .gone = .row e n f := hg
    simp only [hg'] at h
    simp only [hg] at hreg hp
    obtain ⟨i, q, o, rfl, hi, hq, rfl⟩ := hp
    obtain ⟨hfx, h⟩ := all_must.1 h
    obtain ⟨⟨de, hde⟩, hfit, hrow⟩ := hreg
    rcases hrow with ⟨hn, _⟩ | ⟨b', cs, el, fz, cap, hb', hh, hfz, _, hsz, hcap, hel⟩
    · rw [hn] at hb; cases hb
    · rw [hb'] at hb; cases hb
      obtain ⟨rfl, rfl⟩ := hfz rfl
      obtain ⟨hfe, hr⟩ := eta_ok (hfit i hi) (hel i hi)
      have hle : i * sz P el + sz P el ≤ cs.size := by
        rw [hsz, ← Nat.succ_mul]
        exact Nat.mul_le_mul_right _ (by omega)
      have hl : ((cs.toList.drop (i * sz P el)).take (sz P el)).length = sz P el := by simp; omega
      obtain ⟨⟨d, hd⟩, c1, c2, c3, e1, e2, e3, e4, e5, _, hset⟩ := path_at hT hq ⟨de, hde⟩ (fits_shape hfe) hl hr
      have hlen := relF_len hT hd hsh hx
      obtain ⟨k1, k2, _⟩ := hset x (cellsL y) hlen hsh hx hfl
      have hlc : sz P el = c1.length + c2.length + c3.length := by
        rw [← hl, e1]; simp [Nat.add_assoc]
      have hbound : i * sz P el + o + (cellsL y).length ≤ cs.toList.length := by simp; omega
      have hrun := run_storeVar (hT _ _ hd) hh hlen (off := i * sz P el + o) (by omega) (relF_one hsh hx)
      have hblki : ((cs.toList.take (i * sz P el + o) ++ cellsL y ++ cs.toList.drop (i * sz P el + o + (cellsL y).length)).drop (i * sz P el)).take (sz P el) = c1 ++ cellsL y ++ c3 := by
        apply List.ext_getElem?
        intro j
        rw [blk_get, over_get _ _ _ _ hbound]
        have hold : ∀ j, j < sz P el → cs.toList[i * sz P el + j]? = (c1 ++ c2 ++ c3)[j]? := by
          intro j hj
          rw [← e1, blk_get, if_pos hj]
        by_cases hj : j < sz P el
        · rw [if_pos hj, hold j hj]
          by_cases h1 : j < o
          · rw [if_pos (by omega), List.append_assoc, List.append_assoc, List.getElem?_append_left (by omega), List.getElem?_append_left (by omega)]
          · rw [if_neg (by omega)]
            by_cases h2 : j < o + (cellsL y).length
            · rw [if_pos (by omega), List.append_assoc, List.getElem?_append_right (by omega), List.getElem?_append_left (by omega)]
              congr 1; omega
            · rw [if_neg (by omega), List.getElem?_append_right (by simp; omega), List.getElem?_append_right (by simp; omega)]
              congr 1; simp; omega
        · rw [if_neg hj, List.getElem?_eq_none (by simp; omega)]
      have hblkj : ∀ j, j ≠ i → ((cs.toList.take (i * sz P el + o) ++ cellsL y ++ cs.toList.drop (i * sz P el + o + (cellsL y).length)).drop (j * sz P el)).take (sz P el) = (cs.toList.drop (j * sz P el)).take (sz P el) := by
        intro j hj
        apply List.ext_getElem?
        intro m
        rw [blk_get, blk_get, over_get _ _ _ _ hbound]
        by_cases hm : m < sz P el
        · rw [if_pos hm, if_pos hm]
          rcases Nat.lt_or_gt_of_ne hj with h1 | h1
          · have : j * sz P el + sz P el ≤ i * sz P el := by
              rw [← Nat.succ_mul]; exact Nat.mul_le_mul_right _ h1
            rw [if_pos (by omega)]
          · have : i * sz P el + sz P el ≤ j * sz P el := by
              rw [← Nat.succ_mul]; exact Nat.mul_le_mul_right _ h1
            rw [if_neg (by omega), if_neg (by omega)]
        · rw [if_neg hm, if_neg hm]
      obtain ⟨m1, m2⟩ := write_ok (P := P) (T := T) hX (g' := .row el n (setF f i (setP (T.eta el (f i)) q x)))
        (new := (cs.toList.take (i * sz P el + o) ++ cellsL y ++ cs.toList.drop (i * sz P el + o + (cellsL y).length)).toArray) hlt (by rw [hg]; trivial) (by rw [hg]; exact ⟨rfl, rfl⟩) hb' hh (by simp at hbound ⊢; omega)
        (fun Y hY hE hb2 hh2 hr2 => by
          unfold RegOk
          rw [hr2]
          refine ⟨⟨de, hde⟩, fun j hj => ?_, .inr ⟨b, _, el, (0, 0), cap, hb2, hh2, fun _ => ⟨rfl, rfl⟩, (by intro h; cases h), ?_, hcap, fun j hj => ?_⟩⟩
          · by_cases hji : j = i
            · subst hji
              simp only [setF, eqN, decide_true]
              exact hfx
            · simp only [setF, eqN, hji, decide_false]
              exact hfit j hj
          · simp at hbound ⊢; omega
          · by_cases hji : j = i
            · subst hji
              simp only [setF, eqN, decide_true]
              rw [hblki]
              exact relF_mono hE k2
            · simp only [setF, eqN, hji, decide_false]
              rw [hblkj j hji]
              exact relF_mono hE (hel j hj))
      exact ⟨_, h, m1, m2, hrun⟩
  | frz e n f => have hg' : X.G.getD r .gone = .frz e n f := hg; simp only [hg'] at h; exact (all_fail h).elim
  | gone => have hg' : X.G.getD r .gone = .gone := hg; simp only [hg'] at h; exact (all_fail h).elim
  | map => rw [hg] at hp; exact hp.elim
  | iter => rw [hg] at hp; exact hp.elim
end
end Go.VM

namespace Go.VM
section
variable {P : Program} {T : Tab} {β : Type} {PP : β → Prop}

def goneAt (G : List Reg) : Option Nat → List Reg
  | some r => G.set r .gone
  | none => G
theorem goneAt_len (G : List Reg) (ro : Option Nat) : (goneAt G ro).length = G.length := by cases ro <;> simp [goneAt]
theorem goneAt_getD (G : List Reg) (ro : Option Nat) (s : Nat) : (goneAt G ro).getD s .gone = if ro = some s then .gone else G.getD s .gone := by
  cases ro with
  | none => simp [goneAt]
  | some r =>
    simp only [goneAt, getD_set, Option.some.injEq]
    by_cases h : s = r
    · subst h
      by_cases hl : s < G.length
      · simp [hl]
      · simp [hl]
    · simp [h, Ne.symm h]
theorem getD_snoc (G : List Reg) (g : Reg) (s : Nat) : (G ++ [g]).getD s .gone = if s = G.length then g else G.getD s .gone := by
  simp only [List.getD_eq_getElem?_getD]
  by_cases h : s < G.length
  · rw [List.getElem?_append_left h, if_neg (by omega)]
  · rw [List.getElem?_append_right (by omega)]
    by_cases h2 : s = G.length
    · simp [h2]
    · rw [if_neg h2, List.getElem?_eq_none (by simp; omega), List.getElem?_eq_none (by omega)]
theorem blk_snoc {X : Rx} (hX : RInv P T X) (b : Option Nat) (s : Nat) : (X.ρ ++ [b]).getD s none = if s = X.G.length then b else X.blk s := by
  unfold Rx.blk
  rw [← hX.len]
  simp only [List.getD_eq_getElem?_getD]
  by_cases h : s < X.ρ.length
  · rw [List.getElem?_append_left h, if_neg (by omega)]
  · rw [List.getElem?_append_right (by omega)]
    by_cases h2 : s = X.ρ.length
    · simp [h2]
    · rw [if_neg h2, List.getElem?_eq_none (by simp; omega), List.getElem?_eq_none (by omega)]

/-- a new region; one old one may be used up for it -/
theorem new_ok {X : Rx} (hX : RInv P T X) {ro : Option Nat} {g : Reg} {b' : Option Nat} {w' : World} (hro : ∀ r, ro = some r → r < X.G.length ∧ writable (X.reg r))
    (hos : w'.os = X.w.os) (htape : w'.tape = X.w.tape) (hout : w'.output = X.w.output) (hsize : X.w.heap.size ≤ w'.heap.size)
    (hheap : ∀ b, b < X.w.heap.size → (∀ r, ro = some r → X.blk r ≠ some b) → w'.heap[b]? = X.w.heap[b]?) (hbs : ∀ b, bsize X.w b ≤ bsize w' b)
    (hb' : ∀ k, b' = some k → X.w.heap.size ≤ k ∨ ∃ r, ro = some r ∧ X.blk r = some k)
    (hreg : ∀ Y : Rx, Y = ⟨w', goneAt X.G ro ++ [g], X.ρ ++ [b'], X.S⟩ → Ext X Y → Y.blk X.G.length = b' → Y.reg X.G.length = g → RegOk P T Y X.G.length) :
    RInv P T ⟨w', goneAt X.G ro ++ [g], X.ρ ++ [b'], X.S⟩ ∧ Step X ⟨w', goneAt X.G ro ++ [g], X.ρ ++ [b'], X.S⟩ := by
  have hrg : ∀ s, (⟨w', goneAt X.G ro ++ [g], X.ρ ++ [b'], X.S⟩ : Rx).reg s = if s = X.G.length then g else if ro = some s then .gone else X.reg s := by
    intro s
    unfold Rx.reg
    rw [getD_snoc, goneAt_len, goneAt_getD]
  have hbl : ∀ s, (⟨w', goneAt X.G ro ++ [g], X.ρ ++ [b'], X.S⟩ : Rx).blk s = if s = X.G.length then b' else X.blk s := fun s => blk_snoc hX b' s
  have hlen : (goneAt X.G ro ++ [g]).length = X.G.length + 1 := by simp [goneAt_len]
  have far : ∀ s, (ro = some s ∨ X.G.length ≤ s) → s ≠ X.G.length → (⟨w', goneAt X.G ro ++ [g], X.ρ ++ [b'], X.S⟩ : Rx).reg s = .gone := by
    intro s hs hne
    rw [hrg, if_neg hne]
    split
    · rfl
    · rename_i h
      exact by simp [Rx.reg, List.getElem?_eq_none (hs.resolve_left h)]
  refine mk_ok hX (fun s => ro = some s) (by show (X.ρ ++ [b']).length = (goneAt X.G ro ++ [g]).length; simp [goneAt_len, hX.len]) (by show X.G.length ≤ (goneAt X.G ro ++ [g]).length; omega) rfl hos htape hout hsize ?_ ?_ hheap hbs ?_ ?_ ?_
  · intro s hs
    obtain ⟨h1, h2⟩ := hro s hs
    refine ⟨h1, h2, .inl ?_⟩
    rw [hrg, if_neg (by omega), if_pos hs]
  · intro s hs hne
    rw [hrg, hbl]
    simp only [if_neg hne, if_neg (Nat.ne_of_lt hs)]
    exact ⟨trivial, trivial⟩
  · intro s b hs hb hg
    by_cases h : s = X.G.length
    · rw [hbl, if_pos h] at hb
      rcases hb' b hb with h1 | ⟨r, h1, h2⟩
      · exact .inl h1
      · exact .inr ⟨r, h1, h2⟩
    · exact absurd (far s hs h) hg
  · intro s s' b hne hs hs' _ _
    by_cases h : s = X.G.length
    · exact .inr (far s' hs' (by omega))
    · exact .inl (far s hs h)
  · intro hE s hsl hs
    by_cases h : s = X.G.length
    · subst h
      exact hreg _ rfl hE (by rw [hbl, if_pos rfl]) (by rw [hrg, if_pos rfl])
    · have := far s hs h
      unfold RegOk
      rw [this]
      trivial

theorem bsize_alloc (w w' : World) (o : Obj) (h : w'.heap = w.heap.push o) (b : Nat) : bsize w b ≤ bsize w' b := by
  by_cases e : b = w.heap.size
  · have : bsize w b = 0 := by
      unfold bsize
      rw [Array.getElem?_eq_none (by omega)]
    omega
  · unfold bsize
    rw [h, Array.getElem?_push, if_neg e]
    exact Nat.le_refl _
theorem heap_push_new {w w' : World} {o : Obj} (h : w'.heap = w.heap.push o) : w'.heap[w.heap.size]? = some o := by rw [h]; simp
theorem heap_push_old {w w' : World} {o : Obj} (h : w'.heap = w.heap.push o) {b : Nat} (hb : b < w.heap.size) : w'.heap[b]? = w.heap[b]? := by
  rw [h, Array.getElem?_push, if_neg (by omega)]

/-- a fresh block -/
theorem alloc_ok {X : Rx} (hX : RInv P T X) {ro : Option Nat} {g : Reg} {w' : World} {o : Obj} (hro : ∀ r, ro = some r → r < X.G.length ∧ writable (X.reg r)) (hw : w'.heap = X.w.heap.push o)
    (hos : w'.os = X.w.os) (htape : w'.tape = X.w.tape) (hout : w'.output = X.w.output)
    (hreg : ∀ Y : Rx, Y.w = w' → Ext X Y → Y.blk X.G.length = some X.w.heap.size → Y.w.heap[X.w.heap.size]? = some o → Y.reg X.G.length = g → RegOk P T Y X.G.length) :
    RInv P T ⟨w', goneAt X.G ro ++ [g], X.ρ ++ [some X.w.heap.size], X.S⟩ ∧ Step X ⟨w', goneAt X.G ro ++ [g], X.ρ ++ [some X.w.heap.size], X.S⟩ :=
  new_ok hX hro hos htape hout (by rw [hw]; simp) (fun b hb _ => heap_push_old hw hb) (bsize_alloc _ _ _ hw) (fun k hk => by cases hk; exact .inl (Nat.le_refl _))
    (fun Y hY hE h1 h2 => hreg Y (by rw [hY]) hE h1 (by rw [hY]; exact heap_push_new hw) h2)

theorem reg_new {X : Rx} {w' : World} {ro : Option Nat} {g : Reg} {ρ : List (Option Nat)} : (⟨w', goneAt X.G ro ++ [g], ρ, X.S⟩ : Rx).reg X.G.length = g := by
  unfold Rx.reg; rw [getD_snoc, goneAt_len, if_pos rfl]

/-- a variable is made -/
theorem box_ok (hT : TabOk P T) {X : Rx} (hX : RInv P T X) {t : Nat} {d : TyD} {v : V} {y : Value} (hd : find t T = some d) (hsh : tagShape T t v) (hv : RelF P T X v (cellsL y)) :
    ∃ Y, Y.G = X.G ++ [.box t v] ∧ RInv P T Y ∧ Step X Y ∧ Rel P T Y (.ptr X.G.length [] t) (.pointer (some ⟨X.w.heap.size, 0, none⟩)) ∧ (newVar t y).run P X.w = .ok ⟨X.w.heap.size, 0, none⟩ Y.w := by
  have hlen := relF_len hT hd hsh hv
  obtain ⟨h1, h2⟩ := alloc_ok (P := P) (T := T) hX (ro := none) (g := .box t v) (w' := X.w.alloc (.cells y.cells t)) (o := .cells y.cells t) (by simp) rfl rfl rfl rfl
    (fun Y hY hE hb hh hr => by
      unfold RegOk
      rw [hr]
      exact ⟨⟨d, hd⟩, hsh, _, _, t, hb, hh, by rw [← Array.length_toList, cells_cellsL, hlen], by rw [cells_cellsL]; exact relF_mono hE hv⟩)
  refine ⟨_, rfl, h1, h2, rel_ptr.2 ⟨_, rfl, .inr ⟨X.w.heap.size, 0, ?_, ?_, rfl⟩⟩, ?_⟩
  · show (X.ρ ++ [some X.w.heap.size]).getD X.G.length none = _
    rw [blk_snoc hX, if_pos rfl]
  · rw [reg_new]; exact PathAt.nil t
  · simp [newVar, newRow]

theorem sub_new {X : Rx} (hX : RInv P T X) {w' : World} {ro : Option Nat} {e n m cap : Nat} {f : Nat → V} (hm : m ≤ n) (hc : m ≤ cap) (hs : cap * sz P e ≤ bsize w' X.w.heap.size) :
    Rel P T ⟨w', goneAt X.G ro ++ [.row e n f], X.ρ ++ [some X.w.heap.size], X.S⟩ (.sub X.G.length 0 m) (.slice (some ⟨X.w.heap.size, 0, none⟩) m cap) := by
  refine rel_sub.2 ⟨_, cap, rfl, hc, by simp, .inr ⟨e, n, by rw [reg_new]; exact ⟨rfl, rfl⟩, by omega, ?_⟩⟩
  have : (⟨w', goneAt X.G ro ++ [.row e n f], X.ρ ++ [some X.w.heap.size], X.S⟩ : Rx).blk X.G.length = some X.w.heap.size := by
    show (X.ρ ++ [some X.w.heap.size]).getD X.G.length none = _
    rw [blk_snoc hX, if_pos rfl]
  rw [this]
  exact ⟨fun _ => by simp, by simpa using hs⟩
end
end Go.VM

namespace Go.VM
section
variable {P : Program} {T : Tab} {β : Type} {PP : β → Prop}

theorem blk_left {α : Type} {k i n : Nat} {A B : List α} (hA : A.length = n * k) (hi : i < n) : ((A ++ B).drop (i * k)).take k = (A.drop (i * k)).take k := by
  have : i * k + k ≤ n * k := by rw [← Nat.succ_mul]; exact Nat.mul_le_mul_right _ hi
  apply List.ext_getElem?
  intro j
  rw [blk_get, blk_get]
  split
  · rw [List.getElem?_append_left (by omega)]
  · rfl
theorem blk_right {α : Type} {k i n : Nat} {A B : List α} (hA : A.length = n * k) (hi : n ≤ i) : ((A ++ B).drop (i * k)).take k = (B.drop ((i - n) * k)).take k := by
  have : i * k = n * k + (i - n) * k := by rw [← Nat.add_mul]; congr 1; omega
  apply List.ext_getElem?
  intro j
  rw [blk_get, blk_get]
  split
  · rw [List.getElem?_append_right (by omega)]
    congr 1; omega
  · rfl
theorem blk_take {α : Type} {k i n : Nat} {A : List α} (hi : i < n) : ((A.take (n * k)).drop (i * k)).take k = (A.drop (i * k)).take k := by
  have : i * k + k ≤ n * k := by rw [← Nat.succ_mul]; exact Nat.mul_le_mul_right _ hi
  apply List.ext_getElem?
  intro j
  rw [blk_get, blk_get]
  split
  · rw [List.getElem?_take, if_pos (by omega)]
  · rfl

/-- a slice's elements, cell by cell -/
structure Content (P : Program) (T : Tab) (X : Rx) (e : Nat) (x : Value) (m : Nat) (g : Nat → V) (a : Option Addr) (cap : Nat) (news : List Value) : Prop where
  val : x = .slice a m cap
  len : news.length = m * sz P e
  cell : ∀ ad, a = some ad → ∀ j u, news[j]? = some u → X.w.cell? (ad.add j) = some u
  some : 0 < m → a.isSome = true
  fits : ∀ i, i < m → T.fits e (g i) = true
  rel : ∀ i, i < m → RelF P T X (g i) ((news.drop (i * sz P e)).take (sz P e))
  one : ∀ u ∈ news, u.oneCell' = true

/-- elements that stand one behind the other, from o on in block b -/
theorem gather {X : Rx} {e b o m : Nat} {g : Nat → V} (hpos : 0 < sz P e) (hfit : ∀ i, i < m → T.fits e (g i) = true)
    (hel : ∀ i, i < m → ∃ cs, cellsIn X.w b (o + i * sz P e) cs ∧ cs.length = sz P e ∧ RelF P T X (g i) cs) :
    ∃ news : List Value, news.length = m * sz P e ∧ cellsIn X.w b o news ∧ (∀ i, i < m → RelF P T X (g i) ((news.drop (i * sz P e)).take (sz P e))) ∧ ∀ u ∈ news, u.oneCell' = true := by
  have hall : ∀ j, j < m * sz P e → ∃ u, X.w.cell? ⟨b, o + j, none⟩ = some u ∧ u.oneCell' = true := by
    intro j hj
    have hi : j / sz P e < m := (Nat.div_lt_iff_lt_mul hpos).2 hj
    obtain ⟨cs, h1, h2, h3⟩ := hel _ hi
    have hmod := Nat.mod_lt j hpos
    have hlt : j % sz P e < cs.length := by omega
    have := h1 (j % sz P e) cs[j % sz P e] (List.getElem?_eq_getElem hlt)
    refine ⟨_, ?_, relF_one (fits_shape (hfit _ hi)) h3 _ (List.getElem_mem hlt)⟩
    rw [← this]
    congr 2
    have := Nat.div_add_mod j (sz P e)
    rw [Nat.mul_comm] at this
    omega
  refine ⟨(List.range (m * sz P e)).map fun j => (X.w.cell? ⟨b, o + j, none⟩).getD (.bool false), by simp, ?_, ?_, ?_⟩
  · intro j u hj
    have hlt : j < m * sz P e := by
      rcases Nat.lt_or_ge j (m * sz P e) with h | h
      · exact h
      · rw [List.getElem?_eq_none (by simpa using h)] at hj; cases hj
    obtain ⟨u', h1, _⟩ := hall j hlt
    simp [hlt, h1] at hj
    rw [h1, hj]
  · intro i hi
    obtain ⟨cs, h1, h2, h3⟩ := hel i hi
    have hb : i * sz P e + sz P e ≤ m * sz P e := by rw [← Nat.succ_mul]; exact Nat.mul_le_mul_right _ hi
    have : ((((List.range (m * sz P e)).map fun j => (X.w.cell? ⟨b, o + j, none⟩).getD (.bool false)).drop (i * sz P e)).take (sz P e)) = cs := by
      apply List.ext_getElem?
      intro j
      rw [blk_get]
      by_cases hj : j < sz P e
      · rw [if_pos hj, List.getElem?_map, List.getElem?_range (by omega)]
        have := h1 j cs[j] (List.getElem?_eq_getElem (by omega))
        rw [Nat.add_assoc] at this
        simp only [Option.map_some, this, Option.getD_some]
        exact (List.getElem?_eq_getElem _).symm
      · rw [if_neg hj, List.getElem?_eq_none (by omega)]
    rw [this]
    exact h3
  · intro u hu
    obtain ⟨j, hj, rfl⟩ := List.mem_map.1 hu
    obtain ⟨u', h1, h2⟩ := hall j (by simpa using hj)
    rw [h1]
    exact h2

theorem content_ok (hT : TabOk P T) {X : Rx} (hX : RInv P T X) {e : Nat} {d : TyD} {v : V} {x : Value} {K : Nat → (Nat → V) → R β} (hd : find e T = some d) (hv : Rel P T X v x) (h : All PP (contentV T X.G e v K)) :
    ∃ m g a cap news, All PP (K m g) ∧ Content P T X e x m g a cap news := by
  have hpos := (hT _ _ hd).pos
  cases v with
  | nils =>
    rw [rel_nils] at hv
    subst hv
    exact ⟨0, _, none, 0, [], h, rfl, by simp, by simp, by simp, by simp, by simp, by simp⟩
  | view e' n f =>
    obtain ⟨he, hA⟩ := all_must.1 h
    have := Nat.eq_of_beq_eq_true he
    subst this
    obtain ⟨a, cap, rfl, hc, hfit, hs⟩ := rel_view.1 hv
    by_cases h0 : 0 < n
    · obtain ⟨b, o, rfl, hS, hel⟩ := hs h0
      obtain ⟨news, n1, n2, n3, n4⟩ := gather hpos hfit hel
      exact ⟨n, f, _, cap, news, hA, rfl, n1, fun ad ha => by cases ha; intro j u hj; rw [add_plain']; exact n2 j u hj, by simp, hfit, n3, n4⟩
    · obtain rfl : n = 0 := by omega
      exact ⟨0, f, a, cap, [], hA, rfl, by simp, by simp, by simp, by simp, by simp, by simp⟩
  | sub r off n =>
    obtain ⟨a, cap, rfl, hc, hsome, hs⟩ := rel_sub.1 hv
    have go : ∀ k f z, rowLike (X.reg r) e k → RowOk P T X r e k f z → All PP (K n (shiftF f off)) →
        ∃ m g a' cap' news, All PP (K m g) ∧ Content P T X e (.slice a n cap) m g a' cap' news := by
      intro k f z hlike hrow hA
      rcases hs with hd' | ⟨e', k', hl, hle, hb⟩
      · exact absurd hd'.2 (rowLike_live hlike)
      · obtain ⟨rfl, rfl⟩ : e' = e ∧ k' = k := by
          cases hg : X.reg r <;> rw [hg] at hlike hl <;> first | exact hlike.elim | exact ⟨hl.1.symm.trans hlike.1, hl.2.symm.trans hlike.2⟩
        have hf : ∀ i, i < n → shiftF f off i = f (off + i) := fun i hi => shiftF_at
        generalize shiftF f off = F at hA hf
        refine ⟨n, F, a, cap, ?_⟩
        cases hX' : X.blk r with
        | none =>
          simp only [hX'] at hb
          obtain ⟨rfl, rfl⟩ := hb
          obtain rfl : n = 0 := by omega
          exact ⟨[], hA, rfl, by simp, by simp, by simp, by simp, by simp, by simp⟩
        | some b =>
          simp only [hX'] at hb
          obtain ⟨news, n1, n2, n3, n4⟩ := gather (P := P) (T := T) (X := X) (e := e') (b := b) (o := off * sz P e') (m := n) (g := fun i => f (off + i)) hpos (fun i hi => hrow.2.1 _ (by omega))
            (fun i hi => by
              obtain ⟨cs, h1, h2, h3⟩ := row_cells hrow hX' (show off + i < k' by omega)
              exact ⟨cs, by rw [← Nat.add_mul]; exact h1, h2, h3⟩)
          refine ⟨news, hA, rfl, n1, fun ad ha => ?_, hsome, fun i hi => by rw [hf i hi]; exact hrow.2.1 _ (by omega), fun i hi => by rw [hf i hi]; exact n3 i hi, n4⟩
          intro j u hj
          have hn : 0 < n := by
            rcases Nat.eq_zero_or_pos n with rfl | h
            · have : news = [] := List.eq_nil_of_length_eq_zero (by simpa using n1)
              subst this; simp at hj
            · exact h
          have h2 := hb.1 (by omega)
          rw [ha] at h2
          cases h2
          rw [add_plain']
          exact n2 j u hj
    unfold contentV at h
    cases hg : X.G.getD r .gone with
    | row e' k f =>
      simp only [hg] at h
      obtain ⟨he, hA⟩ := all_must.1 h
      have := Nat.eq_of_beq_eq_true he
      subst this
      have hreg : X.reg r = .row e k f := hg
      have hok := hX.reg r (Rx.reg_lt (by rw [hreg]; simp))
      unfold RegOk at hok
      rw [hreg] at hok
      exact go k f _ (by rw [hreg]; exact ⟨rfl, rfl⟩) hok hA
    | frz e' k f =>
      simp only [hg] at h
      obtain ⟨he, hA⟩ := all_must.1 h
      have := Nat.eq_of_beq_eq_true he
      subst this
      have hreg : X.reg r = .frz e k f := hg
      have hok := hX.reg r (Rx.reg_lt (by rw [hreg]; simp))
      unfold RegOk at hok
      rw [hreg] at hok
      exact go k f _ (by rw [hreg]; exact ⟨rfl, rfl⟩) hok hA
    | _ => simp only [hg] at h; exact (all_fail h).elim
  | _ => exact (all_fail h).elim

theorem run_append_zero {w : World} {t ty e : Nat} {d : TyD} (hu : P.underlying t = some (.slice e)) (hF : TyFacts P T e d) {base a : Option Addr} {n cap c : Nat} (hc : n ≤ cap) :
    (Builtin.append_ #[t, t] ty #[.slice base n cap, .slice a 0 c]).run P w = .ok (.slice base n cap) w := by
  cases a <;> cases base <;> simp [Builtin.append_, run_underlying hu, hF.run_sizeOf, Builtin.lenOf, hc, Builtin.firstCells, loadCells, loadCellsFrom, storeCells]

theorem joinF_lt {f g : Nat → V} {n i : Nat} (h : i < n) : joinF f g n i = f i := by
  have : ltN i n = true := by simpa [ltN] using h
  simp [joinF, this]
theorem joinF_ge {f g : Nat → V} {n i : Nat} (h : n ≤ i) : joinF f g n i = g (i - n) := by
  have : ltN i n = false := by simpa [ltN] using h
  simp [joinF, this, subN]

/-- the outcome of an append that makes a new row -/
theorem append_fresh (_ : TabOk P T) {X : Rx} (hX : RInv P T X) {ro : Option Nat} (hro : ∀ r, ro = some r → r < X.G.length ∧ writable (X.reg r)) {e n m : Nat} {d : TyD} (hd : find e T = some d) {f : Nat → V} {olds news : List Value} {z : Value} {gc : Nat}
    (hz : z.cells.size = sz P e) (hlo : olds.length = n * sz P e) (hln : news.length = m * sz P e) (hgc : n + m ≤ gc)
    (hfit : ∀ i, i < n + m → T.fits e (f i) = true) (ho : ∀ i, i < n → RelF P T X (f i) ((olds.drop (i * sz P e)).take (sz P e))) (hn : ∀ i, i < m → RelF P T X (f (n + i)) ((news.drop (i * sz P e)).take (sz P e))) :
    ∃ Y, Y.G = goneAt X.G ro ++ [.row e (n + m) f] ∧ Y.w = X.w.drew.alloc (.cells (olds.toArray ++ news.toArray ++ Builtin.zeroCells z.cells (gc - (n + m))) e) ∧ RInv P T Y ∧ Step X Y ∧
      Rel P T Y (.sub X.G.length 0 (n + m)) (.slice (some ⟨X.w.heap.size, 0, none⟩) (n + m) gc) := by
  have hsize : (olds.toArray ++ news.toArray ++ Builtin.zeroCells z.cells (gc - (n + m))).size = gc * sz P e := by
    simp only [Array.size_append, List.size_toArray, size_zeroCells, hz, hlo, hln, ← Nat.add_mul]
    congr 1; omega
  obtain ⟨h1, h2⟩ := alloc_ok (P := P) (T := T) hX (ro := ro) (g := .row e (n + m) f) (w' := X.w.drew.alloc (.cells (olds.toArray ++ news.toArray ++ Builtin.zeroCells z.cells (gc - (n + m))) e))
    (o := .cells (olds.toArray ++ news.toArray ++ Builtin.zeroCells z.cells (gc - (n + m))) e) hro rfl rfl rfl rfl
    (fun Y hY hE hb hh hr => by
      unfold RegOk
      rw [hr]
      refine ⟨⟨d, hd⟩, hfit, .inr ⟨_, _, e, (0, 0), gc, hb, hh, fun _ => ⟨rfl, rfl⟩, (by intro h; cases h), hsize, hgc, fun i hi => ?_⟩⟩
      have e1 : (olds.toArray ++ news.toArray ++ Builtin.zeroCells z.cells (gc - (n + m))).toList = olds ++ (news ++ (Builtin.zeroCells z.cells (gc - (n + m))).toList) := by simp
      rw [e1]
      by_cases hin : i < n
      · rw [blk_left hlo hin]; exact relF_mono hE (ho i hin)
      · rw [blk_right hlo (by omega), blk_left hln (by omega)]
        have := hn (i - n) (by omega)
        rw [show n + (i - n) = i by omega] at this
        exact relF_mono hE this)
  refine ⟨_, rfl, rfl, h1, h2, sub_new hX (Nat.le_refl _) hgc ?_⟩
  unfold bsize
  rw [heap_push_new (o := .cells (olds.toArray ++ news.toArray ++ Builtin.zeroCells z.cells (gc - (n + m))) e) (w := X.w) rfl]
  rw [← hsize]; exact Nat.le_refl _
end
end Go.VM

namespace Go.VM
section
variable {P : Program} {T : Tab} {β : Type} {PP : β → Prop}

/-- what an operation that makes or writes comes to -/
def YieldsE (P : Program) (T : Tab) {β : Type} (PP : β → Prop) (X : Rx) (K : V → List Reg → R β) (s : Sem Value) : Prop :=
  ∃ v Y y, All PP (K v Y.G) ∧ RInv P T Y ∧ Step X Y ∧ Rel P T Y v y ∧ s.run P X.w = .ok y Y.w

theorem zero_size (hT : TabOk P T) {e : Nat} {d : TyD} (hd : find e T = some d) : ∃ i z, P.info? e = some i ∧ i.zero = some z ∧ z.cells.size = sz P e ∧ i.size = sz P e := by
  obtain ⟨i, z, h1, h2, h3, h4, h5⟩ := (hT _ _ hd).info
  refine ⟨i, z, h1, h2, ?_, by simp [sz, Program.cellsOf, h1]⟩
  rw [← Array.length_toList, cells_cellsL]
  exact relF_len hT hd h5 h4

theorem append_ok (hT : TabOk P T) {X : Rx} (hX : RInv P T X) {t ty : Nat} {vs vx : V} {s x : Value} {K : V → List Reg → R β} (hs : Rel P T X vs s) (hx : Rel P T X vx x)
    (h : All PP (appendE T t vs vx X.G K)) : YieldsE P T PP X K (Builtin.append_ #[t, t] ty #[s, x]) := by
  unfold appendE at h
  cases ht : find t T with
  | none => simp only [ht] at h; exact (all_fail h).elim
  | some dt =>
    cases dt with
    | slice e =>
      simp only [ht] at h
      obtain ⟨u, hu, hud⟩ := (hT t _ ht).und
      cases u <;> simp only [Und] at hud
      subst hud
      obtain ⟨_, ⟨de, hde⟩, hby, _⟩ := (hT t _ ht).size
      obtain ⟨m, g, a, c, news, h, hC⟩ := content_ok hT hX hde hx h
      obtain ⟨i, z, hi, hz, hzs, his⟩ := zero_size hT hde
      have hby : i.bytes ≤ 32768 := by simpa [Program.bytesOf, hi] using hby
      have hxv := hC.val
      subst hxv
      have room_le : ∀ k, leN k room = true → k ≤ 1073741824 := fun k hk => of_decide_eq_true hk
      have mulb : ∀ k, k ≤ 1073741824 → k * i.bytes ≤ 140737488355328 := fun k hk => by
        have := Nat.mul_le_mul hk hby
        omega
      -- an empty first operand that has no row
      have nil : ∀ (cap : Nat) (base : Option Addr) (ro : Option Nat) (f : Nat → V), (∀ r, ro = some r → r < X.G.length ∧ writable (X.reg r)) → (base = none → cap = 0) → (∀ i, i < m → f i = g i) → 0 < m → m ≤ 1073741824 → cap = 0 →
          All PP (K (.sub X.G.length 0 m) (goneAt X.G ro ++ [.row e m f])) → YieldsE P T PP X K (Builtin.append_ #[t, t] ty #[.slice base 0 cap, .slice a m c]) := by
        intro cap base ro f hro hbase hf h0 hm hcap hA
        obtain ⟨ad, rfl⟩ := Option.isSome_iff_exists.1 (hC.some h0)
        subst hcap
        have hr : (Builtin.append_ #[t, t] ty #[.slice base 0 0, .slice (some ad) m c]).run P X.w =
            .ok (.slice (some ⟨X.w.heap.size, 0, none⟩) m (grownCap X.w m 0 e)) (X.w.drew.alloc (.cells (news.toArray ++ Builtin.zeroCells z.cells (grownCap X.w m 0 e - m)) e)) := by
          cases base with
          | none => exact run_append_nil (P := P) X.w t ty e i z hu hi hz ad m c news (by rw [his]; exact hC.len) (hC.cell ad rfl) h0 (by omega) (by have := mulb m hm; omega)
          | some b =>
            have := run_append_grow (P := P) X.w t ty e i z hu hi hz b 0 0 [] (by simp) (by simp) ad m c news (by rw [his]; exact hC.len) (hC.cell ad rfl) (by omega) (by omega) (growslice_fits (by omega) (by simpa using mulb m hm))
            simpa using this
        obtain ⟨Y, hYG, hYw, h1, h2, h3⟩ := append_fresh hT hX hro hde (f := f) (olds := []) (n := 0) hzs (by simp) hC.len (by simpa using grownCap_ge X.w m 0 e) (by simpa using fun i hi => by rw [hf i hi]; exact hC.fits i hi) (by simp) (by simpa using fun i hi => by rw [hf i hi]; exact hC.rel i hi)
        simp only [Nat.zero_add, Array.empty_append] at hYw hYG h3
        refine ⟨_, Y, _, by rw [hYG]; exact hA, h1, h2, h3, by rw [hYw]; exact hr⟩
      cases vs with
      | nils =>
        rw [rel_nils] at hs
        subst hs
        obtain ⟨hm, h⟩ := all_must.1 h
        rcases Nat.eq_zero_or_pos m with rfl | h0
        · -- nothing to nothing
          obtain ⟨h1, h2⟩ := new_ok (P := P) (T := T) hX (ro := none) (g := .row e 0 g) (b' := none) (w' := X.w) (by simp) rfl rfl rfl (Nat.le_refl _) (fun _ _ _ => rfl) (fun _ => Nat.le_refl _) (by simp)
            (fun Y hY hE hb hr => by
              unfold RegOk
              rw [hr]
              exact ⟨⟨de, hde⟩, by simp, .inl ⟨hb, rfl⟩⟩)
          refine ⟨_, _, .slice none 0 0, h, h1, h2, rel_sub.2 ⟨none, 0, rfl, by simp, by simp, .inr ⟨e, 0, by rw [reg_new]; exact ⟨rfl, rfl⟩, by simp, ?_⟩⟩, run_append_zero hu (hT _ _ hde) (Nat.le_refl _)⟩
          have : (⟨X.w, goneAt X.G none ++ [.row e 0 g], X.ρ ++ [none], X.S⟩ : Rx).blk X.G.length = none := by
            show (X.ρ ++ [none]).getD X.G.length none = _
            rw [blk_snoc hX, if_pos rfl]
          rw [this]
          exact ⟨rfl, rfl⟩
        · exact nil 0 none none g (by simp) (by simp) (fun _ _ => rfl) h0 (room_le _ hm) rfl h
      | sub r off n =>
        cases off with
        | succ o => exact (all_fail h).elim
        | zero =>
          simp only at h
          cases hg : X.G.getD r .gone with
          | row e' k f =>
            simp only [hg] at h
            obtain ⟨he, hA1⟩ := all_must.1 h
            obtain ⟨hm, hfin⟩ := all_must.1 hA1
            clear hA1 h
            have he := Nat.eq_of_beq_eq_true he
            subst he
            have hm : n + m ≤ 1073741824 := room_le _ hm
            have hreg : X.reg r = .row e k f := hg
            have hlt := Rx.reg_lt (X := X) (r := r) (by rw [hreg]; simp)
            have hok := hX.reg r hlt
            unfold RegOk at hok
            rw [hreg] at hok
            obtain ⟨base, cap, rfl, hnc, hsome, hs⟩ := rel_sub.1 hs
            have hro : ∀ r', some r = some r' → r' < X.G.length ∧ writable (X.reg r') := by
              intro r' hr'
              cases hr'
              exact ⟨hlt, by rw [hreg]; trivial⟩
            obtain ⟨_, hfit, hrow⟩ := hok
            have hsub : n ≤ k ∧ match X.blk r with
                | none => base = none ∧ cap = 0
                | some b => (0 < cap → base = some ⟨b, 0, none⟩) ∧ cap * sz P e ≤ bsize X.w b := by
              rcases hs with hd | ⟨e', k', hl, hle, hb⟩
              · exact absurd hd.2 (by rw [hreg]; simp)
              · rw [hreg] at hl
                obtain ⟨rfl, rfl⟩ := hl
                refine ⟨by omega, ?_⟩
                cases hb2 : X.blk r with
                | none => simpa [hb2] using hb
                | some b => simpa [hb2] using hb
            obtain ⟨hnk, hsub⟩ := hsub
            have hjf : ∀ i, i < n → joinF f g n i = f i := fun i hi => joinF_lt hi
            have hjg : ∀ i, joinF f g n (n + i) = g i := fun i => by rw [joinF_ge (by omega)]; congr 1; omega
            have hfit' : ∀ i, i < n + m → T.fits e (joinF f g n i) = true := by
              intro i hi
              by_cases h1 : i < n
              · rw [hjf i h1]; exact hfit i (by omega)
              · have := hjg (i - n)
                rw [show n + (i - n) = i by omega] at this
                rw [this]; exact hC.fits _ (by omega)
            rcases Nat.eq_zero_or_pos m with rfl | h0
            · -- nothing is appended: the row goes on under a new name
              obtain ⟨h1, h2⟩ := new_ok (P := P) (T := T) hX (ro := some r) (g := .row e (n + 0) (joinF f g n)) (b' := X.blk r) (w' := X.w) hro rfl rfl rfl (Nat.le_refl _) (fun _ _ _ => rfl) (fun _ => Nat.le_refl _) (fun k hk => .inr ⟨r, rfl, hk⟩)
                (fun Y hY hE hb hr => by
                  unfold RegOk
                  rw [hr]
                  refine ⟨⟨de, hde⟩, hfit', ?_⟩
                  rcases hrow with ⟨k1, k2⟩ | ⟨b, cs, el, fz, cap', k1, k2, k3, k4, k5, k6, k7⟩
                  · exact .inl ⟨hb.trans k1, by omega⟩
                  · refine .inr ⟨b, cs, el, fz, cap', hb.trans k1, by rw [hY]; exact k2, k3, (by intro h; cases h), k5, by omega, fun i hi => ?_⟩
                    rw [hjf i (by omega)]
                    exact relF_mono hE (k7 i (by omega)))
              refine ⟨_, _, .slice base n cap, hfin, h1, h2, rel_sub.2 ⟨base, cap, rfl, hnc, hsome, .inr ⟨e, n + 0, by rw [reg_new]; exact ⟨rfl, rfl⟩, by simp, ?_⟩⟩, run_append_zero hu (hT _ _ hde) hnc⟩
              have : (⟨X.w, goneAt X.G (some r) ++ [.row e (n + 0) (joinF f g n)], X.ρ ++ [X.blk r], X.S⟩ : Rx).blk X.G.length = X.blk r := by
                show (X.ρ ++ [X.blk r]).getD X.G.length none = _
                rw [blk_snoc hX, if_pos rfl]
              rw [this]
              cases hb2 : X.blk r with
              | none => simpa [hb2] using hsub
              | some b => simpa [hb2] using hsub
            · cases hb2 : X.blk r with
              | none =>
                simp only [hb2] at hsub
                obtain ⟨rfl, rfl⟩ := hsub
                obtain rfl : n = 0 := by omega
                have hjg0 : ∀ i, i < m → joinF f g 0 i = g i := fun i _ => by simpa using hjg i
                exact nil 0 none (some r) (joinF f g 0) hro (by simp) hjg0 h0 (by omega) rfl (by simpa [addN, goneAt] using hfin)
              | some b =>
                simp only [hb2] at hsub
                rcases Nat.eq_zero_or_pos cap with rfl | hcap
                · obtain rfl : n = 0 := by omega
                  have hjg0 : ∀ i, i < m → joinF f g 0 i = g i := fun i _ => by simpa using hjg i
                  exact nil 0 base (some r) (joinF f g 0) hro (by simp) hjg0 h0 (by omega) rfl (by simpa [addN, goneAt] using hfin)
                · have hbase := hsub.1 hcap
                  subst hbase
                  obtain ⟨ad, rfl⟩ := Option.isSome_iff_exists.1 (hC.some h0)
                  rcases hrow with ⟨k1, k2⟩ | ⟨b', cs, el, fz, cap', k1, k2, k3, k4, k5, k6, k7⟩
                  · rw [k1] at hb2; cases hb2
                  · rw [k1] at hb2
                    cases hb2
                    obtain ⟨rfl, rfl⟩ := k3 rfl
                    have hbs : bsize X.w b = cs.size := by simp [bsize, k2]
                    have hcc : cap * sz P el ≤ cs.size := by rw [← hbs]; exact hsub.2
                    have hnsz : n * sz P el ≤ cs.size := Nat.le_trans (Nat.mul_le_mul_right _ hnc) hcc
                    by_cases hroom : n + m ≤ cap
                    · -- in place
                      have hfitc : n * sz P el + news.length ≤ cs.size := by
                        rw [hC.len, ← Nat.add_mul]
                        exact Nat.le_trans (Nat.mul_le_mul_right _ hroom) hcc
                      have hr := run_append_room (P := P) X.w t ty el i hu hi b n cap cs k2 ad m c news (by rw [his]; exact hC.len) (hC.cell ad rfl) hC.one hroom (by rw [his]; exact hfitc)
                      rw [his] at hr
                      have hcap' : n + m ≤ cap' := by
                        have h1 : (n + m) * sz P el ≤ cap' * sz P el := by
                          rw [← k5]; exact Nat.le_trans (Nat.mul_le_mul_right _ hroom) hcc
                        exact Nat.le_of_mul_le_mul_right h1 (hT _ _ hde).pos
                      have hsz' : (cs.toList.take (n * sz P el) ++ news ++ cs.toList.drop (n * sz P el + news.length)).toArray.size = cs.size := by simp; omega
                      obtain ⟨h1, h2⟩ := new_ok (P := P) (T := T) hX (ro := some r) (g := .row el (n + m) (joinF f g n)) (b' := some b)
                        (w' := X.w.setRow b (cs.toList.take (n * sz P el) ++ news ++ cs.toList.drop (n * sz P el + news.length)).toArray) hro rfl rfl rfl (by simp)
                        (fun b'' _ hne => setRow_other X.w b b'' _ (fun e => hne r rfl (by rw [e]; exact k1))) (bsize_setRow X.w b cs _ el _ k2 (by omega)) (fun k hk => .inr ⟨r, rfl, by cases hk; exact k1⟩)
                        (fun Y hY hE hb hr => by
                          unfold RegOk
                          rw [hr]
                          refine ⟨⟨de, hde⟩, hfit', .inr ⟨b, _, el, (0, 0), cap', hb, by rw [hY]; exact setRow_heap X.w b cs _ el _ k2, fun _ => ⟨rfl, rfl⟩, (by intro h; cases h), by omega, hcap', fun i hi => ?_⟩⟩
                          have hA : (cs.toList.take (n * sz P el)).length = n * sz P el := by simp; omega
                          by_cases h1 : i < n
                          · rw [hjf i h1]
                            have : ((cs.toList.take (n * sz P el) ++ news ++ cs.toList.drop (n * sz P el + news.length)).drop (i * sz P el)).take (sz P el) = (cs.toList.drop (i * sz P el)).take (sz P el) := by
                              rw [List.append_assoc, blk_left hA h1, blk_take h1]
                            rw [this]
                            exact relF_mono hE (k7 i (by omega))
                          · have hj := hjg (i - n)
                            rw [show n + (i - n) = i by omega] at hj
                            rw [hj]
                            have : ((cs.toList.take (n * sz P el) ++ news ++ cs.toList.drop (n * sz P el + news.length)).drop (i * sz P el)).take (sz P el) = (news.drop ((i - n) * sz P el)).take (sz P el) := by
                              rw [List.append_assoc, blk_right hA (by omega), blk_left hC.len (by omega)]
                            rw [this]
                            exact relF_mono hE (hC.rel _ (by omega)))
                      refine ⟨_, _, _, hfin, h1, h2, rel_sub.2 ⟨_, cap, rfl, hroom, by simp, .inr ⟨el, n + m, by rw [reg_new]; exact ⟨rfl, rfl⟩, by simp, ?_⟩⟩, hr⟩
                      have hbl : (⟨X.w.setRow b (cs.toList.take (n * sz P el) ++ news ++ cs.toList.drop (n * sz P el + news.length)).toArray, goneAt X.G (some r) ++ [.row el (n + m) (joinF f g n)], X.ρ ++ [some b], X.S⟩ : Rx).blk X.G.length = some b := by
                        show (X.ρ ++ [some b]).getD X.G.length none = _
                        rw [blk_snoc hX, if_pos rfl]
                      rw [hbl]
                      refine ⟨fun _ => by simp, ?_⟩
                      have : bsize (X.w.setRow b (cs.toList.take (n * sz P el) ++ news ++ cs.toList.drop (n * sz P el + news.length)).toArray) b = cs.size := by
                        unfold bsize
                        rw [setRow_heap X.w b cs _ el _ k2]
                        exact hsz'
                      show (0 + cap) * sz P el ≤ bsize _ b
                      rw [this, Nat.zero_add]
                      exact hcc
                    · -- a new row
                      have hA : (cs.toList.take (n * sz P el)).length = n * sz P el := by simp; omega
                      have hr := run_append_grow (P := P) X.w t ty el i z hu hi hz ⟨b, 0, none⟩ n cap (cs.toList.take (n * sz P el)) (by rw [his]; exact hA)
                        (fun j u hj => by
                          rw [add_plain', cell_of_row X.w b _ cs el _ k2]
                          rw [List.getElem?_take] at hj
                          split at hj
                          · simpa using hj
                          · cases hj)
                        ad m c news (by rw [his]; exact hC.len) (hC.cell ad rfl) (by omega) (by omega) (growslice_fits (by omega) (mulb _ hm))
                      obtain ⟨Y, hYG, hYw, h1, h2, h3⟩ := append_fresh hT hX hro hde (f := joinF f g n) (olds := cs.toList.take (n * sz P el)) hzs hA hC.len (grownCap_ge X.w (n + m) cap el) hfit'
                        (fun i hi => by rw [hjf i hi, blk_take hi]; exact k7 i (by omega)) (fun i hi => by rw [hjg i]; exact hC.rel i hi)
                      refine ⟨_, Y, _, by rw [hYG]; exact hfin, h1, h2, h3, by rw [hYw]; exact hr⟩
          | _ => simp only [hg] at h; exact (all_fail h).elim
      | _ => exact (all_fail h).elim
    | _ => simp only [ht] at h; exact (all_fail h).elim
end
end Go.VM

namespace Go.VM
section
variable {P : Program} {T : Tab} {β : Type} {PP : β → Prop}

theorem blk_over {α : Type} {k i : Nat} {l c : List α} (hc : c.length = k) (hb : i * k + k ≤ l.length) :
    ((l.take (i * k) ++ c ++ l.drop (i * k + c.length)).drop (i * k)).take k = c ∧ ∀ j, j ≠ i → ((l.take (i * k) ++ c ++ l.drop (i * k + c.length)).drop (j * k)).take k = (l.drop (j * k)).take k := by
  have hbound : i * k + c.length ≤ l.length := by omega
  refine ⟨?_, fun j hj => ?_⟩
  · apply List.ext_getElem?
    intro m
    rw [blk_get, over_get _ _ _ _ hbound]
    by_cases hm : m < k
    · rw [if_pos hm, if_neg (by omega), if_pos (by omega)]
      congr 1; omega
    · rw [if_neg hm, List.getElem?_eq_none (by omega)]
  · apply List.ext_getElem?
    intro m
    rw [blk_get, blk_get, over_get _ _ _ _ hbound]
    by_cases hm : m < k
    · rw [if_pos hm, if_pos hm]
      rcases Nat.lt_or_gt_of_ne hj with h1 | h1
      · have : j * k + k ≤ i * k := by rw [← Nat.succ_mul]; exact Nat.mul_le_mul_right _ h1
        rw [if_pos (by omega)]
      · have : i * k + k ≤ j * k := by rw [← Nat.succ_mul]; exact Nat.mul_le_mul_right _ h1
        rw [if_neg (by omega), if_neg (by omega)]
    · rw [if_neg hm, if_neg hm]

theorem litF_at (z : V) : ∀ (es : List V) (i : Nat), i < es.length → litF z es i = es.getD i .junk
  | [], i, h => by simp at h
  | v :: l, 0, _ => rfl
  | v :: l, i + 1, h => by simpa [litF] using litF_at z l i (by simpa using h)
theorem repl_len (z : V) : ∀ n, (repl z n).length = n
  | 0 => rfl
  | n + 1 => by simp [repl, repl_len z n]
theorem repl_at (z : V) : ∀ (n i : Nat), i < n → (repl z n).getD i .junk = z
  | n + 1, 0, _ => rfl
  | n + 1, i + 1, h => by simpa [repl] using repl_at z n i (by omega)

theorem litG_mono (σ : Operand → V) : ∀ (parts : List (Nat × Operand)) (o : List Nat) (r : Nat), r ∈ o → r ∈ litG σ parts o
  | [], o, r, h => h
  | (i, x) :: l, o, r, h => by simp only [litG]; exact litG_mono σ l _ r ((lent_sub_all []).1 _ _ _ h)

/-- a slice literal's cells -/
structure Lit (P : Program) (T : Tab) (X : Rx) (e n : Nat) (es : List V) (cells : Array Value) : Prop where
  len : es.length = n
  size : cells.size = n * sz P e
  fits : ∀ i, i < n → T.fits e (es.getD i .junk) = true
  rel : ∀ i, i < n → RelF P T X (es.getD i .junk) ((cells.toList.drop (i * sz P e)).take (sz P e))

theorem lit_ok (hT : TabOk P T) {X X1 : Rx} (hX : RInv P T X) {σ : Operand → V} {ev : Operand → Value} (hσ : OpRel P T X σ ev) (hk : Keeps X X1) {e n : Nat} {d : TyD} (hd : find e T = some d) {K : List V → R β} :
    ∀ (parts : List (Nat × Operand)) (o : List Nat) (es : List V) (cells : Array Value), (∀ r, r ∈ litG σ parts o → Lent X X1 r) → Lit P T X1 e n es cells → All PP (litParts σ T X.G e parts es K) →
      ∃ es' cells', All PP (K es') ∧ Lit P T X1 e n es' cells' ∧ Instr.fill (fun i => some (i * sz P e, sz P e)) cells (parts.map fun p => (p.1, ev p.2)) = some cells'
  | [], o, es, cells, _, hL, h => ⟨es, cells, h, hL, rfl⟩
  | (i, x) :: parts, o, es, cells, hl, hL, h => by
    unfold litParts at h
    obtain ⟨hc, h⟩ := all_must.1 h
    have hc : ltN i es.length = true ∧ T.fits e (escV T X.G (σ x)) = true := by simpa [andB] using hc
    have hi : i < n := by rw [← hL.len]; exact of_decide_eq_true hc.1
    have hnj : σ x ≠ .junk := by
      intro hj
      have := hc.2
      rw [hj] at this
      simp [escV, lend, Tab.fits, fitV] at this
    have hx := rel_relF (hσ x) hnj
    have hx1 : RelF P T X1 (escV T X.G (σ x)) (cellsL (ev x)) :=
      relF_lend hT hX (o := []) (fun r s h => by simp [posIn] at h) hk (a := o) (fun r hr => hl r (by simp only [litG]; exact litG_mono σ parts _ r hr)) hx
    have hlen := relF_len hT hd (fits_shape hc.2) hx1
    have hbnd : i * sz P e + sz P e ≤ cells.toList.length := by
      rw [Array.length_toList, hL.size, ← Nat.succ_mul]
      exact Nat.mul_le_mul_right _ hi
    obtain ⟨cells', g1, g2⟩ := fill_one (i := i) (off := i * sz P e) (size := sz P e) (place := fun i => some (i * sz P e, sz P e)) (rest := parts.map fun p => (p.1, ev p.2)) rfl (cells := cells) (v := ev x) (by rw [← Array.length_toList, cells_cellsL, hlen])
      (c1 := cells.toList.take (i * sz P e)) (c2 := (cells.toList.drop (i * sz P e)).take (sz P e)) (c3 := cells.toList.drop (i * sz P e + sz P e))
      (by rw [List.append_assoc, ← List.drop_drop, List.take_append_drop, List.take_append_drop]) (by rw [List.length_take]; omega) (by rw [List.length_take, List.length_drop]; omega)
    rw [cells_cellsL] at g1
    obtain ⟨b1, b2⟩ := blk_over (l := cells.toList) (i := i) hlen hbnd
    rw [hlen] at b1 b2
    have hL' : Lit P T X1 e n (es.set i (escV T X.G (σ x))) cells' := by
      refine ⟨by rw [List.length_set]; exact hL.len, ?_, fun j hj => ?_, fun j hj => ?_⟩
      · rw [← Array.length_toList, g1]
        have h1 := hL.size
        rw [Array.length_toList] at hbnd
        simp only [List.length_append, List.length_take, List.length_drop, hlen, Array.length_toList]
        omega
      · by_cases hji : j = i
        · subst hji
          simpa [hL.len, hj] using hc.2
        · have := hL.fits j hj
          simpa [List.getElem?_set, Ne.symm hji] using this
      · rw [g1]
        by_cases hji : j = i
        · subst hji
          rw [b1]
          simpa [hL.len, hj] using hx1
        · rw [b2 j hji]
          have := hL.rel j hj
          simpa [List.getElem?_set, Ne.symm hji] using this
    obtain ⟨es', cells'', k1, k2, k3⟩ := lit_ok hT hX hσ hk hd parts (lent [] (σ x) o) (es.set i (escV T X.G (σ x))) cells' (fun r hr => hl r (by simpa only [litG] using hr)) hL' h
    exact ⟨es', cells'', k1, k2, by simp only [List.map_cons]; rw [g2]; exact k3⟩

theorem made_get {z : Array Value} {k n i : Nat} (hz : z.size = k) (hi : i < n) : (((madeCells z (n * k)).toList.drop (i * k)).take k) = z.toList := by
  have hb : i * k + k ≤ n * k := by rw [← Nat.succ_mul]; exact Nat.mul_le_mul_right _ hi
  apply List.ext_getElem?
  intro j
  rw [blk_get]
  by_cases hj : j < k
  · have h1 : (i * k + j) % k = j := by rw [Nat.mul_comm, Nat.mul_add_mod, Nat.mod_eq_of_lt hj]
    have h2 : (madeCells z (n * k)).toList[i * k + j]? = some z[(i * k + j) % z.size]! := by
      simp only [madeCells, Array.toList_map, List.getElem?_map, Array.toList_range, List.getElem?_range (show i * k + j < n * k by omega), Option.map_some]
    rw [if_pos hj, h2, hz, h1]
    have h3 : j < z.size := by omega
    simp [h3]
  · rw [if_neg hj, List.getElem?_eq_none (by simp; omega)]

theorem zero_rel (hT : TabOk P T) (X : Rx) {e : Nat} {d : TyD} (hd : find e T = some d) : ∃ i z, P.info? e = some i ∧ i.zero = some z ∧ z.cells.size = sz P e ∧ i.size = sz P e ∧ RelF P T X (T.zero e) z.cells.toList ∧ tagShape T e (T.zero e) := by
  obtain ⟨i, z, h1, h2, h3, h4, h5⟩ := (hT _ _ hd).info
  refine ⟨i, z, h1, h2, ?_, by simp [sz, Program.cellsOf, h1], ?_, h5⟩
  · rw [← Array.length_toList, cells_cellsL]
    exact relF_len hT hd h5 h4
  · rw [cells_cellsL]
    exact relF_mono (ext_noX X) h4

theorem buildSlice_ok (hT : TabOk P T) {X : Rx} (hX : RInv P T X) {σ : Operand → V} {ev : Operand → Value} (hσ : OpRel P T X σ ev) {t n : Nat} {parts : Array (Nat × Operand)} {K : V → List Reg → R β}
    (h : All PP (match find t T with
    | some (.slice e) => must (leN n 512) <| must (T.fits e (T.zero e)) <| litParts σ T X.G e parts.toList (repl (T.zero e) n) fun es =>
        K (.sub X.G.length 0 n) (freezeAll X.G (litG σ parts.toList []) ++ [.row e n (litF (T.zero e) es)])
    | _ => .fail)) : YieldsE P T PP X K (Instr.buildSlice t n (parts.map fun (i, x) => (i, ev x))) := by
  cases ht : find t T with
  | none => simp only [ht] at h; exact (all_fail h).elim
  | some dt =>
    cases dt with
    | slice e =>
      simp only [ht] at h
      obtain ⟨hn, h⟩ := all_must.1 h
      obtain ⟨hzf, h⟩ := all_must.1 h
      have hn : n ≤ 512 := of_decide_eq_true hn
      obtain ⟨u, hu, hud⟩ := (hT t _ ht).und
      cases u <;> simp only [Und] at hud
      subst hud
      obtain ⟨_, ⟨de, hde⟩, _, hsz⟩ := (hT t _ ht).size
      obtain ⟨f1, f2⟩ := frz_ok hX (litG σ parts.toList [])
      obtain ⟨i, z, hi, hz, hzs, his, hzr, _⟩ := zero_rel hT (frzX X (litG σ parts.toList [])) hde
      have hL : Lit P T (frzX X (litG σ parts.toList [])) e n (repl (T.zero e) n) (madeCells z.cells (n * sz P e)) := by
        refine ⟨repl_len _ _, size_madeCells _ _, fun j hj => by rw [repl_at _ _ _ hj]; exact hzf, fun j hj => ?_⟩
        rw [repl_at _ _ _ hj, made_get hzs hj]
        exact hzr
      obtain ⟨es, cells, k1, k2, k3⟩ := lit_ok hT hX hσ f2.ext.safe hde parts.toList [] (repl (T.zero e) n) (madeCells z.cells (n * sz P e)) (fun r hr hl b hb => ⟨.inr ⟨r, hr, hb, hl⟩, rfl⟩) hL h
      obtain ⟨g1, g2⟩ := alloc_ok (P := P) (T := T) f1 (ro := none) (g := .row e n (litF (T.zero e) es)) (w' := X.w.alloc (.cells cells e)) (o := .cells cells e) (by simp) rfl rfl rfl rfl
        (fun Y hY hE hb hh hr => by
          unfold RegOk
          rw [hr]
          refine ⟨⟨de, hde⟩, fun j hj => by rw [litF_at _ _ _ (by rw [k2.len]; exact hj)]; exact k2.fits j hj, .inr ⟨_, cells, e, (0, 0), n, hb, hh, fun _ => ⟨rfl, rfl⟩, (by intro h; cases h), k2.size, Nat.le_refl _, fun j hj => ?_⟩⟩
          rw [litF_at _ _ _ (by rw [k2.len]; exact hj)]
          exact relF_mono hE (k2.rel j hj))
      have hlenG : (frzX X (litG σ parts.toList [])).G.length = X.G.length := freezeAll_len _ _
      have hsub := sub_new (P := P) (T := T) f1 (w' := X.w.alloc (.cells cells e)) (ro := none) (e := e) (n := n) (m := n) (cap := n) (f := litF (T.zero e) es) (Nat.le_refl _) (Nat.le_refl _) (by
        unfold bsize
        have : (X.w.alloc (.cells cells e)).heap[(frzX X (litG σ parts.toList [])).w.heap.size]? = some (.cells cells e) := heap_push_new rfl
        rw [this, ← k2.size]; exact Nat.le_refl _)
      rw [hlenG] at hsub
      refine ⟨_, _, .slice (some ⟨X.w.heap.size, 0, none⟩) n n, k1, g1, f2.trans g2, hsub, ?_⟩
      have hcap : ¬ (n * sz P e > 2 ^ 24) := by
        have := Nat.mul_le_mul hn hsz
        omega
      have k3' : Instr.fill (fun i => some (i * sz P e, sz P e)) (madeCells z.cells (n * sz P e)) (parts.map fun (i, x) => (i, ev x)).toList = some cells := by
        rw [Array.toList_map]; exact k3
      by_cases h0 : n * sz P e = 0
      · have hm : madeCells z.cells (n * sz P e) = #[] := by rw [h0]; simp [madeCells, Array.range_zero']
        rw [hm] at k3'
        have k4 : Instr.fill (fun i => some (i * sz P e, sz P e)) #[] (parts.toList.map fun (i, x) => (i, ev x)) = some cells := by
          rw [← Array.toList_map]; exact k3'
        have hn0 : n = 0 := (Nat.mul_eq_zero.1 h0).resolve_right (by have := (hT _ _ hde).pos; omega)
        subst hn0
        simp [Instr.buildSlice, run_underlying hu, (hT _ _ hde).run_sizeOf, newRow, Array.range_zero', k4]
      · have k4 : Instr.fill (fun i => some (i * sz P e, sz P e)) ((Array.range (n * sz P e)).map (z.cells[· % z.cells.size]!)) (parts.toList.map fun (i, x) => (i, ev x)) = some cells := by
          rw [← Array.toList_map]; exact k3'
        have hcap' : ¬ (16777216 < n * sz P e) := by simpa using hcap
        simp [Instr.buildSlice, run_underlying hu, (hT _ _ hde).run_sizeOf, hcap', h0, zeroValue, run_typeInfo hi, hz, newRow, k4]
    | _ => simp only [ht] at h; exact (all_fail h).elim

theorem makeSlice_ok (hT : TabOk P T) {X : Rx} (hX : RInv P T X) {t : Nat} {vl vc : V} {l c : Value} {K : V → List Reg → R β} (hl : Rel P T X vl l) (hc : Rel P T X vc c)
    (h : All PP (match (generalizing := false) find t T, vl, vc with
    | some (.slice e), .int _ n, .int _ m => must (T.fits e (T.zero e)) <| must (andB (andB (leI 0 n) (leI n m)) (leI m (ofN room))) (K (.sub X.G.length 0 (natI n)) (X.G ++ [.row e (natI n) fun _ => T.zero e]))
    | _, _, _ => .fail)) : YieldsE P T PP X K (Instr.makeSlice t l c) := by
  split at h
  · rename_i e k1 n k2 m ht
    rw [rel_int] at hl hc
    subst hl hc
    obtain ⟨hzf, h⟩ := all_must.1 h
    obtain ⟨hr, h⟩ := all_must.1 h
    have hr : (leI 0 n = true ∧ leI n m = true) ∧ leI m (ofN room) = true := by simpa [andB] using hr
    have h1 : 0 ≤ n := of_decide_eq_true hr.1.1
    have h2 : n ≤ m := of_decide_eq_true hr.1.2
    have h3 : m ≤ (1073741824 : Nat) := of_decide_eq_true hr.2
    obtain ⟨u, hu, hud⟩ := (hT t _ ht).und
    cases u <;> simp only [Und] at hud
    subst hud
    obtain ⟨_, ⟨de, hde⟩, hby, _⟩ := (hT t _ ht).size
    obtain ⟨i, z, hi, hz, hzs, his, hzr, _⟩ := zero_rel hT X hde
    have hby : i.bytes ≤ 32768 := by simpa [Program.bytesOf, hi] using hby
    have hbm : (i.bytes : Int) * m ≤ 281474976710656 := by
      have e1 : m = ((m.toNat : Nat) : Int) := by omega
      rw [e1]
      have : i.bytes * m.toNat ≤ 32768 * 1073741824 := Nat.mul_le_mul hby (by omega)
      have h4 : ((i.bytes * m.toNat : Nat) : Int) ≤ 281474976710656 := by omega
      rwa [Int.natCast_mul] at h4
    have hrun := run_make (P := P) X.w t e i z hu hi hz k1 k2 n m h1 h2 hbm (by omega)
    rw [his] at hrun
    obtain ⟨g1, g2⟩ := alloc_ok (P := P) (T := T) hX (ro := none) (g := .row e (natI n) fun _ => T.zero e) (w' := X.w.alloc (.cells (madeCells z.cells (m.toNat * sz P e)) e)) (o := .cells (madeCells z.cells (m.toNat * sz P e)) e) (by simp) rfl rfl rfl rfl
      (fun Y hY hE hb hh hr => by
        unfold RegOk
        rw [hr]
        refine ⟨⟨de, hde⟩, fun j hj => hzf, .inr ⟨_, _, e, (0, 0), m.toNat, hb, hh, fun _ => ⟨rfl, rfl⟩, (by intro h; cases h), size_madeCells _ _, by unfold natI; omega, fun j hj => ?_⟩⟩
        rw [made_get hzs (by unfold natI at hj; omega)]
        exact relF_mono hE hzr)
    refine ⟨_, _, _, h, g1, g2, sub_new hX (Nat.le_refl _) (show natI n ≤ m.toNat by unfold natI; omega) ?_, hrun⟩
    unfold bsize
    have : (X.w.alloc (.cells (madeCells z.cells (m.toNat * sz P e)) e)).heap[X.w.heap.size]? = some (.cells (madeCells z.cells (m.toNat * sz P e)) e) := heap_push_new rfl
    rw [this]
    simp [size_madeCells]
  · exact (all_fail h).elim
end
end Go.VM

namespace Go.VM
section
variable {P : Program} {T : Tab} {β : Type} {PP : β → Prop}

theorem keyIs_cons {v : V} {l : List V} : keyIs (v :: l) = true ↔ keyI v = true ∧ keyIs l = true := by
  cases l <;> simp [keyIs, andB]
theorem keyIs_at : ∀ {l : List V} {i : Nat}, keyIs l = true → i < l.length → keyI (l.getD i .junk) = true
  | v :: l, 0, h, _ => (keyIs_cons.1 h).1
  | v :: l, i + 1, h, hi => by
    have := keyIs_at (l := l) (i := i) (keyIs_cons.1 h).2 (by simpa using hi)
    simpa using this
theorem fitVs_at2 : ∀ {l : List V} {fs : List Nat} {i ft : Nat}, fitVs T l fs = true → fs[i]? = some ft → fitV T (l.getD i .junk) ft = true ∧ i < l.length
  | [], fs, i, ft, h, hi => by
    cases fs with
    | nil => simp at hi
    | cons f fs => simp [fitVs] at h
  | v :: l, [], i, ft, h, hi => by simp at hi
  | v :: l, f :: fs, i, ft, h, hi => by
    simp only [fitVs] at h
    split at h
    · rename_i hv
      cases i with
      | zero => simp at hi; subst hi; exact ⟨by simpa using hv, by simp⟩
      | succ i =>
        obtain ⟨h1, h2⟩ := fitVs_at2 (l := l) (fs := fs) (i := i) h (by simpa using hi)
        exact ⟨by simpa using h1, by simpa using h2⟩
    · cases h
theorem mapM_some {α γ : Type} {f : α → Option γ} : ∀ {L : List α}, (∀ x ∈ L, ∃ y, f x = some y) → ∃ ys, L.mapM f = some ys
  | [], _ => ⟨[], rfl⟩
  | x :: L, h => by
    obtain ⟨y, hy⟩ := h x (by simp)
    obtain ⟨ys, hys⟩ := mapM_some (L := L) fun z hz => h z (by simp [hz])
    exact ⟨y :: ys, by simp [List.mapM_cons, hy, hys]⟩
theorem kind_of {t : Nat} {q : IntKind} (h : kindIs q (find t T) = true) : find t T = some (.int q) := by
  unfold kindIs at h
  split at h
  · rename_i j hj
    rw [hj, sameK_eq h]
  · cases h
/-- a key's cells are literals -/
theorem keyLits_ok (hT : TabOk P T) {X : Rx} : ∀ (d : Nat) (v : V) (t : Nat) (cs : List Value), P.keyTypeAt d t = true → keyI v = true → fitV T v t = true → RelF P T X v cs → ∃ ls, P.keyLits d t cs = some ls
  | 0, v, t, cs, h, _, _, _ => by simp [Program.keyTypeAt] at h
  | d + 1, v, t, cs, h, hk, hf, hr => by
    cases v <;> simp only [keyI, Bool.false_eq_true] at hk
    · rename_i b
      simp only [RelF] at hr
      subst hr
      simp only [fitV] at hf
      split at hf
      · rename_i hd
        obtain ⟨u, hu, hud⟩ := (hT _ _ hd).und
        cases u <;> simp only [Und] at hud
        simp only [Program.keyLits, hu]
        exact ⟨_, rfl⟩
      · cases hf
    · rename_i q n
      simp only [RelF] at hr
      subst hr
      simp only [fitV] at hf
      obtain ⟨u, hu, hud⟩ := (hT _ _ (kind_of hf)).und
      cases u <;> simp only [Und] at hud
      subst hud
      have hk : q.min ≤ n ∧ n ≤ q.max := by simpa [andB, leI] using hk
      have hw : (Lit.int q n).wf = true := by simp [Lit.wf, hk.1, hk.2]
      simp only [Program.keyLits, hu]
      simp only [hw, and_self, if_true]
      exact ⟨_, rfl⟩
    · rename_i u l
      have hsh := fits_shape (T := T) (t := t) (v := .nd u l) hf
      simp only [fitV] at hf
      split at hf
      · rename_i fs hb hd
        have := Nat.eq_of_beq_eq_true hb
        subst this
        have hlen := relF_len hT hd hsh hr
        simp only [RelF] at hr
        obtain ⟨fs', hfs, hrl⟩ := hr
        rw [hd] at hfs
        cases hfs
        obtain ⟨w, hu, hud⟩ := (hT _ _ hd).und
        cases w <;> simp only [Und] at hud
        rename_i fields
        obtain ⟨htypes, hoff⟩ := hud
        simp only [Program.keyTypeAt, hu, Bool.and_eq_true] at h
        have hall := h.1.1
        have hnames : fields.all (fun f => f.name != "_") = true := by
          rw [Array.all_eq_true'] at hall ⊢
          intro f hf'
          have := hall f hf'
          simp only [Bool.and_eq_true] at this
          exact this.1
        have hm : ∃ ys, (fields.toList.mapM fun f => P.keyLits d f.type ((cs.drop f.offset).take (P.cellsOf f.type))) = some ys := by
          refine mapM_some fun f hf' => ?_
          obtain ⟨i, hi⟩ := List.getElem?_of_mem hf'
          have hfi : fields[i]? = some f := by rw [← Array.getElem?_toList]; exact hi
          have hti : fs[i]? = some f.type := by rw [← htypes, List.getElem?_map, hi]; rfl
          obtain ⟨c1, c2, c3, e1, e2, e3, e4, e5, _⟩ := relFs_at l fs cs i f.type hrl hti
          obtain ⟨g1, g2⟩ := fitVs_at2 hf hti
          have hpiece : (cs.drop f.offset).take (P.cellsOf f.type) = c2 := by
            rw [e1, (hoff i f hfi).1, ← e2]
            have : P.cellsOf f.type = c2.length := e3.symm
            rw [this]
            simp
          rw [hpiece]
          have hkt : P.keyTypeAt d f.type = true := by
            rw [Array.all_eq_true'] at hall
            have := hall f (by simpa using hf')
            simp only [Bool.and_eq_true] at this
            exact this.2
          exact keyLits_ok hT d _ f.type c2 hkt (keyIs_at hk g2) g1 e5
        obtain ⟨ys, hys⟩ := hm
        have hl : cs.length = P.cellsOf u := hlen
        simp only [Program.keyLits, hu]
        rw [if_pos ⟨hl, hnames⟩, hys]
        exact ⟨_, rfl⟩
      · cases hf
theorem sames_cons {x y : V} {l m : List V} : sames (x :: l) (y :: m) = true ↔ same x y = true ∧ sames l m = true := by
  cases l <;> cases m <;> simp [sames, andB]
/-- keys are the same where their cells are -/
theorem same_all (_ : TabOk P T) {X : Rx} : (∀ (v : V), ∀ (v' : V) (t : Nat) (cs cs' : List Value), fitV T v t = true → fitV T v' t = true → keyI v = true → keyI v' = true → RelF P T X v cs → RelF P T X v' cs' → (same v v' = true ↔ cs = cs')) ∧
    (∀ (l : List V), ∀ (m : List V) (fs : List Nat) (cs cs' : List Value), fitVs T l fs = true → fitVs T m fs = true → keyIs l = true → keyIs m = true → RelFs P T X l fs cs → RelFs P T X m fs cs' → (sames l m = true ↔ cs = cs')) := by
  apply V.ind (L := fun l => ∀ (m : List V) (fs : List Nat) (cs cs' : List Value), fitVs T l fs = true → fitVs T m fs = true → keyIs l = true → keyIs m = true → RelFs P T X l fs cs → RelFs P T X m fs cs' → (sames l m = true ↔ cs = cs'))
  case int =>
    intro q n v' t cs cs' h1 h2 k1 k2 r1 r2
    cases v' <;> simp only [keyI, Bool.false_eq_true] at k2
    · rename_i b
      simp only [fitV] at h1 h2
      rw [kind_of h1] at h2
      cases h2
    · rename_i q' n'
      simp only [RelF] at r1 r2
      subst r1 r2
      simp only [fitV] at h1 h2
      have := (kind_of h1).symm.trans (kind_of h2)
      cases this
      have hq : sameK q q = true := by cases q <;> rfl
      simp [same, hq, eqI]
    · rename_i u l
      simp only [fitV] at h1 h2
      rw [kind_of h1] at h2
      simp at h2
  case bool =>
    intro b v' t cs cs' h1 h2 k1 k2 r1 r2
    cases v' <;> simp only [keyI, Bool.false_eq_true] at k2
    · rename_i b'
      simp only [RelF] at r1 r2
      subst r1 r2
      simp [same, eqB]
    · rename_i q' n'
      simp only [fitV] at h1 h2
      rw [kind_of h2] at h1
      cases h1
    · rename_i u l
      simp only [fitV] at h1 h2
      split at h1
      · rename_i hd
        rw [hd] at h2
        simp at h2
      · cases h1
  case nd =>
    intro u l ih v' t cs cs' h1 h2 k1 k2 r1 r2
    simp only [keyI] at k1
    cases v' <;> simp only [keyI, Bool.false_eq_true] at k2
    · simp only [fitV] at h1 h2
      split at h2
      · rename_i hd
        rw [hd] at h1
        simp at h1
      · cases h2
    · simp only [fitV] at h1 h2
      rw [kind_of h2] at h1
      simp at h1
    · rename_i u' l'
      simp only [fitV] at h1 h2
      split at h1
      · rename_i fs hb hd
        have := Nat.eq_of_beq_eq_true hb
        subst this
        split at h2
        · rename_i fs' hb' hd'
          have := Nat.eq_of_beq_eq_true hb'
          subst this
          rw [hd] at hd'
          cases hd'
          simp only [RelF] at r1 r2
          obtain ⟨f1, g1, g2⟩ := r1
          obtain ⟨f2, g3, g4⟩ := r2
          rw [hd] at g1 g3
          cases g1; cases g3
          have := ih l' fs cs cs' h1 h2 k1 k2 g2 g4
          rw [← this]
          simp [same]
        · cases h2
      · cases h1
  case nil =>
    intro m fs cs cs' h1 h2 k1 k2 r1 r2
    obtain ⟨rfl, rfl⟩ := relFs_nil.1 r1
    cases m with
    | nil => obtain ⟨_, rfl⟩ := relFs_nil.1 r2; simp [sames]
    | cons y m => simp [fitVs] at h2
  case cons =>
    intro x l ihx ihl m fs cs cs' h1 h2 k1 k2 r1 r2
    obtain ⟨t, fs', c1, c2, rfl, rfl, a1, a2, a3, a4⟩ := relFs_cons.1 r1
    cases m with
    | nil => simp [fitVs] at h2
    | cons y m =>
      obtain ⟨t', fs'', d1, d2, e1, rfl, b1, b2, b3, b4⟩ := relFs_cons.1 r2
      cases e1
      simp only [fitVs] at h1 h2
      split at h1
      · rename_i hx
        split at h2
        · rename_i hy
          rw [sames_cons, ihx y t c1 d1 hx hy (keyIs_cons.1 k1).1 (keyIs_cons.1 k2).1 a3 b3, ihl m fs' c2 d2 h1 h2 (keyIs_cons.1 k1).2 (keyIs_cons.1 k2).2 a4 b4]
          constructor
          · rintro ⟨rfl, rfl⟩; rfl
          · intro h; exact List.append_inj h (by rw [a2, b2])
        · cases h2
      · cases h1
  all_goals intros; rename_i k1 _ _ _; simp [keyI] at k1
theorem key_lit (hT : TabOk P T) {X : Rx} {v : V} {x : Value} {kt : Nat} (hkt : P.keyType kt = true) (hk : keyI v = true) (hf : T.fits kt v = true) (hr : Rel P T X v x) : (aggOk v x ∧ RelF P T X v (cellsL x)) ∧ ∃ lit, keyOf P kt x = some lit := by
  have hr : aggOk v x ∧ RelF P T X v (cellsL x) := by
    rcases hr with rfl | hr
    · simp [keyI] at hk
    · exact hr
  refine ⟨hr, ?_⟩
  obtain ⟨ls, hls⟩ := keyLits_ok hT (P.types.size + 1) v kt (cellsL x) hkt hk hf hr.2
  unfold Tab.fits at hf
  cases v <;> simp only [keyI, Bool.false_eq_true] at hk
  · rename_i b _
    have hx : cellsL x = [.bool b] := by simpa only [RelF] using hr.2
    have hx : x = .bool b := by
      cases x <;> simp only [cellsL, List.cons.injEq, and_true, reduceCtorEq] at hx <;> first | exact hx | (exact absurd rfl (hr.1 _))
    subst hx
    simp only [fitV] at hf
    split at hf
    · rename_i hd
      obtain ⟨u, hu, hud⟩ := (hT _ _ hd).und
      cases u <;> simp only [Und] at hud
      exact ⟨_, Maps.keyOf_bool_mk hu b⟩
    · cases hf
  · rename_i q n _
    have hx : x = .int q n := rel_int.1 (.inr hr)
    subst hx
    simp only [fitV] at hf
    obtain ⟨u, hu, hud⟩ := (hT _ _ (kind_of hf)).und
    cases u <;> simp only [Und] at hud
    subst hud
    refine ⟨_, Maps.keyOf_int_mk hu ?_⟩
    simp [andB, leI] at hk
    simp [Lit.wf, hk.1, hk.2]
  · rename_i u l _
    obtain ⟨cs, rfl⟩ := hr.1
    have hsh := fits_shape (T := T) (t := kt) (v := .nd u l) (by unfold Tab.fits; exact hf)
    simp only [fitV] at hf
    split at hf
    · rename_i fs hb hd
      have hlen := relF_len hT hd hsh hr.2
      obtain ⟨w, hu, hud⟩ := (hT _ _ hd).und
      cases w <;> simp only [Und] at hud
      have hl : cs.size = P.cellsOf kt := by simpa [cellsL, sz] using hlen
      have hls : P.keyLits (P.types.size + 1) kt cs.toList = some ls := by simpa [cellsL] using hls
      refine ⟨.string (keyBytes ls), ?_⟩
      unfold keyOf
      rw [hu]
      simp only
      have hfm : Value.formed P kt (.agg cs) = true := by simp [Value.formed, hu, hl]
      rw [hkt, hfm]
      simp [Value.cells, hls]
    · cases hf
theorem cellsL_inj {v v' : V} {x x' : Value} (h : (∃ t l, v = .nd t l) ↔ ∃ t l, v' = .nd t l) (hv : (∃ t n f, v = .arr t n f) → False) (hv' : (∃ t n f, v' = .arr t n f) → False) (ha : aggOk v x) (ha' : aggOk v' x') : x = x' ↔ cellsL x = cellsL x' := by
  refine ⟨fun e => by rw [e], fun e => ?_⟩
  by_cases hn : ∃ t l, v = .nd t l
  · obtain ⟨t, l, rfl⟩ := hn
    obtain ⟨t', l', rfl⟩ := h.1 ⟨t, l, rfl⟩
    obtain ⟨cs, rfl⟩ := ha
    obtain ⟨cs', rfl⟩ := ha'
    simp only [cellsL] at e
    rw [Array.toList_inj.1 e]
  · have hn' : ¬ ∃ t l, v' = .nd t l := fun hh => hn (h.2 hh)
    have one : ∀ {w : V} {y : Value}, (¬ ∃ t l, w = .nd t l) → ((∃ t n f, w = .arr t n f) → False) → aggOk w y → cellsL y = [y] := by
      intro w y h1 h2 h3
      cases y <;> first | rfl | skip
      rename_i cs
      cases w <;> simp only [aggOk] at h3 <;> first | exact absurd rfl (h3 cs) | exact absurd ⟨_, _, rfl⟩ h1 | exact (h2 ⟨_, _, _, rfl⟩).elim
    rw [one hn hv ha, one hn' hv' ha'] at e
    simpa using e
theorem same_val (hT : TabOk P T) {X : Rx} {v v' : V} {x x' : Value} {kt : Nat} (hk : keyI v = true) (hk' : keyI v' = true) (hf : T.fits kt v = true) (hf' : T.fits kt v' = true) (hr : aggOk v x ∧ RelF P T X v (cellsL x)) (hr' : aggOk v' x' ∧ RelF P T X v' (cellsL x')) :
    same v v' = true ↔ x = x' := by
  rw [(same_all hT).1 v v' kt _ _ hf hf' hk hk' hr.2 hr'.2]
  refine (cellsL_inj ⟨?_, ?_⟩ ?_ ?_ hr.1 hr'.1).symm
  · rintro ⟨t, l, rfl⟩
    unfold Tab.fits at hf hf'
    simp only [fitV] at hf
    split at hf
    · rename_i fs hb hd
      cases v' <;> simp only [keyI, Bool.false_eq_true] at hk'
      · simp [fitV, hd] at hf'
      · simp [fitV, hd, kindIs] at hf'
      · exact ⟨_, _, rfl⟩
    · cases hf
  · rintro ⟨t, l, rfl⟩
    unfold Tab.fits at hf hf'
    simp only [fitV] at hf'
    split at hf'
    · rename_i fs hb hd
      cases v <;> simp only [keyI, Bool.false_eq_true] at hk
      · simp [fitV, hd] at hf
      · simp [fitV, hd, kindIs] at hf
      · exact ⟨_, _, rfl⟩
    · cases hf'
  · rintro ⟨t, n, f, rfl⟩; simp [keyI] at hk
  · rintro ⟨t, n, f, rfl⟩; simp [keyI] at hk'
theorem hasK_no {k : V} : ∀ {l : List (Nat × V × V)}, hasK k l = false → ∀ kv : Nat × V × V, kv ∈ l → same kv.2.1 k = false
  | [], _, kv, hkv => absurd hkv (by simp)
  | e :: l, h, kv, hkv => by
    unfold hasK at h
    cases hs : same e.2.1 k with
    | true => rw [hs] at h; cases h
    | false =>
      rw [hs] at h
      rcases List.mem_cons.1 hkv with rfl | hkv
      · exact hs
      · exact hasK_no h kv hkv
theorem hasK_at {k : V} : ∀ {l : List (Nat × V × V)}, hasK k l = true → ∃ (j : Nat) (kv : Nat × V × V), l[j]? = some kv ∧ same kv.2.1 k = true ∧ getK k l = kv.2.2 ∧ (∀ (c : Nat) (x : V), putL c k x l = l.set j (kv.1, kv.2.1, x)) ∧ delL k l = l.eraseIdx j
  | [], h => by cases h
  | e :: l, h => by
    unfold hasK at h
    cases hs : same e.2.1 k with
    | true => exact ⟨0, e, rfl, hs, by unfold getK; rw [hs], fun c x => by unfold putL; rw [hs]; rfl, by unfold delL; rw [hs]; rfl⟩
    | false =>
      rw [hs] at h
      obtain ⟨j, kv, h1, h2, h3, h4, h5⟩ := hasK_at h
      exact ⟨j + 1, kv, by simpa using h1, h2, by unfold getK; rw [hs]; exact h3, fun c x => by unfold putL; rw [hs]; simp only [List.set_cons_succ]; rw [h4 c x], by unfold delL; rw [hs]; simp only [List.eraseIdx_cons_succ]; rw [h5]⟩
theorem putL_no {k : V} : ∀ {l : List (Nat × V × V)}, hasK k l = false → ∀ (c : Nat) (x : V), putL c k x l = l ++ [(c, k, x)]
  | [], _, _, _ => rfl
  | e :: l, h, c, x => by
    unfold hasK at h
    cases hs : same e.2.1 k with
    | true => rw [hs] at h; cases h
    | false =>
      rw [hs] at h
      unfold putL
      rw [hs]
      simp only [List.cons_append]
      rw [putL_no h c x]
theorem delL_no {k : V} : ∀ {l : List (Nat × V × V)}, hasK k l = false → delL k l = l
  | [], _ => rfl
  | e :: l, h => by
    unfold hasK at h
    cases hs : same e.2.1 k with
    | true => rw [hs] at h; cases h
    | false =>
      rw [hs] at h
      unfold delL
      rw [hs]
      simp only
      rw [delL_no h]
theorem lookK_all {k : V} {S : V → R β} {N : R β} {l : List (Nat × V × V)} (h : All PP (lookK k S N l)) : (∃ (j : Nat) (kv : Nat × V × V), l[j]? = some kv ∧ same kv.2.1 k = true ∧ All PP (S kv.2.2)) ∨ ((∀ kv : Nat × V × V, kv ∈ l → same kv.2.1 k = false) ∧ All PP N) := by
  unfold lookK at h
  cases hb : hasK k l with
  | true =>
    rw [hb] at h
    obtain ⟨j, kv, h1, h2, h3, _⟩ := hasK_at hb
    exact .inl ⟨j, kv, h1, h2, h3 ▸ h⟩
  | false => rw [hb] at h; exact .inr ⟨hasK_no hb, h⟩
/-- a key is looked for -/
theorem map_find (hT : TabOk P T) {X : Rx} {r t kt e clock : Nat} {l : List (Nat × V × V)} (hd : find t T = some (.map kt e)) (hM : MapOk P T X r t clock l) {k : V} {x : Value} (hk : keyI k = true) (hf : T.fits kt k = true) (hr : Rel P T X k x) :
    ∃ (b : Nat) (es : Array MapEntry), X.blk r = some b ∧ X.w.heap[b]? = some (.map es clock) ∧ es.size = l.length ∧ (∀ (em : Bool) w, (Instr.checkKey em 10000 kt x).run P w = .ok () w) ∧ (∀ w, (Instr.keyThatStays x x).run P w = .ok x w) ∧
      ((∀ (j : Nat) (kv : Nat × V × V), l[j]? = some kv → same kv.2.1 k = true → ∃ en : MapEntry, es[j]? = some en ∧ en.key = x ∧ ∀ w, (Instr.findKey kt x es.toList).run P w = .ok (some (j, en.val)) w) ∧
       ((∀ kv : Nat × V × V, kv ∈ l → same kv.2.1 k = false) → (∀ en : MapEntry, en ∈ es.toList → en.key ≠ x) ∧ ∀ w, (Instr.findKey kt x es.toList).run P w = .ok none w)) := by
  obtain ⟨kt', e', hd', b, es, h1, h2, h3, hds, h4⟩ := hM
  rw [hd] at hd'
  cases hd'
  have K : Maps.Keyed P kt := ((hT _ _ hd).size).2.2.2.1
  have hkt := ((hT _ _ hd).size).2.2.2.2
  obtain ⟨hrx, lit, hlit⟩ := key_lit hT hkt hk hf hr
  have hall : ∀ en : MapEntry, en ∈ es.toList → ∃ l, keyOf P kt en.key = some l := by
    intro en hen
    obtain ⟨i, hi⟩ := List.getElem?_of_mem hen
    have hi' : i < l.length := by
      have := (List.getElem?_eq_some_iff.1 hi).1
      rw [Array.length_toList, h3] at this
      exact this
    obtain ⟨_, _, _, en', e1, _, _, _, e4⟩ := h4 i l[i] (List.getElem?_eq_getElem hi')
    rw [← Array.getElem?_toList, hi] at e1
    cases e1
    exact e4
  have hsame : ∀ (j : Nat) (kv : Nat × V × V), l[j]? = some kv → ∃ en : MapEntry, es[j]? = some en ∧ (same kv.2.1 k = true ↔ en.key = x) := by
    intro j kv hj
    obtain ⟨k0, k1, k2, en, e1, e2, _, _, _⟩ := h4 j kv hj
    obtain ⟨hr', _⟩ := key_lit hT hkt k0 k1 e2
    exact ⟨en, e1, same_val hT k0 hk k1 hf hr' hrx⟩
  refine ⟨b, es, h1, h2, h3, fun em w => K.check w em hlit, fun w => K.stays w hlit, fun j kv hj hs => ?_, fun hno => ?_⟩
  · obtain ⟨en, e1, e2⟩ := hsame j kv hj
    have hkey := e2.1 hs
    refine ⟨en, e1, hkey, fun w => ?_⟩
    rcases K.find w hlit es.toList hall with ⟨_, hne⟩ | ⟨j', en', hf', hj', hk'⟩
    · exact absurd hkey (hne en (by rw [← Array.getElem?_toList] at e1; exact List.mem_of_getElem? e1))
    · rw [Array.getElem?_toList] at hj'
      have := hds j j' en en' e1 hj' (hkey.trans hk'.symm)
      subst this
      rw [e1] at hj'
      cases hj'
      exact hf'
  · have hne : ∀ en ∈ es.toList, en.key ≠ x := by
      intro en hen hk'
      obtain ⟨i, hi⟩ := List.getElem?_of_mem hen
      have hi' : i < l.length := by
        have := (List.getElem?_eq_some_iff.1 hi).1
        rw [Array.length_toList, h3] at this
        exact this
      obtain ⟨en', e1, e2⟩ := hsame i l[i] (List.getElem?_eq_getElem hi')
      rw [← Array.getElem?_toList, hi] at e1
      cases e1
      have := hno l[i] (List.getElem_mem hi')
      rw [e2.2 hk'] at this
      cases this
    refine ⟨hne, fun w => ?_⟩
    rcases K.find w hlit es.toList hall with ⟨h, _⟩ | ⟨j', en', hf', hj', hk'⟩
    · exact h
    · exact absurd hk' (hne en' (List.mem_of_getElem? hj'))

/-- a map's length -/
theorem mapLen_ok (hT : TabOk P T) {X : Rx} (hX : RInv P T X) {σ : Operand → V} {ev : Operand → Value} (hσ : OpRel P T X σ ev) {o : Oper} {n : Nat} (h : mapLen T σ X.G o.op = some n) : (execOp ev o).run P X.w = .ok (.value (.int .i64 (ofN n))) X.w := by
  cases hop : o.op with
  | call c =>
    rw [hop] at h
    unfold mapLen at h
    simp only at h
    split at h
    · rename_i b hc
      split at h
      · split at h
        · rename_i x t hx ht
          have hx' : c.args = #[x] := by rw [← Array.toList_inj]; exact hx
          have ht' : c.argTypes = #[t] := by rw [← Array.toList_inj]; exact ht
          split at h
          · rename_i k e hd
            obtain ⟨u, hu, hud⟩ := (hT _ _ hd).und
            cases u <;> simp only [Und] at hud
            have hv := hσ x
            split at h
            · rename_i r hr
              rw [hr] at hv
              split at h
              · rename_i u clock l hg
                split at h
                · cases h
                  rename_i hb
                  have hreg : X.reg r = .map u clock l := hg
                  have hlt : r < X.G.length := mapLike_lt (by rw [hreg]; trivial)
                  obtain ⟨b', hev, hb'⟩ := rel_mp.1 hv
                  have hM := hX.reg r hlt
                  unfold RegOk at hM
                  rw [hreg] at hM
                  obtain ⟨_, _, _, b'', es, h1, h2, h3, _⟩ := hM
                  rcases hb' with ⟨_, h'⟩ | ⟨h', _⟩
                  · rw [hreg] at h'; cases h'
                  · rw [h'] at h1; cases h1
                    simp [execOp, hop, resolve, hc, hx', ht', invoke, builtin, Builtin.len_, run_underlying hu, hev, MapKept.run_getObj_map h2, h3, ofN, goInt]
                · cases h
              · cases h
            · rename_i hr
              rw [hr] at hv
              cases h
              simp [execOp, hop, resolve, hc, hx', ht', invoke, builtin, Builtin.len_, run_underlying hu, rel_nilm.1 hv, ofN, goInt]
            · cases h
          · cases h
        · cases h
      · cases h
    · cases h
  | _ => rw [hop] at h; cases h
/-- a new map -/
theorem makeMap_ok (_ : TabOk P T) {X : Rx} (hX : RInv P T X) {t kt e : Nat} (hd : find t T = some (.map kt e)) :
    ∃ Y, Y.G = X.G ++ [.map t 0 []] ∧ RInv P T Y ∧ Step X Y ∧ Rel P T Y (.mp X.G.length) (.map (some X.w.heap.size)) ∧ Y.w = X.w.alloc (.map #[] 0) := by
  obtain ⟨h1, h2⟩ := alloc_ok (P := P) (T := T) hX (ro := none) (g := .map t 0 []) (w' := X.w.alloc (.map #[] 0)) (o := .map #[] 0) (by simp) rfl rfl rfl rfl
    (fun Y hY hE hb hh hr => by
      unfold RegOk
      rw [hr]
      exact ⟨kt, e, hd, _, #[], hb, hh, rfl, fun i j a b h => by simp at h, fun i kv h => by simp at h⟩)
  refine ⟨_, rfl, h1, h2, rel_mp.2 ⟨_, rfl, .inr ⟨?_, ?_⟩⟩, rfl⟩
  · show (X.ρ ++ [some X.w.heap.size]).getD X.G.length none = _
    rw [blk_snoc hX, if_pos rfl]
  · rw [reg_new]; trivial
/-! ### looking, putting -/
theorem zero_val (hT : TabOk P T) (X : Rx) {e : Nat} {d : TyD} (hd : find e T = some d) : ∃ z, (∀ w, (zeroValue e).run P w = .ok z w) ∧ Rel P T X (T.zero e) z := by
  obtain ⟨z, h1, h2, h3, _⟩ := TyFacts.run_zero (hT _ _ hd)
  exact ⟨z, h1, .inr ⟨h2, relF_mono (ext_noX X) h3⟩⟩
theorem eta_agg {t : Nat} {v : V} {x : Value} (hf : T.fits t v = true) (ha : aggOk v x) : aggOk (T.eta t v) x := by
  unfold Tab.fits at hf
  unfold Tab.eta
  unfold etaV
  cases hd : find t T with
  | none => exact ha
  | some d =>
    cases d <;> cases v <;> simp only [fitV, hd, kindIs, Bool.false_eq_true] at hf <;> simp only [aggOk] at ha ⊢ <;> first | exact ha | (split at hf <;> simp_all) | (cases strictE T <;> exact ha)
theorem eta_val {X : Rx} {t : Nat} {v : V} {x : Value} (hf : T.fits t v = true) (hr : Rel P T X v x) : Rel P T X (T.eta t v) x := by
  rcases hr with rfl | ⟨h1, h2⟩
  · unfold Tab.fits at hf; simp [fitV] at hf
  · exact .inr ⟨eta_agg hf h1, (eta_ok hf h2).2⟩
theorem lookV_rel {X : Rx} {v : V} {y : Value} (h : Rel P T X v y) (ok b : Bool) : Rel P T X (lookV ok v b) (if ok then .tuple #[y, .bool b] else y) := by
  cases ok with
  | false => exact h
  | true => exact rel_tup.2 ⟨#[y, .bool b], rfl, relVs_cons.2 ⟨y, _, rfl, h, relVs_cons.2 ⟨.bool b, _, rfl, rel_bool.2 rfl, relVs_nil.2 rfl⟩⟩⟩
/-- a map's region, at a value that names it -/
theorem map_at {X : Rx} (hX : RInv P T X) {r u clock : Nat} {l : List (Nat × V × V)} {x : Value} (hr : Rel P T X (.mp r) x) (hg : X.G.getD r .gone = .map u clock l) : ∃ b, x = .map (some b) ∧ X.blk r = some b ∧ r < X.G.length ∧ MapOk P T X r u clock l := by
  obtain ⟨b, rfl, h⟩ := rel_mp.1 hr
  have hreg : X.reg r = .map u clock l := hg
  have hlt : r < X.G.length := mapLike_lt (by rw [hreg]; trivial)
  rcases h with ⟨_, h⟩ | ⟨h, _⟩
  · rw [hreg] at h; cases h
  · have := hX.reg r hlt
    unfold RegOk at this
    rw [hreg] at this
    exact ⟨b, rfl, h, hlt, this⟩
theorem lookup_ok (hT : TabOk P T) {X : Rx} (hX : RInv P T X) {t kt e : Nat} (hd : find t T = some (.map kt e)) {vx vi : V} {x ix : Value} (hx : Rel P T X vx x) (hi : Rel P T X vi ix) {ok : Bool} {K : V → List Reg → R β}
    (h : All PP (must (andB (keyI vi) (T.fits kt vi)) (match (generalizing := false) vx with
      | .nilm => K (lookV ok (T.zero e) false) X.G
      | .mp r => (match X.G.getD r .gone with
        | .map u _ l => must (Nat.beq u t) (lookK vi (fun v => K (lookV ok (T.eta e v) true) X.G) (K (lookV ok (T.zero e) false) X.G) l)
        | _ => .fail)
      | _ => .fail))) : YieldsE P T PP X K (Instr.lookup t x ix ok) := by
  obtain ⟨hk, h'⟩ := all_must.1 h
  clear h
  have h := h'
  clear h'
  have hk : keyI vi = true ∧ T.fits kt vi = true := by simpa [andB] using hk
  obtain ⟨u, hu, hud⟩ := (hT _ _ hd).und
  cases u <;> simp only [Und] at hud
  obtain ⟨rfl, rfl⟩ := hud
  obtain ⟨_, ⟨dk, hdk⟩, ⟨de, hde⟩, hK, hkt⟩ := (hT _ _ hd).size
  obtain ⟨z, hz, hzr⟩ := zero_val hT X hde
  cases vx with
  | nilm =>
    have hx := rel_nilm.1 hx
    subst hx
    simp only at h
    obtain ⟨_, lit, hlit⟩ := key_lit hT hkt hk.1 hk.2 hi
    have hc := fun w => hK.check w true hlit
    refine ⟨_, X, _, h, hX, Step.refl X, lookV_rel hzr ok false, ?_⟩
    have hfind : ∀ w, (Instr.findKey kt ix []).run P w = .ok none w := by
      intro w
      rcases hK.find w hlit [] (by simp) with ⟨h, _⟩ | ⟨j, e, _, h, _⟩
      · exact h
      · simp at h
    cases ok <;> simp [Instr.lookup, run_underlying hu, hc, hfind, hz]
  | mp r =>
    simp only at h
    split at h
    · rename_i u clock l hg
      obtain ⟨hut, h'⟩ := all_must.1 h
      clear h
      have h := h'
      clear h'
      have hut := Nat.eq_of_beq_eq_true hut
      subst hut
      obtain ⟨b, rfl, hb, hlt, hM⟩ := map_at hX hx hg
      obtain ⟨b', es, h1, h2, h3, hck, hst, hyes, hno⟩ := map_find hT hd hM hk.1 hk.2 hi
      rw [hb] at h1; cases h1
      rcases lookK_all h with ⟨j, kv, hj, hs, hK1⟩ | ⟨hn, hK1⟩
      · obtain ⟨en, e1, e2, hf⟩ := hyes j kv hj hs
        obtain ⟨kt', e', hd', b'', es'', g1, g2, g3, g4, g5⟩ := hM
        rw [hd] at hd'; cases hd'
        rw [hb] at g1; cases g1
        rw [h2] at g2; cases g2
        obtain ⟨_, _, f2, en', f3, _, f5, _, _⟩ := g5 j kv hj
        rw [e1] at f3; cases f3
        refine ⟨_, X, _, hK1, hX, Step.refl X, lookV_rel (eta_val f2 f5) ok true, ?_⟩
        cases ok <;> simp [Instr.lookup, run_underlying hu, MapKept.run_getObj_map h2, hck, hf]
      · obtain ⟨_, hf⟩ := hno hn
        refine ⟨_, X, _, hK1, hX, Step.refl X, lookV_rel hzr ok false, ?_⟩
        cases ok <;> simp [Instr.lookup, run_underlying hu, MapKept.run_getObj_map h2, hck, hf, hz]
    · exact (all_fail h).elim
  | _ => exact (all_fail h).elim
theorem putK_all {c : Nat} {k x : V} {l : List (Nat × V × V)} {K : Nat → List (Nat × V × V) → R β} (h : All PP (putK c k x l K)) : ∃ c' l', All PP (K c' l') ∧
    ((∃ (j : Nat) (kv : Nat × V × V), l[j]? = some kv ∧ same kv.2.1 k = true ∧ c' = c ∧ l' = l.set j (kv.1, kv.2.1, x)) ∨ ((∀ kv : Nat × V × V, kv ∈ l → same kv.2.1 k = false) ∧ c' = c + 1 ∧ l' = l ++ [(c, k, x)])) := by
  refine ⟨_, _, h, ?_⟩
  unfold putC
  cases hb : hasK k l with
  | true =>
    obtain ⟨j, kv, h1, h2, _, h4, _⟩ := hasK_at hb
    exact .inl ⟨j, kv, h1, h2, rfl, h4 c x⟩
  | false => exact .inr ⟨hasK_no hb, rfl, putL_no hb c x⟩
def setObjW (w : World) (b : Nat) (o : Obj) : World := { w with heap := w.heap.setIfInBounds b o }
/-- a map's block is written -/
theorem writeM_ok {X : Rx} (hX : RInv P T X) {r b u : Nat} {l l' : List (Nat × V × V)} {es es' : Array MapEntry} {clock clock' : Nat} (hr : r < X.G.length) (hreg0 : X.reg r = .map u clock l) (hb : X.blk r = some b)
    (hg : X.w.heap[b]? = some (.map es clock))
    (hreg : ∀ Y : Rx, Y = ⟨setObjW X.w b (.map es' clock'), X.G.set r (.map u clock' l'), X.ρ, X.S⟩ → Ext X Y → Y.blk r = some b → Y.w.heap[b]? = some (.map es' clock') → MapOk P T Y r u clock' l') :
    RInv P T ⟨setObjW X.w b (.map es' clock'), X.G.set r (.map u clock' l'), X.ρ, X.S⟩ ∧ Step X ⟨setObjW X.w b (.map es' clock'), X.G.set r (.map u clock' l'), X.ρ, X.S⟩ := by
  have hblt : b < X.w.heap.size := (Array.getElem?_eq_some_iff.1 hg).1
  have hrg : ∀ s, (⟨setObjW X.w b (.map es' clock'), X.G.set r (.map u clock' l'), X.ρ, X.S⟩ : Rx).reg s = if s = r then .map u clock' l' else X.reg s := fun s => reg_set hr
  have hother : ∀ b', b' ≠ b → (setObjW X.w b (.map es' clock')).heap[b']? = X.w.heap[b']? := fun b' hne => by
    show (X.w.heap.setIfInBounds b _)[b']? = _
    rw [Array.getElem?_setIfInBounds_ne (Ne.symm hne)]
  have hself : (setObjW X.w b (.map es' clock')).heap[b]? = some (.map es' clock') := by
    show (X.w.heap.setIfInBounds b _)[b]? = _
    rw [Array.getElem?_setIfInBounds_self_of_lt hblt]
  refine mk_ok hX (fun s => s = r) (by show X.ρ.length = (X.G.set r _).length; rw [List.length_set]; exact hX.len) (by show X.G.length ≤ (X.G.set r _).length; simp) rfl rfl rfl rfl (by show _ ≤ (X.w.heap.setIfInBounds b _).size; simp) ?_ ?_ ?_ ?_ ?_ ?_ ?_
  · rintro s rfl
    exact ⟨hr, by rw [hreg0]; trivial, .inr ⟨by rw [hrg, if_pos rfl, hreg0]; rfl, rfl⟩⟩
  · intro s _ hne
    exact ⟨by rw [hrg, if_neg hne], rfl⟩
  · intro b' hb' hne
    exact hother b' (fun e => hne r rfl (e ▸ hb))
  · intro b'
    by_cases e : b' = b
    · subst e
      have : bsize X.w b' = 0 := by unfold bsize; rw [hg]
      omega
    · unfold bsize
      rw [hother b' e]
      exact Nat.le_refl _
  · intro s b' hs hb' hg'
    rcases hs with rfl | hs
    · exact .inr ⟨s, rfl, hb'⟩
    · rw [hrg] at hg'
      split at hg'
      · rename_i e; subst e; omega
      · exact absurd (by simp [Rx.reg, List.getElem?_eq_none hs]) hg'
  · intro s s' b' hne hs hs' _ _
    have far : ∀ s, (s = r ∨ X.G.length ≤ s) → s ≠ r → (⟨setObjW X.w b (.map es' clock'), X.G.set r (.map u clock' l'), X.ρ, X.S⟩ : Rx).reg s = .gone := by
      intro s hs hne
      rw [hrg, if_neg hne]
      exact by simp [Rx.reg, List.getElem?_eq_none (hs.resolve_left hne)]
    by_cases h : s = r
    · subst h; exact .inr (far s' hs' (Ne.symm hne))
    · exact .inl (far s hs h)
  · intro hE s hsl hs
    rcases hs with rfl | hs
    · unfold RegOk
      rw [hrg, if_pos rfl]
      exact hreg _ rfl hE hb hself
    · exact absurd hsl (by show ¬ s < (X.G.set r _).length; rw [List.length_set]; omega)
theorem mapUpdate_ok (hT : TabOk P T) {X : Rx} (hX : RInv P T X) {t kt e : Nat} (hd : find t T = some (.map kt e)) {vm vk vx : V} {m k x : Value} (hm : Rel P T X vm m) (hk : Rel P T X vk k) (hx : Rel P T X vx x) {K : V → List Reg → R β}
    (h : All PP (must (andB (keyI vk) (andB (T.fits kt vk) (T.fits e (escV T X.G vx)))) (match (generalizing := false) vm with
      | .mp r => (match (escG X.G vx).getD r .gone with
        | .map u n l => must (Nat.beq u t) (putK n vk (escV T X.G vx) l fun n l => K .undef ((escG X.G vx).set r (.map u n l)))
        | _ => .fail)
      | _ => .fail))) : ∃ Y, All PP (K .undef Y.G) ∧ RInv P T Y ∧ Step X Y ∧ (Instr.mapUpdate t m k x).run P X.w = .ok () Y.w := by
  obtain ⟨hc, h'⟩ := all_must.1 h
  clear h
  have h := h'
  clear h'
  have hc : keyI vk = true ∧ T.fits kt vk = true ∧ T.fits e (escV T X.G vx) = true := by simpa [andB] using hc
  obtain ⟨c1, c2, c3⟩ := hc
  obtain ⟨u, hu, hud⟩ := (hT _ _ hd).und
  cases u <;> simp only [Und] at hud
  obtain ⟨rfl, rfl⟩ := hud
  cases vm with
  | mp r =>
    simp only at h
    have hxx : aggOk vx x ∧ RelF P T X vx (cellsL x) := by
      rcases hx with rfl | hx
      · unfold Tab.fits escV at c3; simp [lend, fitV] at c3
      · exact hx
    obtain ⟨X1, i1, i2, i3, i4, i5, i6⟩ := esc_ok hT hX hxx.2
    rw [← i5] at h
    split at h
    · rename_i u clock l hg
      obtain ⟨hut, h'⟩ := all_must.1 h
      clear h
      have h := h'
      clear h'
      have hut := Nat.eq_of_beq_eq_true hut
      subst hut
      obtain ⟨b, rfl, hb, hlt, hM⟩ := map_at i1 (rel_mono i2.ext hm) hg
      obtain ⟨b', es, h1, h2, h3, hck, hst, hyes, hno⟩ := map_find hT hd hM c1 c2 (rel_mono i2.ext hk)
      rw [hb] at h1; cases h1
      have hlit : ∃ lit, keyOf P kt k = some lit := by
        exact (key_lit hT ((hT _ _ hd).size).2.2.2.2 c1 c2 hk).2
      have hrx : Rel P T X1 (escV T X.G vx) x := .inr ⟨aggOk_lend hxx.1, i6⟩
      have hrk : Rel P T X1 vk k := rel_mono i2.ext hk
      obtain ⟨kt', e', hd', b'', es'', g1, g2, g3, g4, g5⟩ := hM
      rw [hd] at hd'; cases hd'
      rw [hb] at g1; cases g1
      rw [h2] at g2; cases g2
      obtain ⟨c', l', hK, ⟨j, kv, hj, hs, hcc, rfl⟩ | ⟨hn, rfl, rfl⟩⟩ := putK_all h
      · rw [hcc] at hK
        obtain ⟨en, e1, hkey, hf⟩ := hyes j kv hj hs
        have hmod : ∀ i : Nat, (es.modify j fun e => { e with key := k, val := x })[i]? = if j = i then es[i]?.map (fun e => { e with key := k, val := x }) else es[i]? := fun i => Array.getElem?_modify
        obtain ⟨w1, w2⟩ := writeM_ok i1 (es' := es.modify j fun e => { e with key := k, val := x }) (clock' := clock) (l' := l.set j (kv.1, kv.2.1, escV T X.G vx)) hlt hg hb h2 (fun Y hY hE hYb hYh => by
          have hkeys : ∀ (i : Nat) (a : MapEntry), (es.modify j fun e => { e with key := k, val := x })[i]? = some a → ∃ a0, es[i]? = some a0 ∧ a0.key = a.key := by
            intro i a ha
            rw [hmod] at ha
            split at ha
            · rename_i e; subst e
              rw [e1] at ha
              cases ha
              exact ⟨en, e1, hkey⟩
            · exact ⟨a, ha, rfl⟩
          refine ⟨kt, e, hd, b, _, hYb, hYh, by simp [g3], fun i i' a a' ha ha' hka => ?_, fun i kv' hi => ?_⟩
          · obtain ⟨a0, p1, p2⟩ := hkeys i a ha
            obtain ⟨a1, p3, p4⟩ := hkeys i' a' ha'
            exact g4 i i' a0 a1 p1 p3 (by rw [p2, p4, hka])
          · rw [List.getElem?_set] at hi
            rw [hmod]
            split at hi
            · rename_i e; subst e
              have hjl : j < l.length := (List.getElem?_eq_some_iff.1 hj).1
              rw [if_pos hjl] at hi
              cases hi
              obtain ⟨f0, f1, f2, en', f3, f4, f5, f7, f6⟩ := g5 j kv hj
              rw [e1] at f3; cases f3
              refine ⟨f0, f1, c3, { en with key := k, val := x }, by rw [if_pos rfl, e1]; rfl, ?_, rel_mono hE hrx, f7, hlit⟩
              show Rel P T Y kv.2.1 k
              rw [← hkey]
              exact rel_mono hE f4
            · rename_i e
              obtain ⟨f0, f1, f2, en', f3, f4, f5, f7, f6⟩ := g5 i kv' hi
              exact ⟨f0, f1, f2, en', by rw [if_neg e]; exact f3, rel_mono hE f4, rel_mono hE f5, f7, f6⟩)
        refine ⟨_, hK, w1, i2.trans w2, ?_⟩
        have : (Instr.mapUpdate u (.map (some b)) k x).run P X1.w = .ok () (setObjW X1.w b (.map (es.modify j fun e => { e with key := k, val := x }) clock)) := by
          simp [Instr.mapUpdate, run_underlying hu, MapKept.run_getObj_map h2, hck, hf, e1, hkey, hst, MapKept.run_setObj_map _ h2, setObjW]
        rw [← i3]
        exact this
      · obtain ⟨hne, hf⟩ := hno hn
        obtain ⟨w1, w2⟩ := writeM_ok i1 (es' := es.push { key := k, val := x, born := clock }) (clock' := clock + 1) (l' := l ++ [(clock, vk, escV T X.G vx)]) hlt hg hb h2 (fun Y hY hE hYb hYh => by
          have hpush : ∀ i : Nat, (es.push { key := k, val := x, born := clock })[i]? = if i = es.size then some { key := k, val := x, born := clock } else es[i]? := fun i => Array.getElem?_push
          have hold : ∀ (i : Nat) (a : MapEntry), es[i]? = some a → a.key ≠ k := fun i a ha => hne a (by rw [← Array.getElem?_toList] at ha; exact List.mem_of_getElem? ha)
          refine ⟨kt, e, hd, b, _, hYb, hYh, by simp [g3], fun i i' a a' ha ha' hka => ?_, fun i kv' hi => ?_⟩
          · rw [hpush] at ha ha'
            split at ha
            · split at ha'
              · omega
              · cases ha
                exact absurd hka.symm (hold i' a' ha')
            · split at ha'
              · cases ha'
                exact absurd hka (hold i a ha)
              · exact g4 i i' a a' ha ha' hka
          · rw [hpush]
            rcases Nat.lt_or_ge i l.length with hil | hil
            · rw [List.getElem?_append_left hil] at hi
              obtain ⟨f0, f1, f2, en', f3, f4, f5, f7, f6⟩ := g5 i kv' hi
              exact ⟨f0, f1, f2, en', by rw [if_neg (by omega)]; exact f3, rel_mono hE f4, rel_mono hE f5, f7, f6⟩
            · rw [List.getElem?_append_right hil] at hi
              have hi0 : i = l.length := by
                have := (List.getElem?_eq_some_iff.1 hi).1
                simp at this
                omega
              subst hi0
              simp at hi
              subst hi
              exact ⟨c1, c2, c3, _, by rw [if_pos g3.symm], rel_mono hE hrk, rel_mono hE hrx, rfl, hlit⟩)
        refine ⟨_, hK, w1, i2.trans w2, ?_⟩
        have : (Instr.mapUpdate u (.map (some b)) k x).run P X1.w = .ok () (setObjW X1.w b (.map (es.push { key := k, val := x, born := clock }) (clock + 1))) := by
          simp [Instr.mapUpdate, run_underlying hu, MapKept.run_getObj_map h2, hck, hf, MapKept.run_setObj_map _ h2, setObjW]
        rw [← i3]
        exact this
    · exact (all_fail h).elim
  | _ => exact (all_fail h).elim
def drewX (X : Rx) : Rx := { X with w := { X.w with drawn := X.w.drawn + 1 } }
theorem drew_ext (X : Rx) : Ext X (drewX X) :=
  ⟨fun r hr => by
    by_cases hd : X.dead r
    · exact .inl hd
    · exact .inr ⟨hd, rfl, sameKind_refl fun h => hd ⟨hr, h⟩, fun _ _ => Nat.le_refl _⟩, fun b h => ⟨h, rfl⟩⟩
theorem drew_inv {X : Rx} (h : RInv P T X) : RInv P T (drewX X) := by
  refine ⟨h.len, fun r hr => ?_, h.inj, h.safe⟩
  have := h.reg r hr
  have hm : ∀ v cs, RelF P T X v cs → RelF P T (drewX X) v cs := fun v cs hv => relF_mono (drew_ext X) hv
  have hr' : ∀ e n f b, RowOk P T X r e n f b → RowOk P T (drewX X) r e n f b := by
    rintro e n f b ⟨h1, h2, h3⟩
    refine ⟨h1, h2, h3.imp id ?_⟩
    rintro ⟨b, cs, el, fz, cap, k1, k2, k3, k4, k5, k6, k7⟩
    exact ⟨b, cs, el, fz, cap, k1, k2, k3, k4, k5, k6, fun i hi => hm _ _ (k7 i hi)⟩
  have hreg : (drewX X).reg r = X.reg r := rfl
  unfold RegOk at this ⊢
  rw [hreg]
  cases hg : X.reg r <;> rw [hg] at this <;> simp only at this ⊢
  · obtain ⟨h1, h2, b, cs, el, k1, k2, k3, k4⟩ := this
    exact ⟨h1, h2, b, cs, el, k1, k2, k3, hm _ _ k4⟩
  · exact hr' _ _ _ _ this
  · exact hr' _ _ _ _ this
  · obtain ⟨k, e, hd, b, es, h1, h2, h3, hds, h4⟩ := this
    exact ⟨k, e, hd, b, es, h1, h2, h3, hds, fun i kv hi => by
      obtain ⟨f0, f1, f2, en, e1, e2, e3, e5, e4⟩ := h4 i kv hi
      exact ⟨f0, f1, f2, en, e1, rel_mono (drew_ext X) e2, rel_mono (drew_ext X) e3, e5, e4⟩⟩
  · obtain ⟨b, bm, seen, h1, h2, h3, h4⟩ := this
    exact ⟨b, bm, seen, h1, h2, h3, hm _ _ h4⟩
theorem drew_step (X : Rx) : Step X (drewX X) :=
  ⟨drew_ext X, rfl, rfl, rfl, Nat.le_refl _, Nat.le_refl _, fun _ _ _ => rfl, fun r _ h1 h2 => .inr ⟨r, h1, h2, fun h => h⟩, fun _ h => .inl h⟩


theorem memN_iff (r : Nat) : ∀ o : List Nat, memN r o = true ↔ r ∈ o
  | [] => by simp [memN]
  | s :: o => by
    simp only [memN]
    cases h : Nat.beq r s with
    | true => simp [Nat.eq_of_beq_eq_true h]
    | false =>
      have hne : r ≠ s := fun e => by rw [e, Nat.beq_refl] at h; cases h
      simp [memN_iff r o, hne]
theorem all_bool {K : Bool → R β} (h : All PP (.next isBoolV (fun v => match v with | .bool b => K b | _ => .fail) .fail)) (b : Bool) : All PP (K b) := h.1 (.bool b) rfl
theorem memN_rev {n : Nat} {s : List Nat} {seen : Array Nat} (h : seen.toList = s.reverse) : seen.contains n = memN n s := by
  rw [Bool.eq_iff_iff, memN_iff, ← Array.contains_toList, h]
  simp
theorem leftL_mem {since : Nat} {y : Bool} {s : List Nat} : ∀ {l : List (Nat × V × V)} {kv : Nat × V × V}, kv ∈ leftL since y s l ↔ kv ∈ l ∧ memN kv.1 s = false ∧ ltN kv.1 since = !y
  | [], kv => by simp [leftL]
  | (n, a, b) :: l, kv => by
    have ih := leftL_mem (since := since) (y := y) (s := s) (l := l) (kv := kv)
    unfold leftL
    cases hm : memN n s with
    | true =>
      simp only [ih, List.mem_cons]
      constructor
      · exact fun h => ⟨.inr h.1, h.2⟩
      · rintro ⟨rfl | h1, h2⟩
        · rw [hm] at h2; cases h2.1
        · exact ⟨h1, h2⟩
    | false =>
      cases he : eqB (ltN n since) y with
      | true =>
        have : ltN n since = y := by cases y <;> cases hh : ltN n since <;> simp_all [eqB]
        simp only [ih, List.mem_cons]
        constructor
        · exact fun h => ⟨.inr h.1, h.2⟩
        · rintro ⟨rfl | h1, h2⟩
          · simp only [this] at h2; cases y <;> simp at h2
          · exact ⟨h1, h2⟩
      | false =>
        have : ltN n since = !y := by cases y <;> cases hh : ltN n since <;> simp_all [eqB]
        simp only [List.mem_cons, ih]
        constructor
        · rintro (rfl | h)
          · exact ⟨.inl rfl, hm, this⟩
          · exact ⟨.inr h.1, h.2⟩
        · rintro ⟨rfl | h1, h2⟩
          · exact .inl rfl
          · exact .inr ⟨h1, h2⟩
theorem pickK_all {S : Nat → V → V → R β} {N : R β} : ∀ {l : List (Nat × V × V)}, All PP (pickK S N l) → ∀ kv : Nat × V × V, kv ∈ l → All PP (S kv.1 kv.2.1 kv.2.2)
  | [], _, kv, hkv => absurd hkv (by simp)
  | [(n, a, b)], h, kv, hkv => by
    simp at hkv
    subst hkv
    exact h
  | (n, a, b) :: y :: l, h, kv, hkv => by
    unfold pickK at h
    rcases List.mem_cons.1 hkv with rfl | hkv
    · exact h.1 (.bool true) rfl
    · exact pickK_all (l := y :: l) (h.1 (.bool false) rfl) kv hkv
theorem nextK_all {since : Nat} {s : List Nat} {l : List (Nat × V × V)} {S : Nat → V → V → R β} {N : R β} (h : All PP (nextK since s l S N)) :
    (∀ kv : Nat × V × V, kv ∈ l → memN kv.1 s = false → All PP (S kv.1 kv.2.1 kv.2.2)) ∧ ((∀ kv : Nat × V × V, kv ∈ l → memN kv.1 s = false → ltN kv.1 since = false) → All PP N) := by
  unfold nextK at h
  have hboth : ∀ kv : Nat × V × V, kv ∈ l → memN kv.1 s = false → kv ∈ leftL since false s l ++ leftL since true s l := by
    intro kv h1 h2
    rw [List.mem_append, leftL_mem, leftL_mem]
    cases hl : ltN kv.1 since <;> simp [h1, h2]
  split at h
  · rename_i x o hx
    rw [hx] at hboth
    refine ⟨fun kv h1 h2 => pickK_all h kv (hboth kv h1 h2), fun hno => ?_⟩
    have hm : x ∈ leftL since false s l := by rw [hx]; simp
    rw [leftL_mem] at hm
    have := hno x hm.1 hm.2.1
    rw [hm.2.2] at this
    cases this
  · rename_i hx
    rw [hx] at hboth
    split at h
    · rename_i hy
      rw [hy] at hboth
      exact ⟨fun kv h1 h2 => absurd (hboth kv h1 h2) (by simp), fun _ => h⟩
    · rename_i x o hy
      rw [hy] at hboth
      exact ⟨fun kv h1 h2 => pickK_all (h.1 (.bool false) rfl) kv (by simpa using hboth kv h1 h2), fun _ => h.1 (.bool true) rfl⟩
theorem delK_all {k : V} {l : List (Nat × V × V)} {K : List (Nat × V × V) → R β} (h : All PP (delK k l K)) : ∃ l', All PP (K l') ∧
    ((∃ (j : Nat) (kv : Nat × V × V), l[j]? = some kv ∧ same kv.2.1 k = true ∧ l' = l.eraseIdx j) ∨ ((∀ kv : Nat × V × V, kv ∈ l → same kv.2.1 k = false) ∧ l' = l)) := by
  refine ⟨_, h, ?_⟩
  cases hb : hasK k l with
  | true =>
    obtain ⟨j, kv, h1, h2, _, _, h5⟩ := hasK_at hb
    exact .inl ⟨j, kv, h1, h2, h5⟩
  | false => exact .inr ⟨hasK_no hb, delL_no hb⟩
theorem entryK_all {i : Nat} : ∀ {l : List (Nat × V × V)} {K : V → V → R β}, All PP (entryK i l K) → ∃ (j : Nat) (kv : Nat × V × V), l[j]? = some kv ∧ kv.1 = i ∧ (∀ (j' : Nat) (kv' : Nat × V × V), j' < j → l[j']? = some kv' → kv'.1 ≠ i) ∧ All PP (K kv.2.1 kv.2.2)
  | [], K, h => (all_fail h).elim
  | (n, a, b) :: l, K, h => by
    unfold entryK at h
    cases hs : Nat.beq n i with
    | true => rw [hs] at h; exact ⟨0, (n, a, b), rfl, Nat.eq_of_beq_eq_true hs, fun j' kv' hj => absurd hj (by omega), h⟩
    | false =>
      rw [hs] at h
      obtain ⟨j, kv, h1, h2, h3, h4⟩ := entryK_all (l := l) h
      refine ⟨j + 1, kv, by simpa using h1, h2, fun j' kv' hj hk => ?_, h4⟩
      cases j' with
      | zero => simp at hk; subst hk; exact fun e => by have e : n = i := e; rw [e, Nat.beq_refl] at hs; cases hs
      | succ j' => exact h3 j' kv' (by omega) (by simpa using hk)
theorem stepB_iff {last : Nat} : ∀ {l : List (Nat × V × V)}, stepB last l = true → ∃ kv : Nat × V × V, kv ∈ l ∧ kv.1 < last
  | [], h => by simp [stepB] at h
  | (n, a, b) :: l, h => by
    unfold stepB at h
    cases hn : ltN n last with
    | true => exact ⟨(n, a, b), by simp, by simpa [ltN] using hn⟩
    | false =>
      rw [hn] at h
      obtain ⟨kv, h1, h2⟩ := stepB_iff h
      exact ⟨kv, by simp [h1], h2⟩

/-- a block that holds no cells is written -/
theorem writeO_ok {X : Rx} (hX : RInv P T X) {r b : Nat} {g : Reg} {o o' : Obj} (hw : writable (X.reg r)) (hk : sameKind (X.reg r) g) (hb : X.blk r = some b)
    (hg : X.w.heap[b]? = some o) (ho : ∀ cs el fz, o ≠ .cells cs el fz)
    (hreg : ∀ Y : Rx, Y = ⟨setObjW X.w b o', X.G.set r g, X.ρ, X.S⟩ → Ext X Y → Y.blk r = some b → Y.w.heap[b]? = some o' → Y.reg r = g → RegOk P T Y r) :
    RInv P T ⟨setObjW X.w b o', X.G.set r g, X.ρ, X.S⟩ ∧ Step X ⟨setObjW X.w b o', X.G.set r g, X.ρ, X.S⟩ := by
  have hr : r < X.G.length := Rx.reg_lt (writable_live hw)
  have hblt : b < X.w.heap.size := (Array.getElem?_eq_some_iff.1 hg).1
  have hrg : ∀ s, (⟨setObjW X.w b o', X.G.set r g, X.ρ, X.S⟩ : Rx).reg s = if s = r then g else X.reg s := fun s => reg_set hr
  have hother : ∀ b', b' ≠ b → (setObjW X.w b o').heap[b']? = X.w.heap[b']? := fun b' hne => by
    show (X.w.heap.setIfInBounds b _)[b']? = _
    rw [Array.getElem?_setIfInBounds_ne (Ne.symm hne)]
  have hself : (setObjW X.w b o').heap[b]? = some o' := by
    show (X.w.heap.setIfInBounds b _)[b]? = _
    rw [Array.getElem?_setIfInBounds_self_of_lt hblt]
  refine mk_ok hX (fun s => s = r) (by show X.ρ.length = (X.G.set r _).length; rw [List.length_set]; exact hX.len) (by show X.G.length ≤ (X.G.set r _).length; simp) rfl rfl rfl rfl (by show _ ≤ (X.w.heap.setIfInBounds b _).size; simp) ?_ ?_ ?_ ?_ ?_ ?_ ?_
  · rintro s rfl
    exact ⟨hr, hw, .inr ⟨by rw [hrg, if_pos rfl]; exact hk, rfl⟩⟩
  · intro s _ hne
    exact ⟨by rw [hrg, if_neg hne], rfl⟩
  · intro b' hb' hne
    exact hother b' (fun e => hne r rfl (e ▸ hb))
  · intro b'
    by_cases e : b' = b
    · subst e
      have : bsize X.w b' = 0 := by
        unfold bsize
        rw [hg]
        cases o <;> first | rfl | exact absurd rfl (ho _ _ _)
      omega
    · unfold bsize
      rw [hother b' e]
      exact Nat.le_refl _
  · intro s b' hs hb' hg'
    rcases hs with rfl | hs
    · exact .inr ⟨s, rfl, hb'⟩
    · rw [hrg] at hg'
      split at hg'
      · rename_i e; subst e; omega
      · exact absurd (by simp [Rx.reg, List.getElem?_eq_none hs]) hg'
  · intro s s' b' hne hs hs' _ _
    have far : ∀ s, (s = r ∨ X.G.length ≤ s) → s ≠ r → (⟨setObjW X.w b o', X.G.set r g, X.ρ, X.S⟩ : Rx).reg s = .gone := by
      intro s hs hne
      rw [hrg, if_neg hne]
      exact by simp [Rx.reg, List.getElem?_eq_none (hs.resolve_left hne)]
    by_cases h : s = r
    · subst h; exact .inr (far s' hs' (Ne.symm hne))
    · exact .inl (far s hs h)
  · intro hE s hsl hs
    rcases hs with rfl | hs
    · exact hreg _ rfl hE hb hself (by rw [hrg, if_pos rfl])
    · exact absurd hsl (by show ¬ s < (X.G.set r _).length; rw [List.length_set]; omega)

theorem eraseIB {es : Array MapEntry} {j i : Nat} (hj : j < es.size) : (es.eraseIdxIfInBounds j)[i]? = if i < j then es[i]? else es[i + 1]? := by
  rw [Array.eraseIdxIfInBounds, dif_pos hj, Array.getElem?_eraseIdx]
/-- a key is taken out -/
theorem delete_ok (hT : TabOk P T) {X : Rx} (hX : RInv P T X) {t u' kt e : Nat} {ts : Array TypeId} (ht : ts[0]? = some t) (hd : find t T = some (.map kt e)) {vm vk : V} {m k : Value} (hm : Rel P T X vm m) (hk : Rel P T X vk k) {K : V → List Reg → R β}
    (h : All PP (must (andB (keyI vk) (T.fits kt vk)) (match (generalizing := false) vm with
      | .nilm => K .undef X.G
      | .mp r => (match X.G.getD r .gone with
        | .map u n l => must (Nat.beq u t) (delK vk l fun l => K .undef (X.G.set r (.map u n l)))
        | _ => .fail)
      | _ => .fail))) : YieldsE P T PP X K (Builtin.delete_ ts u' #[m, k]) := by
  obtain ⟨hc, h'⟩ := all_must.1 h
  clear h
  have h := h'
  clear h'
  have hc : keyI vk = true ∧ T.fits kt vk = true := by simpa [andB] using hc
  obtain ⟨c1, c2⟩ := hc
  obtain ⟨u, hu, hud⟩ := (hT _ _ hd).und
  cases u <;> simp only [Und] at hud
  obtain ⟨rfl, rfl⟩ := hud
  obtain ⟨_, ⟨dk, hdk⟩, ⟨de, hde⟩, hK, hkt⟩ := (hT _ _ hd).size
  cases vm with
  | nilm =>
    have hx := rel_nilm.1 hm
    subst hx
    simp only at h
    obtain ⟨_, lit, hlit⟩ := key_lit hT hkt c1 c2 hk
    have hck := fun w => hK.check w true hlit
    refine ⟨_, X, _, h, hX, Step.refl X, rel_undef.2 rfl, ?_⟩
    simp [Builtin.delete_, ht, run_underlying hu, hck]
  | mp r =>
    simp only at h
    split at h
    · rename_i u clock l hg
      obtain ⟨hut, h'⟩ := all_must.1 h
      clear h
      have h := h'
      clear h'
      have hut := Nat.eq_of_beq_eq_true hut
      subst hut
      obtain ⟨b, rfl, hb, hlt, hM⟩ := map_at hX hm hg
      obtain ⟨b', es, h1, h2, h3, hck, hst, hyes, hno⟩ := map_find hT hd hM c1 c2 hk
      rw [hb] at h1; cases h1
      obtain ⟨kt', e', hd', b'', es'', g1, g2, g3, g4, g5⟩ := hM
      rw [hd] at hd'; cases hd'
      rw [hb] at g1; cases g1
      rw [h2] at g2; cases g2
      obtain ⟨l', hKK, ⟨j, kv, hj, hs, rfl⟩ | ⟨hn, rfl⟩⟩ := delK_all h
      · obtain ⟨en, e1, hkey, hf⟩ := hyes j kv hj hs
        have hjs : j < es.size := (Array.getElem?_eq_some_iff.1 e1).1
        obtain ⟨w1, w2⟩ := writeM_ok hX (es' := es.eraseIdxIfInBounds j) (clock' := clock) (l' := l.eraseIdx j) hlt hg hb h2 (fun Y hY hE hYb hYh => by
          refine ⟨kt, e, hd, b, _, hYb, hYh, ?_, fun i i' a a' ha ha' hka => ?_, fun i kv' hi => ?_⟩
          · rw [Array.eraseIdxIfInBounds, dif_pos hjs, Array.size_eraseIdx, List.length_eraseIdx, if_pos (by omega), g3]
          · rw [eraseIB hjs] at ha ha'
            split at ha <;> split at ha'
            · exact g4 _ _ _ _ ha ha' hka
            · have := g4 _ _ _ _ ha ha' hka; omega
            · have := g4 _ _ _ _ ha ha' hka; omega
            · have := g4 _ _ _ _ ha ha' hka; omega
          · rw [List.getElem?_eraseIdx] at hi
            rw [eraseIB hjs]
            split at hi
            · rename_i hij
              obtain ⟨f0, f1, f2, en', f3, f4, f5, f7, f6⟩ := g5 i kv' hi
              exact ⟨f0, f1, f2, en', by rw [if_pos hij]; exact f3, rel_mono hE f4, rel_mono hE f5, f7, f6⟩
            · rename_i hij
              obtain ⟨f0, f1, f2, en', f3, f4, f5, f7, f6⟩ := g5 (i + 1) kv' hi
              exact ⟨f0, f1, f2, en', by rw [if_neg hij]; exact f3, rel_mono hE f4, rel_mono hE f5, f7, f6⟩)
        refine ⟨_, _, _, hKK, w1, w2, rel_undef.2 rfl, ?_⟩
        simp [Builtin.delete_, ht, run_underlying hu, MapKept.run_getObj_map h2, hck, hf, MapKept.run_setObj_map _ h2, setObjW]
      · obtain ⟨_, hf⟩ := hno hn
        obtain ⟨w1, w2⟩ := writeM_ok hX (es' := es) (clock' := clock) (l' := l') hlt hg hb h2 (fun Y hY hE hYb hYh => by
          refine ⟨kt, e, hd, b, _, hYb, hYh, g3, g4, fun i kv' hi => ?_⟩
          obtain ⟨f0, f1, f2, en', f3, f4, f5, f7, f6⟩ := g5 i kv' hi
          exact ⟨f0, f1, f2, en', f3, rel_mono hE f4, rel_mono hE f5, f7, f6⟩)
        refine ⟨_, _, _, hKK, w1, w2, rel_undef.2 rfl, ?_⟩
        simp [Builtin.delete_, ht, run_underlying hu, MapKept.run_getObj_map h2, hck, hf, MapKept.run_setObj_map _ h2, setObjW]
    · exact (all_fail h).elim
  | _ => exact (all_fail h).elim

/-- a range begins -/
theorem range_ok (hT : TabOk P T) {X : Rx} (hX : RInv P T X) {t kt e : Nat} (hd : find t T = some (.map kt e)) {vx : V} {x : Value} (hx : Rel P T X vx x) {K : V → List Reg → R β}
    (h : All PP (match (generalizing := false) vx with
      | .nilm => K (.it X.G.length) (X.G ++ [.iter .nilm 0 0 []])
      | .mp r => (match X.G.getD r .gone with
        | .map u n _ => must (Nat.beq u t) (K (.it X.G.length) (X.G ++ [.iter (.mp r) n n []]))
        | _ => .fail)
      | _ => .fail)) : YieldsE P T PP X K (Instr.range t x) := by
  obtain ⟨u, hu, hud⟩ := (hT _ _ hd).und
  cases u <;> simp only [Und] at hud
  have new : ∀ (m : V) (bm : Option Nat) (n : Nat), RelF P T X m [.map bm] → All PP (K (.it X.G.length) (X.G ++ [.iter m n n []])) → (Instr.range t x).run P X.w = .ok (.pointer (some ⟨X.w.heap.size, 0, none⟩)) (X.w.alloc (.mapIter bm n #[] n)) → YieldsE P T PP X K (Instr.range t x) := by
    intro m bm n hrel hK hrun
    obtain ⟨h1, h2⟩ := alloc_ok (P := P) (T := T) hX (ro := none) (g := .iter m n n []) (w' := X.w.alloc (.mapIter bm n #[] n)) (o := .mapIter bm n #[] n) (by simp) rfl rfl rfl rfl
      (fun Y hY hE hb hh hr => by
        unfold RegOk
        rw [hr]
        exact ⟨_, bm, #[], hb, hh, rfl, relF_mono hE hrel⟩)
    refine ⟨_, _, _, hK, h1, h2, rel_it.2 ⟨_, rfl, .inr ⟨_, ?_, ?_, rfl⟩⟩, hrun⟩
    · show (X.ρ ++ [some X.w.heap.size]).getD X.G.length none = _
      rw [blk_snoc hX, if_pos rfl]
    · rw [reg_new]; trivial
  cases vx with
  | nilm =>
    have hx := rel_nilm.1 hx
    subst hx
    exact new .nilm none 0 (by simp [RelF]) h (run_range_nilMap X.w t _ _ hu)
  | mp r =>
    simp only at h
    split at h
    · rename_i u clock l hg
      obtain ⟨hut, h'⟩ := all_must.1 h
      clear h
      have h := h'
      clear h'
      have hut := Nat.eq_of_beq_eq_true hut
      subst hut
      obtain ⟨b, rfl, hb, hlt, hM⟩ := map_at hX hx hg
      obtain ⟨kt', e', hd', b'', es, g1, g2, g3, g4, g5⟩ := hM
      rw [hb] at g1; cases g1
      refine new (.mp r) (some b) clock ?_ h (run_range_map X.w u _ _ b es clock hu g2)
      rcases hx with hx | hx
      · cases hx
      · simpa [cellsL] using hx.2
    · exact (all_fail h).elim
  | _ => exact (all_fail h).elim

/-- an iterator's region, at a value that names it -/
theorem iter_at {X : Rx} (hX : RInv P T X) {r a c : Nat} {m : V} {s : List Nat} {x : Value} (hr : Rel P T X (.it r) x) (hg : X.G.getD r .gone = .iter m a c s) : ∃ b, x = .pointer (some ⟨b, 0, none⟩) ∧ X.blk r = some b ∧ r < X.G.length ∧ IterOk P T X r m a c s := by
  obtain ⟨x', rfl, h⟩ := rel_it.1 hr
  have hreg : X.reg r = .iter m a c s := hg
  have hlt : r < X.G.length := iterLike_lt (by rw [hreg]; trivial)
  rcases h with ⟨_, h⟩ | ⟨b, h, _, rfl⟩
  · rw [hreg] at h; cases h
  · have := hX.reg r hlt
    unfold RegOk at this
    rw [hreg] at this
    exact ⟨b, rfl, h, hlt, this⟩
theorem pick_ok {α : Type} {L : List α} (w : World) (hne : L.length ≠ 0) : ∃ (j : Nat) (w1 : World), j < L.length ∧ (w1 = w ∨ w1 = w.drew) ∧ (choose (Question.mapNext L.length)).run P w = .ok j w1 := by
  by_cases hf : L.length ≤ 1
  · exact ⟨0, w, by omega, Or.inl rfl, by simp [choose, Sem.run, Question.forced, hf]⟩
  · exact ⟨_, w.drew, Nat.mod_lt _ (by omega), Or.inr rfl, by
      simp only [choose, Sem.run, Question.forced, decide_eq_true_eq, hf, if_false, Question.cut]
      rfl⟩
theorem run_setIter {w : World} {b : Nat} {m : Option Nat} {s : Nat} {seen : Array Nat} {c : Nat} (hr : w.heap[b]? = some (.mapIter m s seen c)) (o' : Obj) : (setObj b o').run P w = .ok () (setObjW w b o') := by
  simp [setObj, Sem.run, hr, setObjW]
/-- a range's next step -/
theorem mapNext_ok (_ : TabOk P T) {X : Rx} (hX : RInv P T X) {vx : V} {x : Value} {ty : Nat} (hx : Rel P T X vx x) {K : V → List Reg → R β}
    (h : All PP (match (generalizing := false) vx with
      | .it r => (match X.G.getD r .gone with
        | .iter m since last seen => (match m with
          | .nilm => K (.tup [.bool false]) X.G
          | .mp q => (match X.G.getD q .gone with
            | .map t n l => (match find t T with
              | some (.map kt e) => must (goesOn last seen l) (nextK since seen l (fun i a b => K (.tup [.bool true, T.eta kt a, T.eta e b]) (X.G.set r (.iter m since n (i :: seen)))) (K (.tup [.bool false]) X.G))
              | _ => .fail)
            | _ => .fail)
          | _ => .fail)
        | _ => .fail)
      | _ => .fail)) : YieldsE P T PP X K (Instr.next x false ty) := by
  have hover : ∀ X : Rx, Rel P T X (.tup [.bool false]) (.tuple #[.bool false]) := fun X => rel_tup.2 ⟨#[.bool false], rfl, relVs_cons.2 ⟨.bool false, _, rfl, rel_bool.2 rfl, relVs_nil.2 rfl⟩⟩
  split at h
  · rename_i r
    split at h
    · rename_i m since last s hg
      obtain ⟨b, rfl, hb, hlt, b', bm, seen, h1, h2, h3, h4⟩ := iter_at hX hx hg
      rw [hb] at h1; cases h1
      split at h
      · -- a nil map
        have hbm : bm = none := by simpa [RelF] using h4
        subst hbm
        refine ⟨_, X, _, h, hX, Step.refl X, hover X, ?_⟩
        simp only [Instr.next, getObj, Sem.run_bind, Sem.run, h2, Result.andThen]
        rfl
      · rename_i q
        split at h
        · rename_i t n l hgq
          split at h
          · rename_i kt e hd
            obtain ⟨hgo, h'⟩ := all_must.1 h
            clear h
            obtain ⟨hS, hN⟩ := nextK_all h'
            clear h'
            obtain ⟨bq, hbq, hbqb, hltq, hM⟩ := map_at (x := .map bm) hX (.inr ⟨fun cs => by simp, by simpa [cellsL] using h4⟩) hgq
            cases hbq
            obtain ⟨kt', e', hd', b'', es, g1, g2, g3, g4, g5⟩ := hM
            rw [hd] at hd'; cases hd'
            rw [hbqb] at g1; cases g1
            have hent : ∀ en : MapEntry, en ∈ es.toList → ∃ kv : Nat × V × V, kv ∈ l ∧ en.born = kv.1 ∧ T.fits kt kv.2.1 = true ∧ T.fits e kv.2.2 = true ∧ Rel P T X kv.2.1 en.key ∧ Rel P T X kv.2.2 en.val := by
              intro en hen
              obtain ⟨i, hi⟩ := List.getElem?_of_mem hen
              have hi' : i < l.length := by
                have := (List.getElem?_eq_some_iff.1 hi).1
                rw [Array.length_toList, g3] at this
                exact this
              obtain ⟨_, f1, f2, en', e1, e2, e3, e4, _⟩ := g5 i l[i] (List.getElem?_eq_getElem hi')
              rw [← Array.getElem?_toList, hi] at e1
              cases e1
              exact ⟨l[i], List.getElem_mem hi', e4, f1, f2, e2, e3⟩
            have hent' : ∀ kv : Nat × V × V, kv ∈ l → ∃ en : MapEntry, en ∈ es.toList ∧ en.born = kv.1 := by
              intro kv hkv
              obtain ⟨i, hi⟩ := List.getElem?_of_mem hkv
              obtain ⟨_, _, _, en', e1, _, _, e4, _⟩ := g5 i kv hi
              rw [← Array.getElem?_toList] at e1
              exact ⟨en', List.mem_of_getElem? e1, e4⟩
            have htest : (!seen.isEmpty && !es.isEmpty && es.all (fun x => decide (x.born ≥ last))) = false := by
              unfold goesOn at hgo
              split at hgo
              · have : seen = #[] := by rw [← Array.toList_inj]; simpa using h3
                simp [this]
              · have : es = #[] := Array.eq_empty_of_size_eq_zero (by rw [g3]; rfl)
                simp [this]
              · obtain ⟨kv, hkv, hlt⟩ := stepB_iff hgo
                obtain ⟨en, hen, hborn⟩ := hent' kv hkv
                have : es.all (fun x => decide (x.born ≥ last)) = false := by
                  rw [Bool.eq_false_iff]
                  intro hh
                  rw [Array.all_eq_true_iff_forall_mem] at hh
                  have := hh en (by simpa using hen)
                  simp at this
                  omega
                rw [this, Bool.and_false]
            have hcont : ∀ en : MapEntry, seen.contains en.born = memN en.born s := fun en => memN_rev h3
            -- the candidates
            have hcand : ∀ C : Array (Option MapEntry), C = (if ((es.filter fun e => !seen.contains e.born).filter (fun x => decide (x.born < since))).isEmpty then #[none] else #[]) ++ (((es.filter fun e => !seen.contains e.born).filter (fun x => decide (x.born < since))) ++ ((es.filter fun e => !seen.contains e.born).filter (fun x => decide (x.born ≥ since)))).map some →
                C.toList.length ≠ 0 ∧ (∀ en, some en ∈ C.toList → en ∈ es.toList ∧ memN en.born s = false) ∧ (none ∈ C.toList → ∀ kv : Nat × V × V, kv ∈ l → memN kv.1 s = false → ltN kv.1 since = false) := by
              rintro C rfl
              refine ⟨?_, fun en hen => ?_, fun hno kv hkv hm => ?_⟩
              · cases he : ((es.filter fun e => !seen.contains e.born).filter (fun x => decide (x.born < since))).isEmpty with
                | true => simp
                | false =>
                  have : ((es.filter fun e => !seen.contains e.born).filter (fun x => decide (x.born < since))).size ≠ 0 := by
                    intro h0
                    rw [Array.eq_empty_of_size_eq_zero h0] at he
                    simp at he
                  simp only [Bool.false_eq_true, if_false, Array.empty_append, Array.length_toList, Array.size_map, Array.size_append]
                  omega
              · have hen' : en ∈ ((es.filter fun e => !seen.contains e.born).filter (fun x => decide (x.born < since))) ++ ((es.filter fun e => !seen.contains e.born).filter (fun x => decide (x.born ≥ since))) := by
                  have : some en ∈ (if ((es.filter fun e => !seen.contains e.born).filter (fun x => decide (x.born < since))).isEmpty then #[none] else #[]) ++ (((es.filter fun e => !seen.contains e.born).filter (fun x => decide (x.born < since))) ++ ((es.filter fun e => !seen.contains e.born).filter (fun x => decide (x.born ≥ since)))).map some := by simpa using hen
                  rw [Array.mem_append] at this
                  rcases this with h | h
                  · split at h <;> simp at h
                  · simpa using h
                simp only [Array.mem_append, Array.mem_filter] at hen'
                have : en ∈ es ∧ (!seen.contains en.born) = true := by rcases hen' with h | h <;> exact h.1
                exact ⟨by simpa using this.1, by rw [← hcont]; simpa using this.2⟩
              · obtain ⟨en, hen, hborn⟩ := hent' kv hkv
                have hem : ((es.filter fun e => !seen.contains e.born).filter (fun x => decide (x.born < since))).isEmpty = true := by
                  cases he : ((es.filter fun e => !seen.contains e.born).filter (fun x => decide (x.born < since))).isEmpty with
                  | true => rfl
                  | false => rw [he] at hno; simp at hno
                have hem : (es.filter fun e => !seen.contains e.born).filter (fun x => decide (x.born < since)) = #[] := by simpa using hem
                cases hl : ltN kv.1 since with
                | false => rfl
                | true =>
                  have : en ∈ (es.filter fun e => !seen.contains e.born).filter (fun x => decide (x.born < since)) := by
                    rw [Array.mem_filter, Array.mem_filter]
                    refine ⟨⟨by simpa using hen, ?_⟩, ?_⟩
                    · rw [hcont, hborn, hm]; rfl
                    · rw [hborn]; simpa [ltN] using hl
                  rw [hem] at this
                  simp at this
            generalize hC : (if ((es.filter fun e => !seen.contains e.born).filter (fun x => decide (x.born < since))).isEmpty then #[none] else #[]) ++ (((es.filter fun e => !seen.contains e.born).filter (fun x => decide (x.born < since))) ++ ((es.filter fun e => !seen.contains e.born).filter (fun x => decide (x.born ≥ since)))).map some = C at hcand
            obtain ⟨hne, hsome, hnone⟩ := hcand C rfl
            obtain ⟨j, w1, hj, hw1, hrun⟩ := pick_ok (P := P) X.w hne
            have hrun : (choose (Question.mapNext C.size)).run P X.w = .ok j w1 := by simpa using hrun
            have hX1 : ∃ X1 : Rx, X1.w = w1 ∧ X1.G = X.G ∧ X1.ρ = X.ρ ∧ X1.S = X.S ∧ RInv P T X1 ∧ Step X X1 ∧ w1.heap = X.w.heap := by
              rcases hw1 with rfl | rfl
              · exact ⟨X, rfl, rfl, rfl, rfl, hX, Step.refl X, rfl⟩
              · exact ⟨drewX X, rfl, rfl, rfl, rfl, drew_inv hX, drew_step X, rfl⟩
            obtain ⟨X1, x1, x2, x3, x4, i1, i2, i3⟩ := hX1
            have hj' : C[j]? = some C.toList[j] := by rw [← Array.getElem?_toList]; exact List.getElem?_eq_getElem hj
            cases hcj : C.toList[j] with
            | none =>
              have hmem : none ∈ C.toList := by rw [← hcj]; exact List.getElem_mem hj
              refine ⟨_, X1, _, by rw [x2]; exact hN (hnone hmem), i1, i2, hover X1, ?_⟩
              simp only [Instr.next, getObj, Sem.run_bind, Sem.run, h2, g2, Result.andThen, htest, Bool.false_eq_true, if_false, hC]
              simp only [hrun, hj', hcj, x1]
              rfl
            | some en =>
              have hmem : some en ∈ C.toList := by rw [← hcj]; exact List.getElem_mem hj
              obtain ⟨q1, q2⟩ := hsome en hmem
              obtain ⟨kv, k1, k2, k3, k4, k5, k6⟩ := hent en q1
              have hreg : X1.reg r = .iter (.mp q) since last s := by unfold Rx.reg; rw [x2]; exact hg
              have hblk : X1.blk r = some b := by unfold Rx.blk; rw [x3]; exact hb
              have hh : X1.w.heap[b]? = some (.mapIter (some bq) since seen last) := by rw [x1, i3]; exact h2
              obtain ⟨y1, y2⟩ := writeO_ok i1 (r := r) (g := .iter (.mp q) since n (kv.1 :: s)) (o' := .mapIter (some bq) since (seen.push en.born) n) (by rw [hreg]; trivial) (by rw [hreg]; trivial) hblk hh (by simp) (fun Y hY hE hYb hYh hYr => by
                unfold RegOk
                rw [hYr]
                exact ⟨b, some bq, _, hYb, hYh, by simp [h3, k2], relF_mono hE (relF_mono i2.ext h4)⟩)
              refine ⟨_, _, _, ?_, y1, i2.trans y2, rel_tup.2 ⟨#[.bool true, en.key, en.val], rfl, relVs_cons.2 ⟨.bool true, _, rfl, rel_bool.2 rfl, relVs_cons.2 ⟨en.key, _, rfl, rel_mono y2.ext (rel_mono i2.ext (eta_val k3 k5)), relVs_cons.2 ⟨en.val, _, rfl, rel_mono y2.ext (rel_mono i2.ext (eta_val k4 k6)), relVs_nil.2 rfl⟩⟩⟩⟩, ?_⟩
              · have := hS kv k1 (by rw [← k2]; exact q2)
                rw [← x2] at this
                exact this
              · simp only [Instr.next, getObj, Sem.run_bind, Sem.run, h2, g2, Result.andThen, htest, Bool.false_eq_true, if_false, hC]
                rw [x1] at hh
                simp only [hrun, hj', hcj, Sem.run_bind, run_setIter hh, Result.andThen, x1]
                rfl
          · exact (all_fail h).elim
        · exact (all_fail h).elim
      · exact (all_fail h).elim
    · exact (all_fail h).elim
  · exact (all_fail h).elim
/-- the round's entry, read again -/
theorem entry_ok (_ : TabOk P T) {X : Rx} (hX : RInv P T X) {vx : V} {x : Value} (hx : Rel P T X vx x) {K : V → List Reg → R β}
    (h : All PP (match (generalizing := false) vx with
      | .it r => (match X.G.getD r .gone with
        | .iter m _ last seen => (match m with
          | .mp q => (match X.G.getD q .gone with
            | .map t n l => (match find t T with
              | some (.map kt e) => must (Nat.beq n last) (match seen with
                | [] => .fail
                | i :: _ => entryK i l fun a b => K (.tup [T.eta kt a, T.eta e b]) X.G)
              | _ => .fail)
            | _ => .fail)
          | _ => .fail)
        | _ => .fail)
      | _ => .fail)) : YieldsE P T PP X K (Instr.entry x) := by
  split at h
  · rename_i r
    split at h
    · rename_i m since last s hg
      obtain ⟨b, rfl, hb, hlt, b', bm, seen, h1, h2, h3, h4⟩ := iter_at hX hx hg
      rw [hb] at h1; cases h1
      split at h
      · rename_i q
        split at h
        · rename_i t n l hgq
          split at h
          · rename_i kt e hd
            obtain ⟨hgo, h'⟩ := all_must.1 h
            clear h
            have hgo := Nat.eq_of_beq_eq_true hgo
            subst hgo
            split at h'
            · exact (all_fail h').elim
            · rename_i i s'
              obtain ⟨bq, hbq, hbqb, hltq, hM⟩ := map_at (x := .map bm) hX (.inr ⟨fun cs => by simp, by simpa [cellsL] using h4⟩) hgq
              cases hbq
              obtain ⟨kt', e', hd', b'', es, g1, g2, g3, g4, g5⟩ := hM
              rw [hd] at hd'; cases hd'
              rw [hbqb] at g1; cases g1
              obtain ⟨j, kv, k1, k2, k3, k4⟩ := entryK_all h'
              obtain ⟨_, f1, f2, en, e1, e2, e3, e4, _⟩ := g5 j kv k1
              have hback : seen.back? = some i := by
                rw [← Array.getLast?_toList, h3]
                simp
              have hfind : es.find? (fun x => x.born == i) = some en := by
                rw [Array.find?_eq_some_iff_getElem]
                obtain ⟨hjl, hje⟩ := Array.getElem?_eq_some_iff.1 e1
                refine ⟨by simp [e4, k2], j, hjl, hje, fun j' hj' => ?_⟩
                have hj'l : j' < l.length := by omega
                obtain ⟨_, _, _, en', e1', _, _, e4', _⟩ := g5 j' l[j'] (List.getElem?_eq_getElem hj'l)
                have := k3 j' l[j'] hj' (List.getElem?_eq_getElem hj'l)
                obtain ⟨_, hje'⟩ := Array.getElem?_eq_some_iff.1 e1'
                rw [hje']
                simp [e4', this]
              refine ⟨_, X, _, k4, hX, Step.refl X, rel_tup.2 ⟨#[en.key, en.val], rfl, relVs_cons.2 ⟨en.key, _, rfl, eta_val f1 e2, relVs_cons.2 ⟨en.val, _, rfl, eta_val f2 e3, relVs_nil.2 rfl⟩⟩⟩, ?_⟩
              simp only [Instr.entry, getObj, Sem.run_bind, Sem.run, h2, g2, Result.andThen, hback, bne_self_eq_false, Bool.false_eq_true, if_false, hfind]
              rfl
          · exact (all_fail h).elim
        · exact (all_fail h).elim
      · exact (all_fail h).elim
    · exact (all_fail h).elim
  · exact (all_fail h).elim
end
end Go.VM

namespace Go.VM
section
variable {P : Program} {T : Tab} {β : Type} {PP : β → Prop}

theorem zero_cells_get {z : Array Value} {k n i : Nat} (hz : z.size = k) (hi : i < n) : (((Builtin.zeroCells z n).toList.drop (i * k)).take k) = z.toList := by
  have : Builtin.zeroCells z n = madeCells z (n * k) := by simp [Builtin.zeroCells, madeCells, hz]
  rw [this]
  exact made_get hz hi

theorem clear_ok (hT : TabOk P T) {X : Rx} (hX : RInv P T X) {t ty : Nat} {vs : V} {s : Value} {K : V → List Reg → R β} (hs : Rel P T X vs s)
    (h : All PP (match (generalizing := false) vs, find t T with
      | .sub r off n, some (.slice e) => match X.G.getD r .gone with
        | .row e' k f => must (Nat.beq e e') (must (T.fits e (T.zero e)) (K .undef (X.G.set r (.row e k fun i => match andB (leN off i) (ltN i (addN off n)) with | true => T.zero e | false => f i))))
        | _ => .fail
      | .nils, _ => K .undef X.G
      | _, _ => .fail)) (hu0 : ∃ d, P.underlying t = some d) : YieldsE P T PP X K (Builtin.clear_ #[t] ty #[s]) := by
  split at h
  · rename_i r off n e ht
    obtain ⟨u, hu, hud⟩ := (hT t _ ht).und
    cases u <;> simp only [Und] at hud
    subst hud
    obtain ⟨_, ⟨de, hde⟩, hby, _⟩ := (hT t _ ht).size
    cases hg : X.G.getD r .gone with
    | row e' k f =>
      simp only [hg] at h
      obtain ⟨he, h1⟩ := all_must.1 h
      obtain ⟨hzf, hfin⟩ := all_must.1 h1
      clear h h1
      have he := Nat.eq_of_beq_eq_true he
      subst he
      have hreg : X.reg r = .row e k f := hg
      have hlt := Rx.reg_lt (X := X) (r := r) (by rw [hreg]; simp)
      have hok := hX.reg r hlt
      unfold RegOk at hok
      rw [hreg] at hok
      obtain ⟨base, cap, rfl, hnc, hsome, hs⟩ := rel_sub.1 hs
      obtain ⟨_, hfit, hrow⟩ := hok
      obtain ⟨i, z, hi, hz, hzs, his, hzr, _⟩ := zero_rel hT X hde
      have hcond : ∀ i, (andB (leN off i) (ltN i (addN off n))) = decide (off ≤ i ∧ i < off + n) := fun i => by
        rw [Bool.eq_iff_iff]
        constructor
        · intro h
          have h : leN off i = true ∧ ltN i (addN off n) = true := by simpa [andB] using h
          exact decide_eq_true ⟨of_decide_eq_true h.1, of_decide_eq_true h.2⟩
        · intro h
          have h := of_decide_eq_true h
          have h1 : leN off i = true := decide_eq_true h.1
          have h2 : ltN i (addN off n) = true := decide_eq_true h.2
          rw [h1, h2]; rfl
      have hsub : off + n ≤ k ∧ match X.blk r with
          | none => base = none ∧ cap = 0
          | some b => (0 < cap → base = some ⟨b, off * sz P e, none⟩) ∧ (off + cap) * sz P e ≤ bsize X.w b := by
        rcases hs with hd | ⟨e', k', hl, hle, hb⟩
        · exact absurd hd.2 (by rw [hreg]; simp)
        · rw [hreg] at hl
          obtain ⟨rfl, rfl⟩ := hl
          exact ⟨hle, hb⟩
      obtain ⟨hnk, hsub⟩ := hsub
      rcases Nat.eq_zero_or_pos n with rfl | hn0
      · -- nothing to clear
        have hrun : (Builtin.clear_ #[t] ty #[.slice base 0 cap]).run P X.w = .ok (.tuple #[]) X.w := by
          cases base <;> simp [Builtin.clear_, run_underlying hu]
        have hf : (fun i => match andB (leN off i) (ltN i (addN off 0)) with | true => T.zero e | false => f i) = f := by
          funext i
          rw [hcond]
          have : ¬ (off ≤ i ∧ i < off + 0) := by omega
          simp only [decide_eq_false this]
        rw [hf] at hfin
        have hset : X.G.set r (.row e k f) = X.G := by
          apply List.ext_getElem?
          intro j
          rw [List.getElem?_set]
          split
          · rename_i e; subst e
            have : X.G[r]? = some (.row e k f) := by
              rw [List.getElem?_eq_getElem hlt]
              rw [List.getD_eq_getElem?_getD, List.getElem?_eq_getElem hlt] at hg
              simpa using hg
            first | exact this.symm | (rw [if_pos hlt]; exact this.symm)
          · rfl
        rw [hset] at hfin
        exact ⟨_, X, _, hfin, hX, Step.refl X, rel_undef.2 rfl, hrun⟩
      · rcases hrow with ⟨k1, k2⟩ | ⟨b, cs, el, fz, cap', k1, k2, k3, k4, k5, k6, k7⟩
        · omega
        · simp only [k1] at hsub
          obtain ⟨rfl, rfl⟩ := k3 rfl
          have hbase := hsub.1 (by omega)
          subst hbase
          have hbs : bsize X.w b = cs.size := by simp [bsize, k2]
          have hlen : (Builtin.zeroCells z.cells n).toList.length = n * sz P el := by simp [size_zeroCells, hzs]
          have hb1 : off * sz P el + n * sz P el ≤ cs.size := by
            rw [← Nat.add_mul, k5]; exact Nat.mul_le_mul_right _ (by omega)
          have hone : ∀ u ∈ (Builtin.zeroCells z.cells n).toList, u.oneCell' = true := by
            intro u hu'
            have hzone := relF_one (fits_shape hzf) hzr
            obtain ⟨j, hj, hju⟩ := List.getElem_of_mem hu'
            have hpos := (hT _ _ hde).pos
            have : u ∈ z.cells.toList := by
              have e1 := zero_cells_get (n := n) (i := j / sz P el) hzs ((Nat.div_lt_iff_lt_mul hpos).2 (by omega))
              have e2 : ((Builtin.zeroCells z.cells n).toList.drop (j / sz P el * sz P el)).take (sz P el) = z.cells.toList := e1
              have e3 : (((Builtin.zeroCells z.cells n).toList.drop (j / sz P el * sz P el)).take (sz P el))[j % sz P el]? = some u := by
                rw [blk_get, if_pos (Nat.mod_lt j hpos)]
                have := Nat.div_add_mod j (sz P el)
                rw [Nat.mul_comm] at this
                rw [this, List.getElem?_eq_getElem hj, hju]
              rw [e2] at e3
              exact List.mem_of_getElem? e3
            exact hzone u this
          have hst := run_storeCells_at P b (off * sz P el) el (Builtin.zeroCells z.cells n).toList 0 cs X.w k2 (by omega) hone
          simp only [Nat.add_zero] at hst
          have hrun : (Builtin.clear_ #[t] ty #[.slice (some ⟨b, off * sz P el, none⟩) n cap]).run P X.w = .ok (.tuple #[]) (X.w.setRow b (cs.toList.take (off * sz P el) ++ (Builtin.zeroCells z.cells n).toList ++ cs.toList.drop (off * sz P el + (Builtin.zeroCells z.cells n).toList.length)).toArray) := by
            obtain ⟨n', rfl⟩ : ∃ n', n = n' + 1 := ⟨n - 1, by omega⟩
            simp [Builtin.clear_, run_underlying hu, zeroValue, run_typeInfo hi, hz]
            simp at hst
            simp [hst]
          have hbound : off * sz P el + (Builtin.zeroCells z.cells n).toList.length ≤ cs.toList.length := by rw [hlen]; simpa using hb1
          obtain ⟨m1, m2⟩ := write_ok (P := P) (T := T) hX (g' := .row el k fun i => match andB (leN off i) (ltN i (addN off n)) with | true => T.zero el | false => f i)
            (new := (cs.toList.take (off * sz P el) ++ (Builtin.zeroCells z.cells n).toList ++ cs.toList.drop (off * sz P el + (Builtin.zeroCells z.cells n).toList.length)).toArray) hlt (by rw [hreg]; trivial) (by rw [hreg]; exact ⟨rfl, rfl⟩) k1 k2 (by
              rw [Array.length_toList] at hbound
              simp only [List.size_toArray, List.length_append, List.length_take, List.length_drop, Array.length_toList] at hbound ⊢
              omega)
            (fun Y hY hE hb2 hh2 hr2 => by
              unfold RegOk
              rw [hr2]
              refine ⟨⟨de, hde⟩, fun j hj => ?_, .inr ⟨b, _, el, (0, 0), cap', hb2, hh2, fun _ => ⟨rfl, rfl⟩, (by intro h; cases h), ?_, k6, fun j hj => ?_⟩⟩
              · show T.fits el (match andB (leN off j) (ltN j (addN off n)) with | true => T.zero el | false => f j) = true
                rw [hcond]
                by_cases hin : off ≤ j ∧ j < off + n
                · simp only [hin, and_self, decide_true]; exact hzf
                · simp only [hin, decide_false]; exact hfit j hj
              · rw [Array.length_toList] at hbound
                simp only [List.size_toArray, List.length_append, List.length_take, List.length_drop, Array.length_toList] at hbound ⊢
                omega
              · have hblk : ((cs.toList.take (off * sz P el) ++ (Builtin.zeroCells z.cells n).toList ++ cs.toList.drop (off * sz P el + (Builtin.zeroCells z.cells n).toList.length)).drop (j * sz P el)).take (sz P el) =
                    if off ≤ j ∧ j < off + n then z.cells.toList else (cs.toList.drop (j * sz P el)).take (sz P el) := by
                  by_cases hin : off ≤ j ∧ j < off + n
                  · rw [if_pos hin, ← zero_cells_get (n := n) (i := j - off) hzs (by omega)]
                    apply List.ext_getElem?
                    intro m
                    rw [blk_get, blk_get, over_get _ _ _ _ hbound, hlen]
                    by_cases hm : m < sz P el
                    · have e1 : j * sz P el = off * sz P el + (j - off) * sz P el := by rw [← Nat.add_mul]; congr 1; omega
                      have e2 : (j - off) * sz P el + sz P el ≤ n * sz P el := by rw [← Nat.succ_mul]; exact Nat.mul_le_mul_right _ (by omega)
                      rw [if_pos hm, if_pos hm, if_neg (by omega), if_pos (by omega)]
                      congr 1; omega
                    · rw [if_neg hm, if_neg hm]
                  · rw [if_neg hin]
                    apply List.ext_getElem?
                    intro m
                    rw [blk_get, blk_get, over_get _ _ _ _ hbound, hlen]
                    by_cases hm : m < sz P el
                    · rw [if_pos hm, if_pos hm]
                      rcases Nat.lt_or_ge j off with h1 | h1
                      · have : j * sz P el + sz P el ≤ off * sz P el := by rw [← Nat.succ_mul]; exact Nat.mul_le_mul_right _ h1
                        rw [if_pos (by omega)]
                      · have : off * sz P el + n * sz P el ≤ j * sz P el := by rw [← Nat.add_mul]; exact Nat.mul_le_mul_right _ (by omega)
                        rw [if_neg (by omega), if_neg (by omega)]
                    · rw [if_neg hm, if_neg hm]
                show RelF P T Y (match andB (leN off j) (ltN j (addN off n)) with | true => T.zero el | false => f j) _
                rw [hcond]
                show RelF P T Y _ ((((cs.toList.take (off * sz P el) ++ (Builtin.zeroCells z.cells n).toList ++ cs.toList.drop (off * sz P el + (Builtin.zeroCells z.cells n).toList.length))).drop (j * sz P el)).take (sz P el))
                rw [hblk]
                by_cases hin : off ≤ j ∧ j < off + n
                · simp only [hin, and_self, decide_true, if_true]; exact relF_mono hE hzr
                · simp only [hin, decide_false, if_false]; exact relF_mono hE (k7 j hj))
          exact ⟨_, _, _, hfin, m1, m2, rel_undef.2 rfl, hrun⟩
    | _ => simp only [hg] at h; exact (all_fail h).elim
  · rw [rel_nils] at hs
    subst hs
    obtain ⟨d, hd⟩ := hu0
    exact ⟨_, X, _, h, hX, Step.refl X, rel_undef.2 rfl, by cases d <;> simp [Builtin.clear_, run_underlying hd]⟩
  · exact (all_fail h).elim

/-- what an operation that makes or writes comes to, as a step of the walk -/
theorem iteN_min (m n : Nat) : iteN (leN m n) m n = min m n := by
  unfold iteN leN
  by_cases h : m ≤ n
  · simp [h, Nat.min_eq_left h]
  · simp [h, Nat.min_eq_right (Nat.le_of_not_le h)]
theorem copyF_at (f g : Nat → V) (off c i : Nat) : copyF f g off c i = if off ≤ i ∧ i < off + c then g (i - off) else f i := by
  unfold copyF
  have hcond : (andB (leN off i) (ltN i (addN off c))) = decide (off ≤ i ∧ i < off + c) := by
    rw [Bool.eq_iff_iff]
    constructor
    · intro h
      have h : leN off i = true ∧ ltN i (addN off c) = true := by simpa [andB] using h
      exact decide_eq_true ⟨of_decide_eq_true h.1, of_decide_eq_true h.2⟩
    · intro h
      have h := of_decide_eq_true h
      have h1 : leN off i = true := decide_eq_true h.1
      have h2 : ltN i (addN off c) = true := decide_eq_true h.2
      rw [h1, h2]; rfl
  rw [hcond]
  by_cases h : off ≤ i ∧ i < off + c
  · simp [h, subN]
  · simp [h]
theorem set_same {G : List Reg} {r : Nat} {g : Reg} (h : G.getD r .gone = g) (hlt : r < G.length) : G.set r g = G := by
  apply List.ext_getElem?
  intro j
  rw [List.getElem?_set]
  split
  · rename_i e; subst e
    have : G[r]? = some g := by
      rw [List.getElem?_eq_getElem hlt]
      rw [List.getD_eq_getElem?_getD, List.getElem?_eq_getElem hlt] at h
      simpa using h
    first | exact this.symm | (rw [if_pos hlt]; exact this.symm)
  · rfl
/-- elements are copied -/
theorem copy_ok (hT : TabOk P T) {X : Rx} (hX : RInv P T X) {t u' e : Nat} {ts : Array TypeId} (ht0 : ts[0]? = some t) (ht : find t T = some (.slice e)) {vd vs : V} {d s : Value} (hd : Rel P T X vd d) (hs : Rel P T X vs s) {K : V → List Reg → R β}
    (h : All PP (contentV T X.G e vs fun m g => (match (generalizing := false) vd with
      | .nils => K (.int .i64 0) X.G
      | .sub r off n => (match X.G.getD r .gone with
        | .row e' k f => must (Nat.beq e e') (K (.int .i64 (ofN (iteN (leN m n) m n))) (X.G.set r (.row e k (copyF f g off (iteN (leN m n) m n)))))
        | _ => .fail)
      | _ => .fail))) : YieldsE P T PP X K (Builtin.copy_ ts u' #[d, s]) := by
  obtain ⟨u, hu, hud⟩ := (hT t _ ht).und
  cases u <;> simp only [Und] at hud
  subst hud
  obtain ⟨_, ⟨de, hde⟩, hby, _⟩ := (hT t _ ht).size
  obtain ⟨m, g, a, c, news, h, hC⟩ := content_ok hT hX hde hs h
  have hxv := hC.val
  subst hxv
  have hfirst : ∀ k, k ≤ m → (Builtin.firstCells (sz P e) k (.slice a m c)).run P X.w = .ok (news.take (k * sz P e)).toArray X.w := by
    intro k hk
    cases a with
    | none =>
      have hm : m = 0 := by
        rcases Nat.eq_zero_or_pos m with h | h
        · exact h
        · have := hC.some h; cases this
      subst hm
      have : news = [] := List.eq_nil_of_length_eq_zero (by rw [hC.len]; simp)
      subst this
      simp [Builtin.firstCells]
    | some ad =>
      have hlen : (news.take (k * sz P e)).length = k * sz P e := by
        rw [List.length_take, hC.len]
        exact Nat.min_eq_left (Nat.mul_le_mul_right _ hk)
      have := run_loadCells_list (P := P) (w := X.w) ad (news.take (k * sz P e)) (fun j v hj => by
        refine hC.cell ad rfl j v ?_
        rw [List.getElem?_take] at hj
        split at hj
        · exact hj
        · cases hj)
      rw [hlen] at this
      simp only [Builtin.firstCells]
      exact this
  have hsize : (sizeOf e).run P X.w = .ok (sz P e) X.w := (hT _ _ hde).run_sizeOf X.w
  cases vd with
  | nils =>
    rw [rel_nils] at hd
    subst hd
    refine ⟨_, X, _, h, hX, Step.refl X, rel_int.2 rfl, ?_⟩
    have := hfirst 0 (Nat.zero_le _)
    simp [Builtin.copy_, ht0, run_underlying hu, Builtin.lenOf, hsize, this, goInt]
  | sub r off n =>
    simp only at h
    cases hg : X.G.getD r .gone with
    | row e' k f =>
      simp only [hg] at h
      obtain ⟨he, hfin⟩ := all_must.1 h
      clear h
      have he := Nat.eq_of_beq_eq_true he
      subst he
      rw [iteN_min] at hfin
      have hreg : X.reg r = .row e k f := hg
      have hlt := Rx.reg_lt (X := X) (r := r) (by rw [hreg]; simp)
      have hok := hX.reg r hlt
      unfold RegOk at hok
      rw [hreg] at hok
      obtain ⟨base, cap, rfl, hnc, hsome, hs'⟩ := rel_sub.1 hd
      obtain ⟨_, hfit, hrow⟩ := hok
      have hsub : off + n ≤ k ∧ match X.blk r with
          | none => base = none ∧ cap = 0
          | some b => (0 < cap → base = some ⟨b, off * sz P e, none⟩) ∧ (off + cap) * sz P e ≤ bsize X.w b := by
        rcases hs' with hd | ⟨e', k', hl, hle, hb⟩
        · exact absurd hd.2 (by rw [hreg]; simp)
        · rw [hreg] at hl
          obtain ⟨rfl, rfl⟩ := hl
          exact ⟨hle, hb⟩
      obtain ⟨hnk, hsub⟩ := hsub
      have hcm : min m n ≤ m := Nat.min_le_left _ _
      have hcn : min m n ≤ n := Nat.min_le_right _ _
      have hf1 := hfirst (min m n) hcm
      have hmin : Nat.min m n = min m n := rfl
      generalize min m n = q at hfin hcm hcn hf1 hmin
      rcases Nat.eq_zero_or_pos q with rfl | hq0
      · have hf : copyF f g off 0 = f := by
          funext i
          rw [copyF_at, if_neg (by omega)]
        rw [hf, set_same hg hlt] at hfin
        refine ⟨_, X, _, hfin, hX, Step.refl X, rel_int.2 rfl, ?_⟩
        cases base <;> simp [Builtin.copy_, ht0, run_underlying hu, Builtin.lenOf, hsize, hmin, hf1, goInt, ofN, storeCells]
      · rcases hrow with ⟨k1, k2⟩ | ⟨b, cs, el, fz, cap', k1, k2, k3, k4, k5, k6, k7⟩
        · omega
        · simp only [k1] at hsub
          obtain ⟨rfl, rfl⟩ := k3 rfl
          have hbase := hsub.1 (by omega)
          subst hbase
          have hlen : (news.take (q * sz P el)).length = q * sz P el := by
            rw [List.length_take, hC.len]
            exact Nat.min_eq_left (Nat.mul_le_mul_right _ hcm)
          have hb1 : off * sz P el + q * sz P el ≤ cs.size := by
            rw [← Nat.add_mul, k5]; exact Nat.mul_le_mul_right _ (by omega)
          have hone : ∀ u ∈ news.take (q * sz P el), u.oneCell' = true := fun u hu' => hC.one u (List.mem_of_mem_take hu')
          have hst := run_storeCells_at P b (off * sz P el) el (news.take (q * sz P el)) 0 cs X.w k2 (by rw [hlen]; omega) hone
          simp only [Nat.add_zero] at hst
          have hrun : (Builtin.copy_ ts u' #[.slice (some ⟨b, off * sz P el, none⟩) n cap, .slice a m c]).run P X.w = .ok (.int .i64 (ofN q)) (X.w.setRow b (cs.toList.take (off * sz P el) ++ news.take (q * sz P el) ++ cs.toList.drop (off * sz P el + (news.take (q * sz P el)).length)).toArray) := by
            simp at hst
            simp [Builtin.copy_, ht0, run_underlying hu, Builtin.lenOf, hsize, hmin, hf1, goInt, ofN, hst]
          have hbound : off * sz P el + (news.take (q * sz P el)).length ≤ cs.toList.length := by rw [hlen]; simpa using hb1
          have hblk : ∀ j, ((cs.toList.take (off * sz P el) ++ news.take (q * sz P el) ++ cs.toList.drop (off * sz P el + (news.take (q * sz P el)).length)).drop (j * sz P el)).take (sz P el) =
              if off ≤ j ∧ j < off + q then (news.drop ((j - off) * sz P el)).take (sz P el) else (cs.toList.drop (j * sz P el)).take (sz P el) := by
            intro j
            by_cases hin : off ≤ j ∧ j < off + q
            · rw [if_pos hin]
              apply List.ext_getElem?
              intro m'
              rw [blk_get, blk_get, over_get _ _ _ _ hbound, hlen]
              by_cases hm : m' < sz P el
              · have e1 : j * sz P el = off * sz P el + (j - off) * sz P el := by rw [← Nat.add_mul]; congr 1; omega
                have e2 : (j - off) * sz P el + sz P el ≤ q * sz P el := by rw [← Nat.succ_mul]; exact Nat.mul_le_mul_right _ (by omega)
                rw [if_pos hm, if_pos hm, if_neg (by omega), if_pos (by omega), List.getElem?_take, if_pos (by omega)]
                congr 1; omega
              · rw [if_neg hm, if_neg hm]
            · rw [if_neg hin]
              apply List.ext_getElem?
              intro m'
              rw [blk_get, blk_get, over_get _ _ _ _ hbound, hlen]
              by_cases hm : m' < sz P el
              · rw [if_pos hm, if_pos hm]
                rcases Nat.lt_or_ge j off with h1 | h1
                · have : j * sz P el + sz P el ≤ off * sz P el := by rw [← Nat.succ_mul]; exact Nat.mul_le_mul_right _ h1
                  rw [if_pos (by omega)]
                · have : off * sz P el + q * sz P el ≤ j * sz P el := by rw [← Nat.add_mul]; exact Nat.mul_le_mul_right _ (by omega)
                  rw [if_neg (by omega), if_neg (by omega)]
              · rw [if_neg hm, if_neg hm]
          obtain ⟨m1, m2⟩ := write_ok (P := P) (T := T) hX (g' := .row el k (copyF f g off q))
            (new := (cs.toList.take (off * sz P el) ++ news.take (q * sz P el) ++ cs.toList.drop (off * sz P el + (news.take (q * sz P el)).length)).toArray) hlt (by rw [hreg]; trivial) (by rw [hreg]; exact ⟨rfl, rfl⟩) k1 k2 (by
              rw [Array.length_toList] at hbound
              simp only [List.size_toArray, List.length_append, List.length_take, List.length_drop, Array.length_toList] at hbound ⊢
              omega)
            (fun Y hY hE hb2 hh2 hr2 => by
              unfold RegOk
              rw [hr2]
              refine ⟨⟨de, hde⟩, fun j hj => ?_, .inr ⟨b, _, el, (0, 0), cap', hb2, hh2, fun _ => ⟨rfl, rfl⟩, (by intro h; cases h), ?_, k6, fun j hj => ?_⟩⟩
              · rw [copyF_at]
                split
                · exact hC.fits _ (by omega)
                · exact hfit j hj
              · rw [Array.length_toList] at hbound
                simp only [List.size_toArray, List.length_append, List.length_take, List.length_drop, Array.length_toList] at hbound ⊢
                omega
              · show RelF P T Y (copyF f g off q j) ((((cs.toList.take (off * sz P el) ++ news.take (q * sz P el) ++ cs.toList.drop (off * sz P el + (news.take (q * sz P el)).length))).drop (j * sz P el)).take (sz P el))
                rw [hblk, copyF_at]
                split
                · exact relF_mono hE (hC.rel _ (by omega))
                · exact relF_mono hE (k7 j hj))
          exact ⟨_, _, _, hfin, m1, m2, rel_int.2 rfl, hrun⟩
    | _ => simp only [hg] at h; exact (all_fail h).elim
  | _ => exact (all_fail h).elim

def YieldsS (P : Program) (T : Tab) {β : Type} (PP : β → Prop) (X : Rx) (K : V → List Reg → R β) (s : Sem Next) : Prop :=
  ∃ v Y y, All PP (K v Y.G) ∧ RInv P T Y ∧ Step X Y ∧ Rel P T Y v y ∧ (s.run P X.w = .ok (.value y) Y.w ∨ s.run P X.w = .ok .skip Y.w ∧ y = undef)
theorem YieldsE.next {X : Rx} {K : V → List Reg → R β} {s : Sem Value} (h : YieldsE P T PP X K s) : YieldsS P T PP X K (do pure (.value (← s))) := by
  obtain ⟨v, Y, y, h1, h2, h3, h4, h5⟩ := h
  exact ⟨v, Y, y, h1, h2, h3, h4, .inl (by simp [h5])⟩

def isFnCall : Op → Bool
  | .call cl => match cl.callee with | .value _ => true | _ => false
  | _ => false

theorem eff_ok (hT : TabOk P T) {c : Ctx} (hcT : c.T = T) {X : Rx} (hX : RInv P T X) {σ : Operand → V} {ev : Operand → Value} (hσ : OpRel P T X σ ev) {o : Oper} (hn : isFnCall o.op = false) {K : V → List Reg → R β}
    (h : All PP (effOp c σ X.G o.op K)) : YieldsS P T PP X K (execOp ev o) := by
  subst hcT
  cases hop : o.op with
  | store t a x =>
    rw [hop] at h
    simp only [effOp] at h
    have ha := hσ a
    split at h
    · rename_i r p u hc
      rw [hc] at ha
      obtain ⟨hm, h'⟩ := all_must.1 h
      clear h
      have h := h'
      clear h'
      have hm : Nat.beq u t = true ∧ c.T.takes t (σ x) = true := by simpa using hm
      have hu := Nat.eq_of_beq_eq_true hm.1
      subst hu
      obtain ⟨hsh, hnj⟩ := takes_shape hm.2
      have hx := rel_relF (hσ x) hnj
      obtain ⟨ad, had, hd⟩ := rel_ptr.1 ha
      have done : ∀ {Y : Rx} {b off : Nat}, All PP (K .undef Y.G) → RInv P c.T Y → Step X Y → (storeVar u ⟨b, off, none⟩ (ev x)).run P X.w = .ok () Y.w → ad = ⟨b, off, none⟩ → YieldsS P c.T PP X K (execOp ev o) := by
        rintro Y b off k1 k2 k3 k4 rfl
        refine ⟨_, Y, _, k1, k2, k3, rel_undef.2 rfl, .inr ⟨?_, rfl⟩⟩
        simp [execOp, hop, had, Instr.storeAt, Instr.sureAddr, k4]
      rcases hd with ⟨_, hd⟩ | ⟨b, off, hb, hp, rfl⟩
      · unfold Rx.reg at hd
        have hd2 : (escG X.G (σ x)).getD r .gone = .gone := by
          unfold escG
          rw [freezeAll_getD]
          split
          · rw [hd]; rfl
          · exact hd
        rw [hd] at h
        simp only [storeR, hd2] at h
        exact (all_fail h).elim
      · split at h
        · obtain ⟨Y, k1, k2, k3, k4⟩ := storeR_ok hT hX hb hp hx hsh (takes_fits hm.2) h
          exact done k1 k2 k3 k4 rfl
        · obtain ⟨X1, e1, e2, e3, e4, e5, e6⟩ := esc_ok hT hX hx
          have hb1 : X1.blk r = some b := by unfold Rx.blk; rw [e4]; exact hb
          have hp1 : X1.dead r ∨ PtrAt P c.T (X1.reg r) p u off := by
            rcases e2.ext.reg r (ptrAt_lt hp) with hd | ⟨_, _, k, _⟩
            · exact .inl hd
            · exact .inr (sameKind_ptrAt k hp)
          rcases hp1 with hd | hp1
          · rw [← e5] at h
            have hd2 : X1.G.getD r .gone = .gone := hd.2
            simp only [storeR, hd2] at h
            exact (all_fail h).elim
          · rw [← e5] at h
            obtain ⟨Y, k1, k2, k3, k4⟩ := storeR_ok hT e1 hb1 hp1 e6 (lend_shape hsh) (fun hfl => by
              have := takes_fits hm.2 hfl
              unfold escV
              rw [fits_lend this]
              exact this) h
            rw [e3] at k4
            exact done k1 k2 (e2.trans k3) k4 rfl
    · exact (all_fail h).elim
  | box t x =>
    rw [hop] at h
    simp only [effOp] at h
    obtain ⟨hm, h⟩ := all_must.1 h
    have hm : c.T.has t = true ∧ c.T.takes t (σ x) = true := by simpa [andB] using hm
    obtain ⟨hsh, hnj⟩ := takes_shape hm.2
    have hx := rel_relF (hσ x) hnj
    obtain ⟨d, hd⟩ : ∃ d, find t c.T = some d := by
      have := hm.1
      unfold Tab.has at this
      split at this
      · exact ⟨_, by assumption⟩
      · cases this
    obtain ⟨Y, k1, k2, k3, k4, k5⟩ := box_ok hT hX hd hsh hx
    refine ⟨_, Y, _, by rw [k1]; exact h, k2, k3, k4, .inl ?_⟩
    simp [execOp, hop, Instr.box, k5]
  | alloc t =>
    rw [hop] at h
    simp only [effOp] at h
    split at h
    · rename_i d hd
      obtain ⟨z, hz, z1, z2, z3⟩ := (hT t _ hd).run_zero
      obtain ⟨Y, k1, k2, k3, k4, k5⟩ := box_ok hT hX hd z3 (relF_mono (ext_noX X) z2)
      refine ⟨_, Y, _, by rw [k1]; exact h, k2, k3, k4, .inl ?_⟩
      simp [execOp, hop, Instr.alloc, hz, k5]
    · exact (all_fail h).elim
  | buildSlice t n parts =>
    rw [hop] at h
    simp only [effOp, forceVs_eq] at h
    have := (buildSlice_ok hT hX hσ h).next
    simpa [execOp, hop] using this
  | makeMap t res =>
    rw [hop] at h
    simp only [effOp] at h
    split at h
    · rename_i kt e hd
      obtain ⟨Y, y1, y2, y3, y4, y5⟩ := makeMap_ok hT hX hd
      obtain ⟨u, hu, hud⟩ := (hT _ _ hd).und
      cases u <;> simp only [Und] at hud
      split at h
      · refine ⟨_, Y, _, by rw [y1]; exact h, y2, y3, y4, .inl ?_⟩
        rw [y5]
        simp [execOp, hop, Instr.makeMap]
      · rename_i ho
        have hh := hσ ho
        split at h
        · rename_i q n hc
          rw [hc] at hh
          refine ⟨_, Y, _, by rw [y1]; exact h, y2, y3, y4, .inl ?_⟩
          rw [y5]
          have ha : ∀ w, (asInt (.int q n)).run P w = .ok n w := fun w => rfl
          simp [execOp, hop, Instr.makeMap, run_underlying hu, rel_int.1 hh, ha]
        · exact (all_fail h).elim
    · exact (all_fail h).elim
  | lookup t x ix ok =>
    rw [hop] at h
    simp only [effOp] at h
    split at h
    · rename_i kt e hd
      have := (lookup_ok hT hX hd (hσ x) (hσ ix) (ok := ok) h).next
      simpa [execOp, hop] using this
    · exact (all_fail h).elim
  | mapUpdate t m k x =>
    rw [hop] at h
    simp only [effOp] at h
    split at h
    · rename_i kt e hd
      obtain ⟨Y, k1, k2, k3, k4⟩ := mapUpdate_ok hT hX hd (hσ m) (hσ k) (hσ x) h
      refine ⟨_, Y, _, k1, k2, k3, rel_undef.2 rfl, .inr ⟨?_, rfl⟩⟩
      simp [execOp, hop, k4]
    · exact (all_fail h).elim
  | range t x =>
    rw [hop] at h
    simp only [effOp] at h
    split at h
    · rename_i kt e hd
      have := (range_ok hT hX hd (hσ x) h).next
      simpa [execOp, hop] using this
    · exact (all_fail h).elim
  | next x str =>
    rw [hop] at h
    simp only [effOp] at h
    cases str with
    | true => exact (all_fail h).elim
    | false =>
      have := (mapNext_ok (ty := o.type) hT hX (hσ x) h).next
      simpa [execOp, hop] using this
  | entry x =>
    rw [hop] at h
    simp only [effOp] at h
    have := (entry_ok hT hX (hσ x) h).next
    simpa [execOp, hop] using this
  | makeSlice t l cp =>
    rw [hop] at h
    have := (makeSlice_ok hT hX (hσ l) (hσ cp) h).next
    simpa [execOp, hop] using this
  | call cl =>
    rw [hop] at h hn
    simp only [effOp] at h
    simp only [isFnCall] at hn
    split at h
    · rename_i b hc
      unfold effCall at h
      split at h
      · split at h
        · rename_i s x t u hx ht
          obtain ⟨hb, h'⟩ := all_must.1 h
          clear h
          have h := h'
          clear h'
          have hb := Nat.eq_of_beq_eq_true hb
          subst hb
          have hx' : cl.args = #[s, x] := by rw [← Array.toList_inj]; exact hx
          have ht' : cl.argTypes = #[t, t] := by rw [← Array.toList_inj]; exact ht
          have := (append_ok (ty := o.type) hT hX (hσ s) (hσ x) h).next
          simpa [execOp, hop, resolve, hc, hx', ht', invoke, builtin] using this
        · exact (all_fail h).elim
      · split at h
        · rename_i s t hx ht
          have hx' : cl.args = #[s] := by rw [← Array.toList_inj]; exact hx
          have ht' : cl.argTypes = #[t] := by rw [← Array.toList_inj]; exact ht
          obtain ⟨hh, h⟩ := all_must.1 h
          obtain ⟨d, hd⟩ : ∃ d, find t c.T = some d := by
            unfold Tab.has at hh
            split at hh
            · exact ⟨_, by assumption⟩
            · cases hh
          obtain ⟨u, hu, _⟩ := (hT t _ hd).und
          have := (clear_ok (ty := o.type) hT hX (hσ s) h ⟨u, hu⟩).next
          simpa [execOp, hop, resolve, hc, hx', ht', invoke, builtin] using this
        · exact (all_fail h).elim
      · split at h
        · rename_i d s t ts hx ht
          split at h
          · rename_i e hd
            have hx' : cl.args = #[d, s] := by rw [← Array.toList_inj]; exact hx
            have ht' : cl.argTypes[0]? = some t := by rw [← Array.getElem?_toList, ht]; rfl
            have := (copy_ok (u' := o.type) hT hX ht' hd (hσ d) (hσ s) h).next
            simpa [execOp, hop, resolve, hc, hx', invoke, builtin] using this
          · exact (all_fail h).elim
        · exact (all_fail h).elim
      · split at h
        · rename_i m k t ts hx ht
          split at h
          · rename_i kt e hd
            have hx' : cl.args = #[m, k] := by rw [← Array.toList_inj]; exact hx
            have ht' : cl.argTypes[0]? = some t := by rw [← Array.getElem?_toList, ht]; rfl
            have := (delete_ok (u' := o.type) hT hX ht' hd (hσ m) (hσ k) h).next
            simpa [execOp, hop, resolve, hc, hx', invoke, builtin] using this
          · exact (all_fail h).elim
        · exact (all_fail h).elim
      · exact (all_fail h).elim
    · rename_i f hc
      rw [hc] at hn
      cases hn
    · exact (all_fail h).elim
  | _ => rw [hop] at h; exact (all_fail h).elim
end
end Go.VM

namespace Go.VM
section
variable {P : Program} {T : Tab} {β : Type} {PP : β → Prop}

theorem chkO_iff (n : Nat) : ∀ o : List Nat, chkO n o = true → o.Nodup ∧ ∀ r ∈ o, r < n
  | [], _ => by simp
  | r :: o, h => by
    simp only [chkO] at h
    cases h1 : Nat.ble n r with
    | true => rw [h1] at h; cases h
    | false =>
      rw [h1] at h
      cases h2 : memN r o with
      | true => simp [h2] at h
      | false =>
        simp only [h2] at h
        obtain ⟨k1, k2⟩ := chkO_iff n o h
        have hno : r ∉ o := fun hm => by rw [(memN_iff r o).2 hm] at h2; cases h2
        have hlt : r < n := by
          rcases Nat.lt_or_ge r n with h3 | h3
          · exact h3
          · rw [Nat.ble_eq_true_of_le h3] at h1; cases h1
        refine ⟨List.nodup_cons.2 ⟨hno, k1⟩, fun s hs => ?_⟩
        rcases List.mem_cons.1 hs with rfl | hs
        · exact hlt
        · exact k2 s hs

theorem posIn_none (o : List Nat) (r : Nat) : posIn o r = none ↔ r ∉ o := by
  rw [← memN_none]
  rw [← memN_iff]
  cases memN r o <;> simp
theorem posIn_some : ∀ (o : List Nat) (r i : Nat), posIn o r = some i → o[i]? = some r
  | [], r, i, h => by simp [posIn] at h
  | s :: o, r, i, h => by
    simp only [posIn] at h
    cases hb : Nat.beq r s with
    | true =>
      simp only [hb] at h
      cases h
      simp [Nat.eq_of_beq_eq_true hb]
    | false =>
      simp only [hb] at h
      cases hp : posIn o r with
      | none => simp [hp] at h
      | some j =>
        simp only [hp, Option.some.injEq] at h
        subst h
        simpa using posIn_some o r j hp
theorem posIn_at : ∀ (o : List Nat) (r i : Nat), o.Nodup → o[i]? = some r → posIn o r = some i
  | [], r, i, _, h => by simp at h
  | s :: o, r, i, hn, h => by
    obtain ⟨h1, h2⟩ := List.nodup_cons.1 hn
    cases i with
    | zero => simp at h; subst h; simp [posIn]
    | succ i =>
      simp at h
      have hne : r ≠ s := fun e => h1 (e ▸ List.mem_of_getElem? h)
      have hb : Nat.beq r s = false := by
        cases hb : Nat.beq r s
        · rfl
        · exact absurd (Nat.eq_of_beq_eq_true hb) hne
      simp [posIn, hb, posIn_at o r i h2 h]

theorem regsOf_len (G : List Reg) (p : Nat → Option Nat) : ∀ o : List Nat, (regsOf G p o).length = o.length
  | [] => rfl
  | r :: o => by simp [regsOf, regsOf_len G p o]
theorem regsOf_get (G : List Reg) (p : Nat → Option Nat) : ∀ (o : List Nat) (i r : Nat), o[i]? = some r → (regsOf G p o).getD i .gone = (G.getD r .gone).ren p
  | [], i, r, h => by simp at h
  | s :: o, 0, r, h => by simp at h; subst h; rfl
  | s :: o, i + 1, r, h => by simpa [regsOf] using regsOf_get G p o i r (by simpa using h)
theorem renAll_map (f : Nat → Option Nat) : ∀ l : List Reg, renAll f l = l.map (·.ren f)
  | [] => rfl
  | g :: l => by simp [renAll, renAll_map f l]
theorem dropN_drop : ∀ (n : Nat) (l : List Reg), dropN n l = l.drop n
  | 0, l => rfl
  | n + 1, [] => by simp [dropN]
  | n + 1, g :: l => by simp [dropN, dropN_drop n l]
theorem setAll_len : ∀ (o : List Nat) (G l : List Reg), (setAll G o l).length = G.length
  | [], G, l => by cases l <;> rfl
  | r :: o, G, [] => rfl
  | r :: o, G, g :: l => by simp only [setAll]; rw [setAll_len o]; simp
theorem setAll_other : ∀ (o : List Nat) (G l : List Reg) (s : Nat), s ∉ o → (setAll G o l).getD s .gone = G.getD s .gone
  | [], G, l, s, _ => by cases l <;> rfl
  | r :: o, G, [], s, _ => rfl
  | r :: o, G, g :: l, s, h => by
    simp only [setAll]
    rw [setAll_other o _ l s (fun hm => h (by simp [hm])), getD_set, if_neg (fun e => h (by simp [e.1]))]
theorem setAll_at : ∀ (o : List Nat) (G l : List Reg) (i r : Nat), o.Nodup → (∀ s ∈ o, s < G.length) → o.length ≤ l.length → o[i]? = some r → (setAll G o l).getD r .gone = l.getD i .gone
  | [], G, l, i, r, _, _, _, h => by simp at h
  | s :: o, G, [], i, r, _, _, hl, h => by simp at hl
  | s :: o, G, g :: l, i, r, hn, hlt, hl, h => by
    obtain ⟨h1, h2⟩ := List.nodup_cons.1 hn
    simp only [setAll]
    cases i with
    | zero =>
      simp at h
      subst h
      rw [setAll_other o _ l s h1, getD_set, if_pos ⟨rfl, hlt s (by simp)⟩]
      rfl
    | succ i =>
      rw [setAll_at o _ l i r h2 (fun x hx => by rw [List.length_set]; exact hlt x (by simp [hx])) (by simpa using hl) (by simpa using h)]
      simp

theorem ren_gone {f : Nat → Option Nat} {g : Reg} (h : g = .gone) : g.ren f = .gone := by subst h; rfl
theorem sameKind_ren {f : Nat → Option Nat} {g : Reg} (h : g ≠ .gone) : sameKind g (g.ren f) := by
  cases g <;> simp_all [sameKind, Reg.ren]
theorem writable_ren {f : Nat → Option Nat} {g : Reg} (h : writable (g.ren f)) : writable g := by
  cases g <;> simp_all [writable, Reg.ren]
theorem ren_live {f : Nat → Option Nat} {g : Reg} (h : g.ren f ≠ .gone) : g ≠ .gone := by rintro rfl; exact h rfl
theorem ren_writable {f : Nat → Option Nat} {g : Reg} (h : writable g) : writable (g.ren f) := by
  cases g <;> simp_all [writable, Reg.ren]

/-- what is flat holds no view -/
theorem flat_views (hT : TabOk P T) : ∀ (d t : Nat) (v : V), flatT T d t = true → fitV T v t = true → views v = false
  | 0, t, v, h, _ => by simp [flatT] at h
  | d + 1, t, v, h, hf => by
    cases ht : find t T with
    | none => simp [flatT, ht] at h
    | some dd =>
      cases v with
      | ref => simp [fitV] at hf
      | view e n f =>
        cases dd <;> simp_all [flatT, fitV]
      | fn => simp [fitV] at hf
      | tup => simp [fitV] at hf
      | nd u l =>
        obtain rfl : u = t := by
          simp only [fitV] at hf
          split at hf
          · rename_i hb _; exact Nat.eq_of_beq_eq_true hb
          · cases hf
        cases dd with
        | st fs =>
          simp only [flatT, ht] at h
          have hl : fitVs T l fs = true := by simpa [fitV, ht] using hf
          rw [views_nd]
          exact go d fs l h hl
        | _ => simp [fitV, ht] at hf
      | _ => rfl
where go : ∀ (d : Nat) (fs : List Nat) (l : List V), flatTs T d fs = true → fitVs T l fs = true → viewsL l = false
  | d, fs, [], _, _ => rfl
  | d, [], v :: l, _, h => by simp [fitVs] at h
  | 0, f :: fs, v :: l, h, _ => by simp [flatTs] at h
  | d + 1, f :: fs, v :: l, h, hf => by
    simp only [flatTs, Bool.and_eq_true] at h
    simp only [fitVs] at hf
    split at hf
    · rename_i hv
      exact (viewsL_cons v l).2 ⟨flat_views hT d f v h.1 hv, go d fs l h.2 hf⟩
    · cases hf
end
end Go.VM

namespace Go.VM
section
variable {P : Program} {T : Tab} {β : Type} {PP : β → Prop}

theorem fits_ren_all (f : Nat → Option Nat) : (∀ v t, fitV T v t = true → ren f v = v) ∧ (∀ l ts, fitVs T l ts = true → rens f l = l) := by
  apply V.ind (M := fun v => ∀ t, fitV T v t = true → ren f v = v) (L := fun l => ∀ ts, fitVs T l ts = true → rens f l = l)
  case ptr => intro r p u t h; simp [fitV] at h
  case it => intro r t h; simp [fitV] at h
  case sub => intro r o n t h; simp [fitV] at h
  case mp => intro r t h; simp [fitV] at h
  case fn => intro g l _ t h; simp [fitV] at h
  case tup => intro l _ t h; simp [fitV] at h
  case nd =>
    intro u l ih t h
    simp only [fitV] at h
    split at h
    · simp only [ren]; rw [ih _ h]
    · cases h
  case nil => intro ts _; rfl
  case cons =>
    intro v l ihv ihl ts h
    cases ts with
    | nil => simp [fitVs] at h
    | cons t ts =>
      simp only [fitVs] at h
      split at h
      · rename_i hv
        simp only [rens]
        rw [ihv t hv, ihl ts h]
      · cases h
  all_goals intros; simp only [ren]

theorem regOk_ren (hT : TabOk P T) {X Y : Rx} {f : Nat → Option Nat} (hf : Names f X Y) {r s : Nat} (hreg : Y.reg s = (X.reg r).ren f) (hblk : Y.blk s = X.blk r)
    (hw : ∀ b, X.blk r = some b → X.reg r ≠ .gone → Y.w.heap[b]? = X.w.heap[b]?) (hk : Keeps X Y ∨ (X.reg r).views T = false)
    (hS : ∀ b, X.blk r = some b → X.reg r ≠ .gone → X.S b → Y.S b) (h : RegOk P T X r) : RegOk P T Y s := by
  unfold RegOk at h ⊢
  rw [hreg]
  have row : ∀ {e n g z}, X.reg r ≠ .gone → (Keeps X Y ∨ T.flat e = true) → RowOk P T X r e n g z → RowOk P T Y s e n g z := by
    rintro e n g z hg hkk ⟨hd, hfit, hrow⟩
    refine ⟨hd, hfit, ?_⟩
    rcases hrow with ⟨h1, h2⟩ | ⟨b, cs, el, fz, cap, h1, h2, h3, h4, h5, h6, h7⟩
    · exact .inl ⟨hblk.trans h1, h2⟩
    · refine .inr ⟨b, cs, el, fz, cap, hblk.trans h1, (hw b h1 hg).trans h2, h3, fun hz => hS b h1 hg (h4 hz), h5, h6, fun i hi => ?_⟩
      have := relF_via hT hf (v := g i) (hkk.imp id fun hfl => flat_views hT 60 e (g i) hfl (hfit i hi)) (h7 i hi)
      rwa [(fits_ren_all f).1 (g i) e (hfit i hi)] at this
  cases hg : X.reg r with
  | gone => trivial
  | box t v =>
    simp only [hg, Reg.views] at h hk
    obtain ⟨hd, hs, b, cs, el, h1, h2, h3, h4⟩ := h
    exact ⟨hd, ren_shape hs, b, cs, el, hblk.trans h1, (hw b h1 (by rw [hg]; simp)).trans h2, h3, relF_via hT hf hk h4⟩
  | row e n g => simp only [hg, Reg.views] at h hk; exact row (by rw [hg]; simp) (hk.imp id fun h => by simpa using h) h
  | frz e n g => simp only [hg, Reg.views] at h hk; exact row (by rw [hg]; simp) (hk.imp id fun h => by simpa using h) h
  | map t c l =>
    simp only [hg, Reg.views] at h hk
    obtain ⟨k, e, hd, b, es, h1, h2, h3, hds, h4⟩ := h
    rw [hd] at hk
    have hfl : Keeps X Y ∨ (T.flat k = true ∧ T.flat e = true) := hk.imp id fun h => by simpa using h
    refine ⟨k, e, hd, b, es, hblk.trans h1, (hw b h1 (by rw [hg]; simp)).trans h2, h3, hds, fun i kv hi => ?_⟩
    obtain ⟨f0, f1, f2, en, e1, e2, e3, e5, e4⟩ := h4 i kv hi
    have r1 := rel_via hT hf (v := kv.2.1) (hfl.imp id fun h => flat_views hT 60 k kv.2.1 h.1 f1) e2
    have r2 := rel_via hT hf (v := kv.2.2) (hfl.imp id fun h => flat_views hT 60 e kv.2.2 h.2 f2) e3
    rw [(fits_ren_all f).1 kv.2.1 k f1] at r1
    rw [(fits_ren_all f).1 kv.2.2 e f2] at r2
    exact ⟨f0, f1, f2, en, e1, r1, r2, e5, e4⟩
  | iter m a c s =>
    simp only [hg, Reg.views] at h hk
    obtain ⟨b, bm, seen, h1, h2, h3, h4⟩ := h
    exact ⟨b, bm, seen, hblk.trans h1, (hw b h1 (by rw [hg]; simp)).trans h2, h3, relF_via hT hf hk h4⟩

def Runs (P : Program) (n : Nat) (xs : Array Value) (w : World) (R : Ending → World → Prop) : Prop :=
  match (callFunc n xs).run P w with
  | .ok (.enter f as) w' => Calls P f as w' R
  | .ok (.value y) w' => R (.returned y) w'
  | _ => False

/-- AN ENTRY TELLS THE TRUTH OF A FUNCTION. -/
def EntryOK (P : Program) (T : Tab) (n : Nat) (e : Entry) : Prop :=
  ∀ {β : Type} {PP : β → Prop} {X : Rx} {args : List V} {xs : List Value} {K : V → List Reg → R β}, RInv P T X → RelVs P T X args xs → All PP (e.run args X.G K) →
    ∀ Q : Ending → World → Prop, (∀ v y Y, All PP (K v Y.G) → RInv P T Y → Step X Y → Rel P T Y v y → Q (.returned y) Y.w) → Runs P n xs.toArray X.w Q

theorem lentL_not (o : List Nat) : (∀ v a r, r ∈ lent o v a → r ∈ a ∨ r ∉ o) ∧ (∀ l a r, r ∈ lentL o l a → r ∈ a ∨ r ∉ o) := by
  apply V.ind (M := fun v => ∀ a r, r ∈ lent o v a → r ∈ a ∨ r ∉ o) (L := fun l => ∀ a r, r ∈ lentL o l a → r ∈ a ∨ r ∉ o)
  case sub =>
    intro s off n a r h
    simp only [lent] at h
    split at h
    · exact .inl h
    · rename_i hm
      rcases mem_addTo_iff a h with rfl | h
      · exact .inr fun hm' => by rw [(memN_iff r o).2 hm'] at hm; cases hm
      · exact .inl h
  case fn => intro g l ih a r h; simp only [lent] at h; exact ih a r h
  case nd => intro g l ih a r h; simp only [lent] at h; exact ih a r h
  case tup => intro l ih a r h; simp only [lent] at h; exact ih a r h
  case cons =>
    intro v l ihv ihl a r h
    simp only [lentL] at h
    rcases ihl _ r h with h | h
    · exact ihv a r h
    · exact .inr h
  all_goals intros; rename_i h; simp only [lent, lentL] at h; exact .inl h

def backBlk (X C' : Rx) (o : List Nat) (r : Nat) : Option Nat := match posIn o r with
  | some i => C'.blk i
  | none => if r < X.G.length then X.blk r else C'.blk (r - X.G.length + o.length)

theorem anyViews_at {G : List Reg} (h : anyViews T G = false) (r : Nat) : (G.getD r .gone).views T = false := by
  induction G generalizing r with
  | nil => rfl
  | cons g G ih =>
    simp only [anyViews] at h
    split at h
    · cases h
    · rename_i hg
      cases r with
      | zero => simpa using hg
      | succ r => simpa using ih h r

/-- the callee's view of the caller's regions -/
def calleeX (X : Rx) (o : List Nat) (l : List Nat) : Rx :=
  ⟨X.w, regsOf X.G (posIn o) o, o.map X.blk, fun b => X.S b ∨ ∃ r, r ∈ l ∧ X.blk r = some b ∧ ∃ e n, rowLike (X.reg r) e n⟩

theorem callee_ok (hT : TabOk P T) {X : Rx} (hX : RInv P T X) {o l : List Nat} (ho : o.Nodup) (hlt : ∀ r ∈ o, r < X.G.length) (hl : ∀ r ∈ l, r ∉ o) :
    RInv P T (calleeX X o l) ∧ Names (posIn o) X (calleeX X o l) ∧ Keeps X (calleeX X o l) ∧ (∀ i r, o[i]? = some r → (calleeX X o l).reg i = (X.reg r).ren (posIn o) ∧ (calleeX X o l).blk i = X.blk r) := by
  have hat : ∀ i r, o[i]? = some r → (calleeX X o l).reg i = (X.reg r).ren (posIn o) ∧ (calleeX X o l).blk i = X.blk r := by
    intro i r h
    refine ⟨regsOf_get X.G (posIn o) o i r h, ?_⟩
    show (o.map X.blk).getD i none = X.blk r
    simp [h]
  have hlen : (calleeX X o l).G.length = o.length := regsOf_len _ _ _
  have hk : Keeps X (calleeX X o l) := fun b hb => ⟨.inl hb, rfl⟩
  have hN : Names (posIn o) X (calleeX X o l) := by
    intro r s hs hr
    have hos := posIn_some o r s hs
    obtain ⟨h1, h2⟩ := hat s r hos
    by_cases hg : X.reg r = .gone
    · refine .inl ⟨?_, by rw [h1, hg]; rfl⟩
      rw [hlen]
      exact (List.getElem?_eq_some_iff.1 hos).1
    · refine .inr ⟨fun hd => hg hd.2, h2, ?_, fun _ _ => Nat.le_refl _⟩
      rw [h1]
      exact sameKind_ren hg
  refine ⟨⟨by show (o.map X.blk).length = _; rw [hlen, List.length_map], fun i hi => ?_, fun i j b hne h1 h2 => ?_, fun b hb => ?_⟩, hN, hk, hat⟩
  · have hi' : i < o.length := by rw [← hlen]; exact hi
    obtain ⟨h1, h2⟩ := hat i o[i] (List.getElem?_eq_getElem hi')
    exact regOk_ren hT hN h1 h2 (fun _ _ _ => rfl) (.inl hk) (fun b _ _ h => .inl h) (hX.reg _ (hlt _ (List.getElem_mem hi')))
  · have get : ∀ i b, (calleeX X o l).blk i = some b → ∃ r, o[i]? = some r ∧ X.blk r = some b := by
      intro i b h
      have h : (o.map X.blk).getD i none = some b := h
      cases hr : o[i]? with
      | none => simp [hr] at h
      | some r => exact ⟨r, rfl, by simpa [hr] using h⟩
    obtain ⟨r, hr, hrb⟩ := get i b h1
    obtain ⟨s, hs, hsb⟩ := get j b h2
    have hrs : r ≠ s := by
      rintro rfl
      have a := posIn_at o r i ho hr
      rw [posIn_at o r j ho hs] at a
      cases a
      exact hne rfl
    rw [(hat i r hr).1, (hat j s hs).1]
    exact (hX.inj r s b hrs hrb hsb).imp ren_gone ren_gone
  · have get : ∀ i, (calleeX X o l).blk i = some b → ∃ r, o[i]? = some r ∧ X.blk r = some b := by
      intro i h
      have h : (o.map X.blk).getD i none = some b := h
      cases hr : o[i]? with
      | none => simp [hr] at h
      | some r => exact ⟨r, rfl, by simpa [hr] using h⟩
    rcases hb with hb | ⟨r0, h0, h1, e, n, h2⟩
    · obtain ⟨k1, k2⟩ := hX.safe b hb
      refine ⟨k1, fun i hi hw => ?_⟩
      obtain ⟨r, hr, hrb⟩ := get i hi
      rw [(hat i r hr).1] at hw
      exact k2 r hrb (writable_ren hw)
    · refine ⟨hX.blk_lt h1 (rowLike_live h2), fun i hi hw => ?_⟩
      obtain ⟨r, hr, hrb⟩ := get i hi
      rw [(hat i r hr).1] at hw
      have hne : r ≠ r0 := by
        rintro rfl
        exact hl r h0 (List.mem_of_getElem? hr)
      rcases hX.inj r r0 b hne hrb h1 with h | h
      · exact writable_live (writable_ren hw) h
      · exact rowLike_live h2 h
end
end Go.VM

namespace Go.VM
section
variable {P : Program} {T : Tab} {β : Type} {PP : β → Prop}

theorem backTo_ge {o : List Nat} {n j : Nat} (h : o.length ≤ j) : backTo o n j = some (n + (j - o.length)) := by
  unfold backTo; rw [Nat.ble_eq_true_of_le h]
theorem backTo_lt {o : List Nat} {n j : Nat} (h : j < o.length) : backTo o n j = o[j]? := by
  unfold backTo
  cases hb : Nat.ble o.length j with
  | true => exact absurd (Nat.le_of_ble_eq_true hb) (by omega)
  | false => rfl

def flOf (T : Tab) (v : V) (G2 : List Reg) : List Nat → List Nat
  | [] => []
  | l => match views v || anyViews T G2 with | true => l | false => []
theorem flOf_sub (T : Tab) (v : V) (G2 : List Reg) (l : List Nat) : ∀ r ∈ flOf T v G2 l, r ∈ l := by
  cases l with
  | nil => simp [flOf]
  | cons a l => simp only [flOf]; cases (views v || anyViews T G2) <;> simp
theorem flOf_cases (T : Tab) (v : V) (G2 : List Reg) (l : List Nat) : flOf T v G2 l = l ∨ l = [] ∨ (views v = false ∧ anyViews T G2 = false) := by
  cases l with
  | nil => exact .inr (.inl rfl)
  | cons a l =>
    simp only [flOf]
    cases h : (views v || anyViews T G2) with
    | true => exact .inl rfl
    | false => exact .inr (.inr (by simpa using h))
theorem afterCall_eq (T : Tab) (o l : List Nat) (G : List Reg) (v : V) (G2 : List Reg) :
    afterCall T o l G v G2 = setAll (freezeAll G (flOf T v G2 l)) o (renAll (backTo o G.length) G2) ++ dropN o.length (renAll (backTo o G.length) G2) := by
  unfold afterCall
  cases l with
  | nil => rfl
  | cons a l => simp only [flOf]; cases (views v || anyViews T G2) <;> rfl

theorem return_ok (hT : TabOk P T) {X : Rx} (hX : RInv P T X) {o l : List Nat} (ho : o.Nodup) (hlt : ∀ r ∈ o, r < X.G.length) (hl : ∀ r ∈ l, r ∉ o)
    {C' : Rx} {v : V} {y : Value} (hI : RInv P T C') (hS : Step (calleeX X o l) C') (hR : Rel P T C' v y) :
    ∃ Y : Rx, Y.G = afterCall T o l X.G v C'.G ∧ Y.w = C'.w ∧ RInv P T Y ∧ Step X Y ∧ Rel P T Y (ren (backTo o X.G.length) v) y := by
  obtain ⟨cI, cN, cK, cat⟩ := callee_ok hT hX ho hlt hl
  have hfl0 := flOf_sub T v C'.G l
  have hKN0 : (∀ b, (calleeX X o l).S b → (frzX X (flOf T v C'.G l)).S b) ∨ (views v = false ∧ anyViews T C'.G = false) := by
    rcases flOf_cases T v C'.G l with h | h | h
    · rw [h]; exact .inl fun b hb => hb
    · subst h
      refine .inl fun b hb => ?_
      rcases hb with hb | ⟨r, hr, _⟩
      · exact .inl hb
      · cases hr
    · exact .inr h
  have hAC := afterCall_eq T o l X.G v C'.G
  generalize flOf T v C'.G l = fl at hfl0 hKN0 hAC
  have hfl : ∀ r ∈ fl, r ∈ l := hfl0
  have hKN := hKN0
  obtain ⟨fI, fS⟩ := frz_ok hX fl
  have hX1g : ∀ r, (frzX X fl).reg r = .gone ↔ X.reg r = .gone := by
    intro r
    rw [frzX_reg]
    split
    · exact freeze_gone _
    · rfl
  have hX1o : ∀ r ∈ o, (frzX X fl).reg r = X.reg r := fun r hr => by
    rw [frzX_reg, if_neg (fun h => hl r (hfl r h) hr)]
  have hX1l : (frzX X fl).G.length = X.G.length := freezeAll_len _ _
  have hX1S : ∀ b, (frzX X fl).S b → (calleeX X o l).S b := by
    intro b hb
    rcases hb with hb | ⟨r, hr, h⟩
    · exact .inl hb
    · exact .inr ⟨r, hfl r hr, h⟩
  have hCl : (calleeX X o l).G.length = o.length := regsOf_len _ _ _
  have hm : o.length ≤ C'.G.length := by rw [← hCl]; exact hS.len
  have hCget : ∀ i b, (calleeX X o l).blk i = some b → ∃ r, o[i]? = some r ∧ X.blk r = some b := by
    intro i b h
    have h : (o.map X.blk).getD i none = some b := h
    cases hr : o[i]? with
    | none => simp [hr] at h
    | some r => exact ⟨r, rfl, by simpa [hr] using h⟩
  have hfar : ∀ r b, r ∉ o → X.blk r = some b → X.reg r ≠ .gone → ∀ i, (calleeX X o l).blk i = some b → (calleeX X o l).reg i = .gone := by
    intro r b hr hb hg i hi
    obtain ⟨r', hr', hb'⟩ := hCget i b hi
    rw [(cat i r' hr').1]
    have hne : r ≠ r' := by rintro rfl; exact hr (List.mem_of_getElem? hr')
    exact ren_gone ((hX.inj r r' b hne hb hb').resolve_left hg)
  have hheap : ∀ r b, r ∉ o → X.blk r = some b → X.reg r ≠ .gone → C'.w.heap[b]? = X.w.heap[b]? := fun r b hr hb hg =>
    hS.keep b (hX.blk_lt hb hg) fun i hi hw => writable_live hw (hfar r b hr hb hg i hi)
  -- the caller's regions behind the call
  obtain ⟨Y, hYv⟩ : ∃ Y : Rx, Y = ⟨C'.w, setAll (freezeAll X.G fl) o (renAll (backTo o X.G.length) C'.G) ++ dropN o.length (renAll (backTo o X.G.length) C'.G),
    (List.range (X.G.length + (C'.G.length - o.length))).map (backBlk X C' o), fun b => (frzX X fl).S b ∨ (C'.S b ∧ ¬ (calleeX X o l).S b)⟩ := ⟨_, rfl⟩
  have hYw : Y.w = C'.w := by rw [hYv]
  have hYG : Y.G = setAll (freezeAll X.G fl) o (renAll (backTo o X.G.length) C'.G) ++ dropN o.length (renAll (backTo o X.G.length) C'.G) := by rw [hYv]
  have hYS : ∀ b, Y.S b ↔ (frzX X fl).S b ∨ (C'.S b ∧ ¬ (calleeX X o l).S b) := by intro b; rw [hYv]
  have hYl : Y.G.length = X.G.length + (C'.G.length - o.length) := by
    rw [hYG, renAll_map, dropN_drop]
    simp [setAll_len, freezeAll_len]
  have hYblk : ∀ s, Y.blk s = if s < Y.G.length then backBlk X C' o s else none := by
    intro s
    rw [hYl, hYv]
    show ((List.range (X.G.length + (C'.G.length - o.length))).map (backBlk X C' o)).getD s none = _
    by_cases h : s < X.G.length + (C'.G.length - o.length)
    · simp [h]
    · rw [if_neg h, List.getD_eq_getElem?_getD, List.getElem?_eq_none (by simpa using Nat.le_of_not_lt h)]; rfl
  have hYat : ∀ j s, j < C'.G.length → backTo o X.G.length j = some s → s < Y.G.length ∧ Y.reg s = (C'.reg j).ren (backTo o X.G.length) ∧ Y.blk s = C'.blk j := by
    intro j s hj hs
    rcases Nat.lt_or_ge j o.length with hjm | hjm
    · rw [backTo_lt hjm] at hs
      have hso := List.mem_of_getElem? hs
      have hsn := hlt s hso
      have hsY : s < Y.G.length := by omega
      refine ⟨hsY, ?_, ?_⟩
      · unfold Rx.reg
        rw [hYG, List.getD_eq_getElem?_getD, List.getElem?_append_left (by rw [setAll_len, freezeAll_len]; exact hsn), ← List.getD_eq_getElem?_getD]
        rw [setAll_at o _ _ j s ho (fun r hr => by rw [freezeAll_len]; exact hlt r hr) (by rw [renAll_map, List.length_map]; exact hm) hs, renAll_map]
        simp [hj]
      · rw [hYblk, if_pos hsY]
        unfold backBlk
        rw [posIn_at o s j ho hs]
    · rw [backTo_ge hjm] at hs
      cases hs
      have hsY : X.G.length + (j - o.length) < Y.G.length := by omega
      refine ⟨hsY, ?_, ?_⟩
      · unfold Rx.reg
        rw [hYG, List.getD_eq_getElem?_getD, List.getElem?_append_right (by rw [setAll_len, freezeAll_len]; omega), setAll_len, freezeAll_len, dropN_drop, renAll_map, List.getElem?_drop]
        rw [show o.length + (X.G.length + (j - o.length) - X.G.length) = j by omega]
        simp [hj]
      · rw [hYblk, if_pos hsY]
        unfold backBlk
        rw [(posIn_none o _).2 (fun h => by have := hlt _ h; omega)]
        simp only
        rw [if_neg (by omega)]
        congr 1; omega
  have hYold : ∀ r, r < X.G.length → r ∉ o → Y.reg r = (frzX X fl).reg r ∧ Y.blk r = X.blk r := by
    intro r hr hro
    refine ⟨?_, ?_⟩
    · unfold Rx.reg
      rw [hYG, List.getD_eq_getElem?_getD, List.getElem?_append_left (by rw [setAll_len, freezeAll_len]; exact hr), ← List.getD_eq_getElem?_getD, setAll_other o _ _ r hro]
      rfl
    · rw [hYblk, if_pos (by omega)]
      unfold backBlk
      rw [(posIn_none o r).2 hro]
      simp [hr]
  have hcase : ∀ s, s < Y.G.length → (∃ j, j < C'.G.length ∧ backTo o X.G.length j = some s) ∨ (s < X.G.length ∧ s ∉ o) := by
    intro s hs
    by_cases hso : s ∈ o
    · obtain ⟨i, hi, rfl⟩ := List.getElem_of_mem hso
      exact .inl ⟨i, by omega, by rw [backTo_lt hi, List.getElem?_eq_getElem hi]⟩
    · rcases Nat.lt_or_ge s X.G.length with h | h
      · exact .inr ⟨h, hso⟩
      · refine .inl ⟨s - X.G.length + o.length, by omega, ?_⟩
        rw [backTo_ge (by omega)]
        congr 1; omega
  have hblt : ∀ s b, Y.blk s = some b → s < Y.G.length := by
    intro s b h
    rw [hYblk] at h
    split at h
    · assumption
    · cases h
  have hN : Names (backTo o X.G.length) C' Y := by
    intro j s hs hj
    obtain ⟨h1, h2, h3⟩ := hYat j s hj hs
    by_cases hg : C'.reg j = .gone
    · exact .inl ⟨h1, by rw [h2, hg]; rfl⟩
    · refine .inr ⟨fun hd => hg hd.2, h3, ?_, fun b _ => by rw [hYw]; exact Nat.le_refl _⟩
      rw [h2]
      exact sameKind_ren hg
  have hKeep : (∀ b, (calleeX X o l).S b → (frzX X fl).S b) → Keeps C' Y := by
    intro h b hb
    refine ⟨(hYS b).2 ?_, by rw [hYw]⟩
    by_cases hc : (calleeX X o l).S b
    · exact .inl (h b hc)
    · exact .inr ⟨hb, hc⟩
  have hE1 : Ext (frzX X fl) Y := by
    refine ⟨fun r hr => ?_, fun b hb => ?_⟩
    · rw [hX1l] at hr
      by_cases hro : r ∈ o
      · obtain ⟨i, hi, rfl⟩ := List.getElem_of_mem hro
        have hio : o[i]? = some o[i] := List.getElem?_eq_getElem hi
        obtain ⟨c1, c2⟩ := cat i _ hio
        obtain ⟨y1, y2, y3⟩ := hYat i o[i] (by omega) (by rw [backTo_lt hi]; exact hio)
        rcases hS.ext.reg i (by rw [hCl]; exact hi) with hd | ⟨hd, k1, k2, k3⟩
        · exact .inl ⟨y1, by rw [y2, hd.2]; rfl⟩
        · have hcg : (calleeX X o l).reg i ≠ .gone := fun h => hd ⟨by rw [hCl]; exact hi, h⟩
          have hxg : X.reg o[i] ≠ .gone := by rw [c1] at hcg; exact ren_live hcg
          refine .inr ⟨fun h => hxg ((hX1g _).1 h.2), ?_, ?_, fun b hb => ?_⟩
          · rw [y3, k1, c2]; rfl
          · rw [hX1o _ hro, y2]
            rw [c1] at k2
            exact sameKind_trans (sameKind_ren hxg) (sameKind_trans k2 (sameKind_ren (sameKind_live k2).2))
          · rw [hYw]
            exact k3 b (c2.trans hb)
      · obtain ⟨y1, y2⟩ := hYold r hr hro
        by_cases hg : (frzX X fl).reg r = .gone
        · exact .inl ⟨by omega, y1.trans hg⟩
        · refine .inr ⟨fun h => hg h.2, y2, by rw [y1]; exact sameKind_refl hg, fun b hb => ?_⟩
          have hh := hheap r b hro hb (fun h => hg ((hX1g r).2 h))
          unfold bsize
          rw [hYw, hh]
          exact Nat.le_refl _
    · refine ⟨(hYS b).2 (.inl hb), ?_⟩
      rw [hYw]
      exact (hS.ext.safe b (hX1S b hb)).2
  have hlive : ∀ r, (frzX X fl).reg r ≠ .gone → X.reg r ≠ .gone := fun r h h' => h ((hX1g r).2 h')
  -- what stands in a region that came back
  have hback : ∀ j b, C'.blk j = some b → C'.reg j ≠ .gone → X.w.heap.size ≤ b ∨ ∃ r, r ∈ o ∧ X.blk r = some b ∧ X.reg r ≠ .gone ∧ (writable (C'.reg j) → writable (X.reg r)) := by
    intro j b hb hg
    rcases hS.own j b hb hg with h | ⟨i, h1, h2, h3⟩
    · exact .inl h
    · obtain ⟨r, hr, hrb⟩ := hCget i b h1
      rw [(cat i r hr).1] at h2 h3
      exact .inr ⟨r, List.mem_of_getElem? hr, hrb, ren_live h2, fun hw => writable_ren (h3 hw)⟩
  have hI' : RInv P T Y := by
    refine ⟨?_, fun s hs => ?_, fun s s' b hne h1 h2 => ?_, fun b hb => ?_⟩
    · rw [hYl, hYv]; simp
    · rcases hcase s hs with ⟨j, hj, hjs⟩ | ⟨h1, h2⟩
      · obtain ⟨y1, y2, y3⟩ := hYat j s hj hjs
        refine regOk_ren hT hN y2 y3 (fun b _ _ => by rw [hYw]) (hKN.imp hKeep fun h => anyViews_at h.2 j) (fun b hb hg hSb => (hYS b).2 ?_) (hI.reg j hj)
        by_cases hc : (calleeX X o l).S b
        · refine .inl ?_
          rcases hc with hc | ⟨r0, h0, h1, e, n, h2⟩
          · exact .inl hc
          · rcases hback j b hb hg with h | ⟨r, hr, hrb, hrg, _⟩
            · have := hX.blk_lt h1 (rowLike_live h2); omega
            · have hne : r ≠ r0 := by rintro rfl; exact hl r h0 hr
              rcases hX.inj r r0 b hne hrb h1 with h | h
              · exact absurd h hrg
              · exact absurd h (rowLike_live h2)
        · exact .inr ⟨hSb, hc⟩
      · obtain ⟨y1, y2⟩ := hYold s h1 h2
        refine regOk_same hE1 y1 y2 (fun b hb hg => ?_) (fI.reg s (by rw [hX1l]; exact h1))
        rw [hYw]
        exact hheap s b h2 hb (hlive s hg)
    · have mixed : ∀ s s' b, (∃ j, j < C'.G.length ∧ backTo o X.G.length j = some s) → (s' < X.G.length ∧ s' ∉ o) → Y.blk s = some b → Y.blk s' = some b → Y.reg s = .gone ∨ Y.reg s' = .gone := by
        rintro s s' b ⟨j, hj, hjs⟩ ⟨k1, k2⟩ h1 h2
        obtain ⟨y1, y2, y3⟩ := hYat j s hj hjs
        obtain ⟨z1, z2⟩ := hYold s' k1 k2
        rw [y3] at h1
        rw [z2] at h2
        by_cases hg : C'.reg j = .gone
        · exact .inl (by rw [y2, hg]; rfl)
        · by_cases hg' : X.reg s' = .gone
          · exact .inr (z1.trans ((hX1g s').2 hg'))
          · rcases hback j b h1 hg with h | ⟨r, hr, hrb, hrg, _⟩
            · have := hX.blk_lt h2 hg'; omega
            · have hne : r ≠ s' := by rintro rfl; exact k2 hr
              rcases hX.inj r s' b hne hrb h2 with h | h
              · exact absurd h hrg
              · exact absurd h hg'
      rcases hcase s (hblt s b h1) with ⟨j, hj, hjs⟩ | hs
      · rcases hcase s' (hblt s' b h2) with ⟨j', hj', hjs'⟩ | hs'
        · obtain ⟨y1, y2, y3⟩ := hYat j s hj hjs
          obtain ⟨z1, z2, z3⟩ := hYat j' s' hj' hjs'
          have hjj : j ≠ j' := by rintro rfl; rw [hjs] at hjs'; cases hjs'; exact hne rfl
          rw [y3] at h1
          rw [z3] at h2
          rw [y2, z2]
          exact (hI.inj j j' b hjj h1 h2).imp ren_gone ren_gone
        · exact mixed s s' b ⟨j, hj, hjs⟩ hs' h1 h2
      · rcases hcase s' (hblt s' b h2) with hs' | hs'
        · exact (mixed s' s b hs' hs h2 h1).symm
        · obtain ⟨y1, y2⟩ := hYold s hs.1 hs.2
          obtain ⟨z1, z2⟩ := hYold s' hs'.1 hs'.2
          rw [y2] at h1
          rw [z2] at h2
          rw [y1, z1]
          exact fI.inj s s' b hne h1 h2
    · rcases (hYS b).1 hb with hb1 | ⟨hb1, hb2⟩
      · obtain ⟨k1, k2⟩ := fI.safe b hb1
        have hcs := hS.ext.safe b (hX1S b hb1)
        refine ⟨by rw [hYw]; exact Nat.lt_of_lt_of_le k1 hS.size, fun s hs hw => ?_⟩
        rcases hcase s (hblt s b hs) with ⟨j, hj, hjs⟩ | ⟨h1, h2⟩
        · obtain ⟨y1, y2, y3⟩ := hYat j s hj hjs
          rw [y3] at hs
          rw [y2] at hw
          exact (hI.safe b hcs.1).2 j hs (writable_ren hw)
        · obtain ⟨y1, y2⟩ := hYold s h1 h2
          rw [y2] at hs
          rw [y1] at hw
          exact k2 s hs hw
      · obtain ⟨k1, k2⟩ := hI.safe b hb1
        refine ⟨by rw [hYw]; exact k1, fun s hs hw => ?_⟩
        rcases hcase s (hblt s b hs) with ⟨j, hj, hjs⟩ | ⟨h1, h2⟩
        · obtain ⟨y1, y2, y3⟩ := hYat j s hj hjs
          rw [y3] at hs
          rw [y2] at hw
          exact k2 j hs (writable_ren hw)
        · obtain ⟨y1, y2⟩ := hYold s h1 h2
          rw [y2] at hs
          rw [y1] at hw
          have hg := hlive s (writable_live hw)
          rcases hS.sown b hb1 with h | h | ⟨i, h3, h4⟩
          · exact hb2 h
          · have := hX.blk_lt hs hg
            have h : X.w.heap.size ≤ b := h
            omega
          · exact h4 (hfar s b h2 hs hg i h3)
  refine ⟨Y, ?_, hYw, hI', fS.trans ⟨hE1, ?_, ?_, ?_, ?_, ?_, fun b hb hn => ?_, fun s b h1 h2 => ?_, fun b hb => ?_⟩, rel_via hT hN (hKN.imp hKeep (·.1)) hR⟩
  · rw [hYG, hAC]
  · rw [hYw]; exact hS.os
  · rw [hYw]; exact hS.tape
  · rw [hYw]; exact hS.output
  · rw [hYw]; exact hS.size
  · rw [hX1l]; omega
  · rw [hYw]
    refine hS.keep b hb fun i hi hw => ?_
    obtain ⟨r, hr, hrb⟩ := hCget i b hi
    rw [(cat i r hr).1] at hw
    refine hn r hrb ?_
    rw [hX1o r (List.mem_of_getElem? hr)]
    exact writable_ren hw
  · rcases hcase s (hblt s b h1) with ⟨j, hj, hjs⟩ | ⟨k1, k2⟩
    · obtain ⟨y1, y2, y3⟩ := hYat j s hj hjs
      rw [y3] at h1
      rw [y2] at h2
      rcases hback j b h1 (ren_live h2) with h | ⟨r, hr, hrb, hrg, hrw⟩
      · exact .inl h
      · refine .inr ⟨r, hrb, fun h => hrg ((hX1g r).1 h), fun hw => ?_⟩
        rw [hX1o r hr]
        rw [y2] at hw
        exact hrw (writable_ren hw)
    · obtain ⟨y1, y2⟩ := hYold s k1 k2
      rw [y2] at h1
      rw [y1] at h2 ⊢
      exact .inr ⟨s, h1, h2, id⟩
  · rcases (hYS b).1 hb with hb1 | ⟨hb1, hb2⟩
    · exact .inl hb1
    · rcases hS.sown b hb1 with h | h | ⟨i, h3, h4⟩
      · exact absurd h hb2
      · exact .inr (.inl h)
      · obtain ⟨r, hr, hrb⟩ := hCget i b h3
        rw [(cat i r hr).1] at h4
        exact .inr (.inr ⟨r, hrb, fun h => ren_live h4 ((hX1g r).1 h)⟩)

/-- A CALL OF AN ENTRY THAT TELLS THE TRUTH. -/
theorem callE_ok (hT : TabOk P T) {X : Rx} (hX : RInv P T X) {n : Nat} {e : Entry} (he : EntryOK P T n e) {args : List V} {xs : List Value} (hargs : RelVs P T X args xs) {K : V → List Reg → R β} (h : All PP (callE T e args X.G K))
    (Q : Ending → World → Prop) (hQ : ∀ v y Y, All PP (K v Y.G) → RInv P T Y → Step X Y → Rel P T Y v y → Q (.returned y) Y.w) : Runs P n xs.toArray X.w Q := by
  unfold callE at h
  simp only [forceS_eq, forceB_eq] at h
  obtain ⟨hc, h⟩ := all_must.1 h
  obtain ⟨ho, hlt⟩ := chkO_iff _ _ hc
  have hl : ∀ r ∈ lentL (handed e args X.G) args [], r ∉ handed e args X.G := fun r hr => ((lentL_not _).2 args [] r hr).resolve_left (by simp)
  obtain ⟨c1, c2, c3, c4⟩ := callee_ok hT hX ho hlt hl
  have hargs' : RelVs P T (calleeX X (handed e args X.G) (lentL (handed e args X.G) args [])) (lends T X.G (handed e args X.G) args) xs :=
    relVs_lend hT hX c2 c3 (a := []) (fun r hr hlk b hb => ⟨.inr ⟨r, hr, hb, hlk⟩, rfl⟩) hargs
  refine he c1 hargs' h Q ?_
  intro v y C' hA hI hS hR
  obtain ⟨Y, h1, h2, h3, h4, h5⟩ := return_ok hT hX ho hlt hl hI hS hR
  rw [← h2]
  exact hQ _ y Y (by rw [h1]; exact hA) h3 h4 h5
end
end Go.VM
