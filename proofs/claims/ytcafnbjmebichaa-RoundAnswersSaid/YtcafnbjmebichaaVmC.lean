/- The walk through a function's code, loops and regions that draw their order: the machine over values is as the model. No conditions. -/
import Derived.Test.YtcafnbjmebichaaVmB
import Derived.Orders
import Derived.Scope
namespace Go.VM
section
variable {P : Program} {T : Tab} {β : Type} {PP : β → Prop}

/-- every temporary holds what is told of it -/
def ActRel (P : Program) (T : Tab) (X : Rx) (keep : List Nat) (env : List (Nat × V)) (loc : List V) (a : Act) : Prop :=
  ∀ t, Rel P T X (opnd keep env loc (.tmp t)) (a.tmps.getD t undef)

theorem rel_junk {X : Rx} {x : Value} : Rel P T X .junk x := .inl rfl

theorem ActRel.op {X : Rx} {keep : List Nat} {env : List (Nat × V)} {loc : List V} {a : Act} (h : ActRel P T X keep env loc a) : OpRel P T X (opnd keep env loc) a.eval := by
  intro o
  cases o with
  | tmp t => exact h t
  | const v =>
    simp only [opnd, Act.eval]
    split
    · exact rel_bool.2 rfl
    · exact rel_int.2 rfl
    · exact rel_str.2 rfl
    · exact rel_nilp.2 rfl
    · exact rel_nils.2 rfl
    · exact rel_nilm.2 rfl
    · exact rel_nilf.2 rfl
    · exact rel_ei.2 ⟨rfl, by simp⟩
    · exact rel_junk
  | func f => exact rel_fn.2 ⟨#[], rfl, relVs_nil.2 rfl⟩
  | global g => exact rel_junk
theorem ActRel.mono {X Y : Rx} (hE : Ext X Y) {keep : List Nat} {env : List (Nat × V)} {loc : List V} {a : Act} (h : ActRel P T X keep env loc a) : ActRel P T Y keep env loc a :=
  fun t => rel_mono hE (h t)
theorem opnd_cons (keep : List Nat) (env : List (Nat × V)) (loc : List V) (d t : Nat) (v : V) : opnd keep ((d, v) :: env) loc (.tmp t) = if t = d then v else opnd keep env loc (.tmp t) := by
  simp only [opnd, find]
  cases hb : Nat.beq t d with
  | true => rw [if_pos (Nat.eq_of_beq_eq_true hb)]
  | false => rw [if_neg (fun e => by rw [e, Nat.beq_refl] at hb; cases hb)]
theorem getD_put (a : Act) (d t : Nat) (y : Value) (hd : d < a.tmps.size) : (a.put (some d) y).tmps.getD t undef = if t = d then y else a.tmps.getD t undef := by
  simp only [Act.put, Array.getD_eq_getD_getElem?, Array.getElem?_setIfInBounds]
  by_cases h : d = t
  · subst h; simp [hd]
  · simp [h, Ne.symm h]
theorem put_size (a : Act) (d : Option Nat) (y : Value) : (a.put d y).tmps.size = a.tmps.size := by cases d <;> simp [Act.put]
theorem put_defers (a : Act) (d : Option Nat) (y : Value) : (a.put d y).defers = a.defers := by cases d <;> rfl
theorem ActRel.put {X : Rx} {keep : List Nat} {env : List (Nat × V)} {loc : List V} {a : Act} (h : ActRel P T X keep env loc a) {d : Option Nat} {v : V} {y : Value} (hd : dstOk a.tmps.size d = true) (hv : Rel P T X v y) :
    ActRel P T X keep (putE env d v) loc (a.put d y) := by
  cases d with
  | none => exact h
  | some d =>
    intro t
    have hd : d < a.tmps.size := of_decide_eq_true hd
    show Rel P T X (opnd keep ((d, v) :: env) loc (.tmp t)) _
    rw [opnd_cons, getD_put a d t y hd]
    split
    · exact hv
    · exact h t
theorem ActRel.find {X : Rx} {keep : List Nat} {env : List (Nat × V)} {loc : List V} {a : Act} (h : ActRel P T X keep env loc a) {d : Nat} {v : V} (hf : find d env = some v) : Rel P T X v (a.tmps.getD d undef) := by
  have := h d
  simp only [opnd, hf] at this
  exact this
/-- what is known already may be said again -/
theorem ActRel.again {X : Rx} {keep : List Nat} {env : List (Nat × V)} {loc : List V} {a : Act} (h : ActRel P T X keep env loc a) {d : Nat} {v : V} (hf : VM.find d env = some v) : ActRel P T X keep ((d, v) :: env) loc a := by
  intro t
  rw [opnd_cons]
  split
  · rename_i e; subst e; exact h.find hf
  · exact h t

/-- the functions that a context knows -/
def FnsOK (P : Program) (T : Tab) (c : Ctx) : Prop := ∀ g e, find g c.fns = some e → EntryOK P T g e

theorem relVs_append {X : Rx} : ∀ {l m : List V} {xs ys : List Value}, RelVs P T X l xs → RelVs P T X m ys → RelVs P T X (l ++ m) (xs ++ ys)
  | [], m, xs, ys, h, h' => by rw [relVs_nil.1 h]; exact h'
  | v :: l, m, xs, ys, h, h' => by
    obtain ⟨x, xs', rfl, h1, h2⟩ := relVs_cons.1 h
    exact relVs_cons.2 ⟨x, _, rfl, h1, relVs_append h2 h'⟩

theorem all_anyBool {K : Bool → R β} (h : All PP (anyBool K)) (b : Bool) : All PP (K b) := h.1 (.bool b) rfl
theorem nilAskK_eq {σ : Operand → V} {op : Op} {K : Bool → R β} : nilAskK T σ op K = K (nilAsk T σ op) := by
  have h1 : ∀ t x y, nilAskK1 T t x y K = K (nilAsk1 T t x y) := by
    intro t x y
    unfold nilAskK1 nilAsk1
    cases y <;> first | rfl | skip
    cases find t T with
    | none => rfl
    | some d => cases d <;> first | rfl | (cases x <;> rfl)
  cases op <;> first | rfl | skip
  rename_i op t x y p
  cases op <;> first | rfl | exact h1 _ _ _
theorem nilAsk_ok (hT : TabOk P T) {X : Rx} {σ : Operand → V} {ev : Operand → Value} (hσ : OpRel P T X σ ev) {o : Oper} (h : nilAsk T σ o.op = true) : ∃ b, (execOp ev o).run P X.w = .ok (.value (.bool b)) X.w := by
  cases hop : o.op with
  | binOp op t xo yo p =>
    rw [hop] at h
    have key : ∀ neg : Bool, op = (if neg then .neq else .eql) → nilAsk1 T t (σ xo) (σ yo) = true → ∃ b, (execOp ev o).run P X.w = .ok (.value (.bool b)) X.w := by
      intro neg hneg h
      unfold nilAsk1 at h
      have hy := hσ yo
      have hx := hσ xo
      split at h
      · rename_i hyn
        rw [hyn, rel_nils] at hy
        split at h
        · rename_i e hi
          obtain ⟨uu, hu, hud⟩ := (hT t _ hi).und
          cases uu <;> simp only [Und] at hud
          have go : ∀ (a : Option Addr) (n c : Nat), ev xo = .slice a n c → ∃ b, (execOp ev o).run P X.w = .ok (.value (.bool b)) X.w := by
            intro a n c hxv
            have hr : ∀ b : Bool, (Op.equalIn (9999 + 1) t (.slice a n c) (.slice none 0 0)).run P X.w = .ok b X.w → (do eqGuard (if neg then .neq else .eql) t xo yo (.slice a n c) (.slice none 0 0); binOp (if neg then .neq else .eql) t (.slice a n c) (.slice none 0 0) : Sem Value).run P X.w = .ok (.bool (if neg then !b else b)) X.w :=
              fun b hb => eq_run (guard_plain (by simp)) (by simp) (by simp) (by simp) (by simp) hb
            have fin : ∀ b : Bool, (do eqGuard (if neg then .neq else .eql) t xo yo (.slice a n c) (.slice none 0 0); binOp (if neg then .neq else .eql) t (.slice a n c) (.slice none 0 0) : Sem Value).run P X.w = .ok (.bool b) X.w → ∃ b, (execOp ev o).run P X.w = .ok (.value (.bool b)) X.w := by
              intro b hb
              have hY : Yields P T (fun _ : Unit => True) X (fun _ => .ret ()) (do eqGuard op t xo yo (ev xo) (ev yo); binOp op t (ev xo) (ev yo)) := ⟨.bool b, .bool b, trivial, rel_bool.2 rfl, by rw [hneg, hxv, hy]; exact hb⟩
              have h2 : YieldsN P T (fun _ : Unit => True) X (fun _ => .ret ()) (execOp ev o) := by
                have := hY.next
                simpa [execOp, hop] using this
              have h3 : (execOp ev o).run P X.w = .ok (.value (.bool b)) X.w := by
                simp only [execOp, hop]
                rw [hneg, hxv, hy]
                have hb' := hb
                simp only [Sem.run_bind] at hb' ⊢
                cases hg : (eqGuard (if neg then .neq else .eql) t xo yo (.slice a n c) (.slice none 0 0)).run P X.w with
                | halt x w => rw [hg] at hb'; cases hb'
                | ok u w =>
                  rw [hg] at hb'
                  simp only [Result.andThen_ok] at hb' ⊢
                  rw [hb']
                  rfl
              exact ⟨b, h3⟩
            cases a with
            | none => exact fin _ (hr true (by rw [e_ss hu]; simp))
            | some a => exact fin _ (hr false (by rw [e_sn hu]))
          split at h
          · rename_i r off n hxn
            rw [hxn] at hx
            obtain ⟨a, cap, hxv, _⟩ := rel_sub.1 hx
            exact go _ _ _ hxv
          · rename_i e' n f hxn
            rw [hxn] at hx
            obtain ⟨a, cap, hxv, _⟩ := rel_view.1 hx
            exact go _ _ _ hxv
          · cases h
        · cases h
      · cases h
    simp only [nilAsk] at h
    cases op <;> first | (cases h; done) | exact key false rfl h | exact key true rfl h
  | _ => rw [hop] at h; cases h

/-- One operation that is carried out. -/
theorem step_ok (hT : TabOk P T) {c : Ctx} (hc : c.T = T) (hF : FnsOK P T c) {X : Rx} (hX : RInv P T X) {env : List (Nat × V)} {loc : List V} {a : Act} (hA : ActRel P T X c.keep env loc a) {o : Oper} (hd : dstOk a.tmps.size o.dst = true)
    {K : List (Nat × V) → List Reg → R β} (h : All PP (stepOp c loc o env X.G K)) {next : Act → World → Prop} {Q : Exit → Act → World → Prop}
    (hn : ∀ env' Y a', All PP (K env' Y.G) → RInv P T Y → Step X Y → ActRel P T Y c.keep env' loc a' → a'.tmps.size = a.tmps.size → a'.defers = a.defers → next a' Y.w) : o.wp P a X.w next Q := by
  unfold stepOp at h
  simp only [forceV_eq] at h
  have put : ∀ {v : V} {Y : Rx} {y : Value}, All PP (K (putE env o.dst v) Y.G) → RInv P T Y → Step X Y → Rel P T Y v y → next (a.put o.dst y) Y.w := by
    intro v Y y k1 k2 k3 k4
    exact hn _ Y _ k1 k2 k3 ((hA.mono k3.ext).put hd k4) (put_size _ _ _) (put_defers _ _ _)
  split at h
  · -- it leaves the regions alone
    rw [hc] at h
    cases hla : lenAsk c.any T (opnd c.keep env loc) X.G o.op with
    | some n =>
      rw [hla] at h
      have hml : mapLen T (opnd c.keep env loc) X.G o.op = some n := by
        unfold lenAsk at hla
        split at hla
        · exact hla
        · cases hla
      unfold Oper.wp
      rw [mapLen_ok hT hX hA.op hml]
      exact put h hX (Step.refl X) (rel_int.2 rfl)
    | none =>
    rw [hla] at h
    simp only [nilAskK_eq] at h
    have hdet : (nilAsk T (opnd c.keep env loc) o.op = true ∧ All PP (anyBool fun b => K (putE env o.dst (.bool b)) X.G)) ∨ All PP (detOp T (opnd c.keep env loc) X.G o.op fun v => K (putE env o.dst v) X.G) := by
      cases hn : nilAsk T (opnd c.keep env loc) o.op with
      | false => rw [hn] at h; exact .inr h
      | true =>
        rw [hn] at h
        cases ha : c.any with
        | true => rw [ha] at h; exact .inl ⟨rfl, h⟩
        | false => rw [ha] at h; exact .inr h
    clear h
    rcases hdet with ⟨hask, h⟩ | h
    · obtain ⟨b, hb⟩ := nilAsk_ok hT hA.op hask
      unfold Oper.wp
      rw [hb]
      exact put (all_anyBool h b) hX (Step.refl X) (rel_bool.2 rfl)
    obtain ⟨v, x, h1, h2, h3⟩ := det_ok hT hX hA.op h
    unfold Oper.wp
    rw [h3]
    exact put h1 hX (Step.refl X) h2
  · by_cases hfn : isFnCall o.op = true
    · -- a call
      cases hop : o.op with
      | call cl =>
        rw [hop] at h hfn
        simp only [effOp] at h
        simp only [isFnCall] at hfn
        split at h
        · rename_i b hb
          rw [hb] at hfn; cases hfn
        · rename_i f hcal
          have hf := hA.op f
          split at h
          · rename_i g cap hfc
            rw [hfc] at hf
            obtain ⟨xs, hx, hcap⟩ := rel_fn.1 hf
            split at h
            · rename_i e he
              have hargs : RelVs P T X (cl.args.toList.map (opnd c.keep env loc) ++ cap) (cl.args.toList.map a.eval ++ xs.toList) := relVs_append (relVs_map hA.op _) hcap
              rw [hc] at h
              have hrun := callE_ok hT hX (hF g e he) hargs h (fun e w' => match e with | .returned v => next (a.put o.dst v) w' | .panicked ch => Q (.panic ch) a w' | .outgrown => LetsOut Q)
                (fun v y Y k1 k2 k3 k4 => put k1 k2 k3 k4)
              have harr : (cl.args.toList.map a.eval ++ xs.toList).toArray = cl.args.map a.eval ++ xs := by
                apply Array.ext'; simp
              rw [harr] at hrun
              unfold Runs at hrun
              have hex : (execOp a.eval o).run P X.w = (callFunc g (cl.args.map a.eval ++ xs)).run P X.w := by
                simp [execOp, hop, resolve, hcal, hx, Deferred.ofValue, invoke]
              unfold Oper.wp
              rw [hex]
              cases hr : (callFunc g (cl.args.map a.eval ++ xs)).run P X.w with
              | halt => rw [hr] at hrun; exact hrun.elim
              | ok nx w' =>
                rw [hr] at hrun
                cases nx with
                | value y => exact hrun
                | enter f as =>
                  rw [Oper.upon_enter]
                  exact Calls.mono hrun (fun e w'' he => by cases e <;> exact he)
                | _ => exact hrun.elim
            · exact (all_fail h).elim
          · exact (all_fail h).elim
        · exact (all_fail h).elim
      | _ => rw [hop] at hfn; cases hfn
    · obtain ⟨v, Y, y, h1, h2, h3, h4, h5⟩ := eff_ok hT hc hX hA.op (by simpa using hfn) h
      unfold Oper.wp
      rcases h5 with h5 | ⟨h5, rfl⟩
      · rw [h5]; exact put h1 h2 h3 h4
      · rw [h5]; exact put h1 h2 h3 h4
end
end Go.VM

namespace Go.VM
section
variable {P : Program} {T : Tab} {β : Type} {PP : β → Prop}

/-- what v meant in X, v' means in Y -/
def Keep (P : Program) (T : Tab) (X Y : Rx) (v v' : V) : Prop :=
  (∀ cs, RelF P T X v cs → RelF P T Y v' cs) ∧ (∀ t, tagShape T t v → tagShape T t v') ∧ (∀ x, aggOk v x → aggOk v' x) ∧ (v = .junk → v' = .junk)
def KeepL (P : Program) (T : Tab) (X Y : Rx) : List V → List V → Prop
  | [], [] => True
  | v :: l, v' :: l' => Keep P T X Y v v' ∧ KeepL P T X Y l l'
  | _, _ => False
theorem Keep.of_ext {X Y : Rx} (h : Ext X Y) (v : V) : Keep P T X Y v v := ⟨fun _ hr => relF_mono h hr, fun _ h => h, fun _ h => h, fun h => h⟩
theorem Keep.mono {X Y Z : Rx} {v v' : V} (h : Keep P T X Y v v') (hE : Ext Y Z) : Keep P T X Z v v' := ⟨fun cs hr => relF_mono hE (h.1 cs hr), h.2⟩
theorem Keep.pre {X Y Z : Rx} {v v' : V} (hE : Ext X Y) (h : Keep P T Y Z v v') : Keep P T X Z v v' := ⟨fun cs hr => h.1 cs (relF_mono hE hr), h.2⟩
theorem KeepL.of_ext {X Y : Rx} (h : Ext X Y) : ∀ (l : List V), KeepL P T X Y l l
  | [] => trivial
  | v :: l => ⟨Keep.of_ext h v, KeepL.of_ext h l⟩
theorem KeepL.pre {X Y Z : Rx} (hE : Ext X Y) : ∀ {l l' : List V}, KeepL P T Y Z l l' → KeepL P T X Z l l'
  | [], [], _ => trivial
  | _ :: _, _ :: _, h => ⟨Keep.pre hE h.1, KeepL.pre hE h.2⟩
theorem KeepL.mono {X Y Z : Rx} (hE : Ext Y Z) : ∀ {l l' : List V}, KeepL P T X Y l l' → KeepL P T X Z l l'
  | [], [], _ => trivial
  | _ :: _, _ :: _, h => ⟨h.1.mono hE, KeepL.mono hE h.2⟩
theorem Keep.rel {X Y : Rx} {v v' : V} (h : Keep P T X Y v v') {x : Value} (hr : Rel P T X v x) : Rel P T Y v' x := by
  rcases hr with h1 | ⟨h1, h2⟩
  · exact .inl (h.2.2.2 h1)
  · exact .inr ⟨h.2.2.1 x h1, h.1 _ h2⟩
theorem KeepL.relVs {X Y : Rx} : ∀ {l l' : List V} {xs : List Value}, KeepL P T X Y l l' → RelVs P T X l xs → RelVs P T Y l' xs
  | [], [], xs, _, hr => by rw [relVs_nil.1 hr]; exact relVs_nil.2 rfl
  | v :: l, v' :: l', xs, h, hr => by
    obtain ⟨x, xs', rfl, h1, h2⟩ := relVs_cons.1 hr
    exact relVs_cons.2 ⟨x, xs', rfl, h.1.rel h1, KeepL.relVs h.2 h2⟩
theorem KeepL.relFs {X Y : Rx} : ∀ {l l' : List V} {fs : List Nat} {cs : List Value}, KeepL P T X Y l l' → RelFs P T X l fs cs → RelFs P T Y l' fs cs
  | [], [], fs, cs, _, hr => by simpa [RelFs] using hr
  | v :: l, v' :: l', fs, cs, h, hr => by
    simp only [RelFs] at hr ⊢
    obtain ⟨t, fs', c1, c2, rfl, rfl, h1, h2, h3, h4⟩ := hr
    exact ⟨t, fs', c1, c2, rfl, rfl, h.1.2.1 t h1, h2, h.1.1 _ h3, KeepL.relFs h.2 h4⟩
theorem KeepL.getD {X Y : Rx} : ∀ {l l' : List V} (i : Nat), KeepL P T X Y l l' → ∀ {x : Value}, Rel P T X (l.getD i .junk) x → Rel P T Y (l'.getD i .junk) x
  | [], [], i, _, x, _ => by simp; exact rel_junk
  | v :: l, v' :: l', 0, h, x, hr => by simpa using h.1.rel (by simpa using hr)
  | v :: l, v' :: l', i + 1, h, x, hr => by simpa using KeepL.getD i h.2 (by simpa using hr)

theorem nil_row {X : Rx} (_ : TabOk P T) (hX : RInv P T X) {e : Nat} {d : TyD} (hd : find e T = some d) :
    RInv P T ⟨X.w, X.G ++ [.row e 0 (constF .junk)], X.ρ ++ [none], X.S⟩ ∧ Step X ⟨X.w, X.G ++ [.row e 0 (constF .junk)], X.ρ ++ [none], X.S⟩ := by
  refine new_ok hX (ro := none) (b' := none) (w' := X.w) (fun r h => by cases h) rfl rfl rfl (Nat.le_refl _) (fun _ _ _ => rfl) (fun _ => Nat.le_refl _) (fun k h => by cases h) ?_
  intro Y hY hE hb hr
  unfold RegOk
  rw [hr]
  exact ⟨⟨d, hd⟩, fun i hi => absurd hi (by omega), .inl ⟨hb, rfl⟩⟩

def Same (X Y : Rx) : Prop := Y.w = X.w ∧ X.G.length ≤ Y.G.length ∧ ∀ r, r < X.G.length → Y.reg r = X.reg r ∧ Y.blk r = X.blk r
theorem Same.refl (X : Rx) : Same X X := ⟨rfl, Nat.le_refl _, fun _ _ => ⟨rfl, rfl⟩⟩
theorem Same.trans {X Y Z : Rx} (h : Same X Y) (h' : Same Y Z) : Same X Z :=
  ⟨h'.1.trans h.1, Nat.le_trans h.2.1 h'.2.1, fun r hr => ⟨(h'.2.2 r (Nat.lt_of_lt_of_le hr h.2.1)).1.trans (h.2.2 r hr).1, (h'.2.2 r (Nat.lt_of_lt_of_le hr h.2.1)).2.trans (h.2.2 r hr).2⟩⟩
def DenilOK (P : Program) (T : Tab) {β : Type} (PP : β → Prop) (X : Rx) (v : V) (h : (V → List Reg → R β) → R β) : Prop :=
  ∀ K, All PP (h K) → ∃ v' Y, All PP (K v' Y.G) ∧ RInv P T Y ∧ Step X Y ∧ Same X Y ∧ Keep P T X Y v v'
def DenilsOK (P : Program) (T : Tab) {β : Type} (PP : β → Prop) (X : Rx) (l : List V) (h : (List V → List Reg → R β) → R β) : Prop :=
  ∀ K, All PP (h K) → ∃ l' Y, All PP (K l' Y.G) ∧ RInv P T Y ∧ Step X Y ∧ Same X Y ∧ KeepL P T X Y l l'

theorem denil_all (hT : TabOk P T) (w : List Nat) : (∀ (v : V) (b : Bool) (t : Nat) (X : Rx), RInv P T X → DenilOK P T PP X v (denilV w b T v t X.G)) ∧
    (∀ (l : List V) (b : Bool) (fs : List Nat) (X : Rx), RInv P T X → DenilsOK P T PP X l (denilVs w b T l fs X.G)) := by
  have same : ∀ (v : V) (X : Rx), RInv P T X → ∀ K : V → List Reg → R β, All PP (K v X.G) → ∃ v' Y, All PP (K v' Y.G) ∧ RInv P T Y ∧ Step X Y ∧ Same X Y ∧ Keep P T X Y v v' :=
    fun v X hX K h => ⟨v, X, h, hX, Step.refl X, Same.refl X, Keep.of_ext (Ext.refl X) v⟩
  apply V.ind (M := fun v => ∀ (b : Bool) (t : Nat) (X : Rx), RInv P T X → DenilOK P T PP X v (denilV w b T v t X.G)) (L := fun l => ∀ (b : Bool) (fs : List Nat) (X : Rx), RInv P T X → DenilsOK P T PP X l (denilVs w b T l fs X.G))
  case nils =>
    intro b t X hX K h
    simp only [denilV] at h
    split at h
    · rename_i e he
      split at h
      · rename_i d hd
        cases b with
        | true =>
          refine ⟨.view e 0 (constF .junk), X, h, hX, Step.refl X, Same.refl X, fun cs hr => ?_, fun t ht => ht, fun x hx => hx, fun hj => by cases hj⟩
          simp only [RelF] at hr ⊢
          subst hr
          exact ⟨none, 0, rfl, Nat.le_refl _, fun i hi => absurd hi (by omega), fun h => absurd h (by omega)⟩
        | false =>
        obtain ⟨h1, h2⟩ := nil_row hT hX hd
        refine ⟨.sub X.G.length 0 0, _, h, h1, h2, ⟨rfl, by show _ ≤ (X.G ++ [_]).length; simp, fun r hr => ⟨by unfold Rx.reg; rw [getD_snoc, if_neg (by omega)], by show (X.ρ ++ [none]).getD r none = _; rw [blk_snoc hX, if_neg (by omega)]⟩⟩, fun cs hr => ?_, fun t ht => ht, fun x hx => hx, fun hj => by cases hj⟩
        simp only [RelF] at hr ⊢
        subst hr
        have hrg : (⟨X.w, X.G ++ [.row e 0 (constF .junk)], X.ρ ++ [none], X.S⟩ : Rx).reg X.G.length = .row e 0 (constF .junk) := by
          unfold Rx.reg; rw [getD_snoc, if_pos rfl]
        have hbl : (⟨X.w, X.G ++ [.row e 0 (constF .junk)], X.ρ ++ [none], X.S⟩ : Rx).blk X.G.length = none := by
          show (X.ρ ++ [none]).getD X.G.length none = none
          rw [blk_snoc hX, if_pos rfl]
        refine ⟨none, 0, rfl, Nat.le_refl _, fun h => absurd h (by omega), .inr ⟨e, 0, ?_, by omega, ?_⟩⟩
        · rw [hrg]; exact ⟨rfl, rfl⟩
        · rw [hbl]; exact ⟨rfl, rfl⟩
      · exact same _ X hX K h
    · exact same _ X hX K h
  case nd =>
    intro u l ih b t X hX K h
    simp only [denilV] at h
    split at h
    · rename_i fs hfs
      obtain ⟨l', Y, h1, h2, h3, h4, h5⟩ := ih _ fs X hX _ h
      refine ⟨_, Y, h1, h2, h3, h4, fun cs hr => ?_, fun t ht => ht, fun x hx => hx, fun hj => by cases hj⟩
      simp only [RelF] at hr ⊢
      obtain ⟨fs', hf, hr⟩ := hr
      exact ⟨fs', hf, h5.relFs hr⟩
    · exact same _ X hX K h
  case nil =>
    intro b fs X hX K h
    simp only [denilVs] at h
    exact ⟨[], X, h, hX, Step.refl X, Same.refl X, trivial⟩
  case cons =>
    intro v l ihv ihl b fs X hX K h
    simp only [denilVs] at h
    cases fs with
    | nil => exact ⟨v :: l, X, h, hX, Step.refl X, Same.refl X, KeepL.of_ext (Ext.refl X) _⟩
    | cons t fs =>
      simp only at h
      obtain ⟨v', Y, h1, h2, h3, h4, h5⟩ := ihv _ t X hX _ h
      obtain ⟨l', Z, k1, k2, k3, k4, k5⟩ := ihl _ fs Y h2 _ h1
      exact ⟨_, Z, k1, k2, h3.trans k3, h4.trans k4, h5.mono k3.ext, KeepL.pre h3.ext k5⟩
  all_goals (intros; intro K h; simp only [denilV] at h; exact same _ _ (by assumption) K h)

/-- a box's content may be told otherwise -/
theorem rebox_ok {X : Rx} (hX : RInv P T X) {i t : Nat} {v v' : V} (hg : X.reg i = .box t v) (hi : i < X.G.length) (hsh : tagShape T t v') (hk : ∃ b cs el, X.blk i = some b ∧ X.w.heap[b]? = some (.cells cs el (0, 0)) ∧ cs.size = sz P t ∧ RelF P T X v' cs.toList) :
    RInv P T ⟨X.w, X.G.set i (.box t v'), X.ρ, X.S⟩ ∧ Step X ⟨X.w, X.G.set i (.box t v'), X.ρ, X.S⟩ := by
  have hrg : ∀ s, (⟨X.w, X.G.set i (.box t v'), X.ρ, X.S⟩ : Rx).reg s = if s = i then .box t v' else X.reg s := by
    intro s
    unfold Rx.reg
    rw [getD_set]
    by_cases h : s = i
    · simp [h, hi]
    · simp [h]
  refine mk_ok hX (fun r => r = i) (by show X.ρ.length = (X.G.set i _).length; rw [List.length_set]; exact hX.len) (by show _ ≤ (X.G.set i _).length; rw [List.length_set]; exact Nat.le_refl _) rfl rfl rfl rfl (Nat.le_refl _) ?_ ?_ (fun _ _ _ => rfl) (fun _ => Nat.le_refl _) ?_ ?_ ?_
  · rintro r rfl
    refine ⟨hi, by rw [hg]; trivial, .inr ⟨?_, rfl⟩⟩
    rw [hrg, if_pos rfl, hg]; rfl
  · intro r hr hne
    exact ⟨by rw [hrg, if_neg hne], rfl⟩
  · intro r b hr hb hl
    rcases hr with rfl | hr
    · exact .inr ⟨r, rfl, hb⟩
    · rw [hrg, if_neg (by omega)] at hl
      exact absurd (by unfold Rx.reg; rw [List.getD_eq_getElem?_getD, List.getElem?_eq_none hr]; rfl) hl
  · intro r s b hne hr hs _ _
    have gone : ∀ r, X.G.length ≤ r → (⟨X.w, X.G.set i (.box t v'), X.ρ, X.S⟩ : Rx).reg r = .gone := by
      intro r hr
      rw [hrg, if_neg (by omega)]
      unfold Rx.reg; rw [List.getD_eq_getElem?_getD, List.getElem?_eq_none hr]; rfl
    rcases hr with rfl | hr
    · rcases hs with rfl | hs
      · exact absurd rfl hne
      · exact .inr (gone s hs)
    · exact .inl (gone r hr)
  · intro hE r hr hc
    have hr' : r < X.G.length := by
      have : r < (X.G.set i (.box t v')).length := hr
      rw [List.length_set] at this; exact this
    rcases hc with rfl | hc
    · have := hX.reg r hr'
      unfold RegOk at this ⊢
      rw [hrg, if_pos rfl]
      rw [hg] at this
      simp only at this ⊢
      obtain ⟨b, cs, el, h3, h4, h5, h6⟩ := hk
      exact ⟨this.1, hsh, b, cs, el, h3, h4, h5, relF_mono hE h6⟩
    · omega

theorem denilG_ok (hT : TabOk P T) (w : List Nat) : ∀ (n i : Nat) (X : Rx) (K : List Reg → R β), RInv P T X → All PP (denilG w T n i X.G K) → ∃ Y, All PP (K Y.G) ∧ RInv P T Y ∧ Step X Y ∧ Y.w = X.w
  | 0, i, X, K, hX, h => ⟨X, h, hX, Step.refl X, rfl⟩
  | n + 1, i, X, K, hX, h => by
    simp only [denilG] at h
    split at h
    · rename_i t v hg
      have hi : i < X.G.length := by
        rcases Nat.lt_or_ge i X.G.length with h' | h'
        · exact h'
        · rw [List.getD_eq_getElem?_getD, List.getElem?_eq_none h'] at hg; cases hg
      obtain ⟨v', Y, h1, h2, h3, h4, h5⟩ := (denil_all hT w).1 v _ t X hX _ h
      have hiY : i < Y.G.length := Nat.lt_of_lt_of_le hi h3.len
      have hreg := hX.reg i hi
      have hg' : X.reg i = .box t v := hg
      unfold RegOk at hreg
      rw [hg'] at hreg
      obtain ⟨_, e2, b, cs, el, e3, e4, e5, e6⟩ := hreg
      obtain ⟨s1, s2⟩ := h4.2.2 i hi
      obtain ⟨m1, m2⟩ := rebox_ok h2 (s1.trans hg') hiY (h5.2.1 t e2) ⟨b, cs, el, s2.trans e3, by rw [h4.1]; exact e4, e5, h5.1 _ e6⟩
      obtain ⟨Z, k1, k2, k3, k4⟩ := denilG_ok hT w n (i + 1) _ K m1 h1
      exact ⟨Z, k1, k2, (h3.trans m2).trans k3, k4.trans h4.1⟩
    · exact denilG_ok hT w n (i + 1) X K hX h
end
end Go.VM

namespace Go.VM
section
variable {P : Program} {T : Tab} {β : Type} {PP : β → Prop}

theorem dstOf_yielded {ops : Array Oper} {j d : Nat} (h : dstOf ops.toList j = some d) (tmps : Array Value) : yielded ops tmps j = match tmps[d]? with | some (.bool b) => some b | _ => none := by
  unfold dstOf at h
  have : (ops[j]?).bind (·.dst) = some d := by
    cases ho : ops[j]? with
    | none => simp [ho] at h
    | some o => simpa [ho] using h
  unfold yielded
  rw [this]
  rfl
theorem yielded_bool {ops : Array Oper} {j d : Nat} {b : Bool} {a : Act} (h : dstOf ops.toList j = some d) (hv : a.tmps.getD d undef = .bool b) : yielded ops a.tmps j = some b := by
  rw [dstOf_yielded h]
  rw [Array.getD_eq_getD_getElem?] at hv
  cases ht : a.tmps[d]? with
  | none => rw [ht] at hv; simp [undef] at hv
  | some x => rw [ht] at hv; simp at hv; simp [hv]
theorem yielded_undef {ops : Array Oper} {j d : Nat} {a : Act} (h : dstOf ops.toList j = some d) (hv : a.tmps.getD d undef = .tuple #[]) : yielded ops a.tmps j = none := by
  rw [dstOf_yielded h]
  rw [Array.getD_eq_getD_getElem?] at hv
  cases ht : a.tmps[d]? with
  | none => rfl
  | some x => rw [ht] at hv; simp at hv; simp [hv]

/-- One operation, its guard first. -/
theorem guard_ok (hT : TabOk P T) {c : Ctx} (hc : c.T = T) (hF : FnsOK P T c) {X : Rx} (hX : RInv P T X) {env : List (Nat × V)} {loc : List V} {a : Act} (hA : ActRel P T X c.keep env loc a) (hsz : a.tmps.size = c.nt)
    {ops : Array Oper} {i : Nat} {o : Oper} (ho : ops[i]? = some o) {K : List (Nat × V) → List Reg → R β} (h : All PP (guardOp c ops.toList loc o env X.G K)) {next : Act → World → Prop} {Q : Exit → Act → World → Prop}
    (hn : ∀ env' Y a', All PP (K env' Y.G) → RInv P T Y → Step X Y → ActRel P T Y c.keep env' loc a' → a'.tmps.size = c.nt → a'.defers = a.defers → next a' Y.w) : wpOp P ops Q i next a X.w := by
  unfold guardOp at h
  obtain ⟨hd, h⟩ := all_must.1 h
  rw [← hsz] at hd
  have hn' : ∀ env' Y a', All PP (K env' Y.G) → RInv P T Y → Step X Y → ActRel P T Y c.keep env' loc a' → a'.tmps.size = a.tmps.size → a'.defers = a.defers → next a' Y.w :=
    fun env' Y a' k1 k2 k3 k4 k5 k6 => hn env' Y a' k1 k2 k3 k4 (k5.trans hsz) k6
  unfold wpOp
  simp only [ho]
  have skip : ∀ env', ActRel P T X c.keep env' loc a → All PP (K (putE env' o.dst .undef) X.G) → next (a.put o.dst undef) X.w := by
    intro env' hA' hK
    exact hn' _ X _ hK hX (Step.refl X) (hA'.put hd (rel_undef.2 rfl)) (put_size _ _ _) (put_defers _ _ _)
  split at h
  · rename_i hg
    have hw : Region.wanted o (yielded ops a.tmps) = true := by simp [Region.wanted, hg]
    rw [if_pos hw]
    exact .inl (step_ok hT hc hF hX hA hd h hn')
  · rename_i j want hg
    cases hdj : dstOf ops.toList j with
    | none => simp only [hdj] at h; exact (all_fail h).elim
    | some d =>
      simp only [hdj] at h
      cases hf : find d env with
      | none => simp only [hf] at h; exact (all_fail h).elim
      | some v =>
        have hv := hA.find hf
        cases v with
        | bool b =>
          simp only [hf] at h
          rw [rel_bool] at hv
          have hy := yielded_bool hdj hv
          have hag := hA.again hf
          cases b with
          | true =>
            simp only at h
            cases want with
            | true =>
              have hw : Region.wanted o (yielded ops a.tmps) = true := by simp [Region.wanted, hg, hy]
              rw [if_pos hw]
              exact .inl (step_ok hT hc hF hX hag hd h hn')
            | false =>
              have hw : ¬ Region.wanted o (yielded ops a.tmps) = true := by simp [Region.wanted, hg, hy]
              rw [if_neg hw]
              exact skip _ hag h
          | false =>
            simp only at h
            cases want with
            | true =>
              have hw : ¬ Region.wanted o (yielded ops a.tmps) = true := by simp [Region.wanted, hg, hy]
              rw [if_neg hw]
              exact skip _ hag h
            | false =>
              have hw : Region.wanted o (yielded ops a.tmps) = true := by simp [Region.wanted, hg, hy]
              rw [if_pos hw]
              exact .inl (step_ok hT hc hF hX hag hd h hn')
        | undef =>
          simp only [hf] at h
          rw [rel_undef] at hv
          have hy := yielded_undef hdj hv
          have hw : ¬ Region.wanted o (yielded ops a.tmps) = true := by simp [Region.wanted, hg, hy]
          rw [if_neg hw]
          exact skip _ hA h
        | _ => simp only [hf] at h; exact (all_fail h).elim

/-- A region's operations in the order of the text. -/
theorem ops_ok (hT : TabOk P T) {c : Ctx} (hc : c.T = T) (hF : FnsOK P T c) {loc : List V} {ops : Array Oper} {K : List (Nat × V) → List Reg → R β} {Q : Exit → Act → World → Prop} :
    ∀ (n i : Nat) (X : Rx) (env : List (Nat × V)) (a : Act), i + n = ops.size → RInv P T X → ActRel P T X c.keep env loc a → a.tmps.size = c.nt → All PP (execOps c ops.toList loc (ops.toList.drop i) env X.G K) →
      (∀ env' Y a', All PP (K env' Y.G) → RInv P T Y → Step X Y → ActRel P T Y c.keep env' loc a' → a'.tmps.size = c.nt → a'.defers = a.defers → Q .normal a' Y.w) → wpOps P ops Q (List.range' i n) a X.w
  | 0, i, X, env, a, hi, hX, hA, hsz, h, hQ => by
    have : ops.toList.drop i = [] := by rw [List.drop_eq_nil_iff]; simp; omega
    rw [this] at h
    exact hQ env X a h hX (Step.refl X) hA hsz rfl
  | n + 1, i, X, env, a, hi, hX, hA, hsz, h, hQ => by
    have hlt : i < ops.size := by omega
    have : ops.toList.drop i = ops[i] :: ops.toList.drop (i + 1) := by
      rw [List.drop_eq_getElem_cons (by simpa using hlt)]; simp
    rw [this] at h
    unfold execOps at h
    rw [List.range'_succ, wpOps_cons]
    refine guard_ok hT hc hF hX hA hsz (Array.getElem?_eq_getElem hlt) h ?_
    intro env' Y a' k1 k2 k3 k4 k5 k6
    exact ops_ok hT hc hF n (i + 1) Y env' a' (by omega) k2 k4 k5 k1 fun env'' Z a'' m1 m2 m3 m4 m5 m6 => hQ env'' Z a'' m1 m2 (k3.trans m3) m4 m5 (m6.trans k6)

theorem persist_rel {X : Rx} {keep : List Nat} {env : List (Nat × V)} {loc : List V} {a : Act} (h : ActRel P T X keep env loc a) : ActRel P T X keep [] (persist keep env loc) a := by
  intro t
  have ht := h t
  simp only [opnd, find] at ht ⊢
  cases hp : posIn keep t with
  | none => exact rel_junk
  | some i =>
    simp only [hp] at ht ⊢
    have hpos := posIn_some keep t i hp
    have key : ∀ (keep : List Nat) (loc : List V) (i : Nat), keep[i]? = some t → (persist keep env loc).getD i .junk = (if i < loc.length then (match find t env with | some w => w | none => loc.getD i .junk) else .junk) := by
      intro keep
      induction keep with
      | nil => intro loc i h; simp at h
      | cons s keep ih =>
        intro loc i h
        cases loc with
        | nil => simp [persist]
        | cons v loc =>
          cases i with
          | zero =>
            simp at h
            subst h
            simp only [persist, List.getD_cons_zero, List.length_cons, Nat.zero_lt_succ, if_true]
            cases VM.find s env <;> rfl
          | succ i =>
            simp only [persist, List.getD_cons_succ, List.length_cons]
            rw [ih loc i (by simpa using h)]
            simp
    rw [key keep loc i hpos]
    split
    · exact ht
    · exact rel_junk

/-- A region in the order of the text. -/
theorem region_ok (hT : TabOk P T) {c : Ctx} (hc : c.T = T) (hF : FnsOK P T c) {loc : List V} {id : Nat} {ops : Array Oper} {K : List (Nat × V) → List Reg → R β} {Q : Exit → Act → World → Prop} {X : Rx} {a : Act}
    (hX : RInv P T X) (hA : ActRel P T X c.keep [] loc a) (hsz : a.tmps.size = c.nt) (h : All PP (execOps c ops.toList loc ops.toList [] X.G K))
    (hQ : ∀ env' Y a', All PP (K env' Y.G) → RInv P T Y → Step X Y → ActRel P T Y c.keep env' loc a' → a'.tmps.size = c.nt → a'.defers = a.defers → Q .normal a' Y.w) : (Code.region id ops false).wp P Q a X.w := by
  refine wp_region ?_
  rw [List.range_eq_range']
  exact ops_ok hT hc hF ops.size 0 X [] a (by omega) hX hA hsz (by simpa using h) hQ
end
end Go.VM

namespace Go.VM
section
variable {P : Program} {T : Tab} {β : Type} {PP : β → Prop}

theorem headN_at : ∀ (m i : Nat) (o : List Nat), headN i m o = true → ∀ r, r < m → o[r]? = some (i + r)
  | 0, _, _, _, r, h => by omega
  | m + 1, i, [], h, _, _ => by simp [headN] at h
  | m + 1, i, s :: o, h, r, hr => by
    simp only [headN] at h
    cases hb : Nat.beq s i with
    | false => simp [hb] at h
    | true =>
      simp only [hb] at h
      cases r with
      | zero => simp [Nat.eq_of_beq_eq_true hb]
      | succ r =>
        have := headN_at m (i + 1) o h r (by omega)
        simp [this]; omega
theorem nameOk_iff {m n : Nat} {o : List Nat} (h : nameOk m n o = true) : o.Nodup ∧ (∀ r ∈ o, r < n) ∧ ∀ r, r < m → o[r]? = some r := by
  unfold nameOk at h
  split at h
  · rename_i hh
    obtain ⟨h1, h2⟩ := chkO_iff n o h
    exact ⟨h1, h2, fun r hr => by simpa using headN_at m 0 o hh r hr⟩
  · cases h

/-- names may be given anew, but for the first ones -/
theorem rename_ok (hT : TabOk P T) {X0 X : Rx} (hX : RInv P T X) (h0 : Step X0 X) {o : List Nat} (ho : nameOk X0.G.length X.G.length o = true) :
    RInv P T (calleeX X o []) ∧ Names (posIn o) X (calleeX X o []) ∧ Keeps X (calleeX X o []) ∧ Step X0 (calleeX X o []) := by
  obtain ⟨n1, n2, n3⟩ := nameOk_iff ho
  obtain ⟨c1, c2, c3, c4⟩ := callee_ok hT hX n1 n2 (l := []) (by simp)
  have hlen : (calleeX X o []).G.length = o.length := regsOf_len _ _ _
  have hle : X0.G.length ≤ o.length := by
    rcases Nat.eq_zero_or_pos X0.G.length with h | h
    · omega
    · have := n3 (X0.G.length - 1) (by omega)
      have := (List.getElem?_eq_some_iff.1 this).1
      omega
  have hget : ∀ i b, (calleeX X o []).blk i = some b → ∃ r, o[i]? = some r ∧ X.blk r = some b := by
    intro i b h
    have h : (o.map X.blk).getD i none = some b := h
    cases hr : o[i]? with
    | none => simp [hr] at h
    | some r => exact ⟨r, rfl, by simpa [hr] using h⟩
  refine ⟨c1, c2, c3, ⟨⟨fun r hr => ?_, fun b hb => ?_⟩, h0.os, h0.tape, h0.output, h0.size, by rw [hlen]; exact hle, h0.keep, fun i b h1 h2 => ?_, fun b hb => ?_⟩⟩
  · have hro := n3 r hr
    obtain ⟨k1, k2⟩ := c4 r r hro
    rcases h0.ext.reg r hr with hd | ⟨hd, e1, e2, e3⟩
    · exact .inl ⟨by rw [hlen]; omega, by rw [k1, hd.2]; rfl⟩
    · refine .inr ⟨hd, k2.trans e1, ?_, e3⟩
      rw [k1]
      exact sameKind_trans e2 (sameKind_ren (sameKind_live e2).2)
  · obtain ⟨e1, e2⟩ := h0.ext.safe b hb
    exact ⟨.inl e1, e2⟩
  · obtain ⟨r, hr, hrb⟩ := hget i b h1
    obtain ⟨k1, _⟩ := c4 i r hr
    rw [k1] at h2 ⊢
    rcases h0.own r b hrb (ren_live h2) with h | ⟨s, s1, s2, s3⟩
    · exact .inl h
    · exact .inr ⟨s, s1, s2, fun hw => s3 (writable_ren hw)⟩
  · rcases hb with hb | ⟨r, hr, _⟩
    · exact h0.sown b hb
    · cases hr

theorem rens_getD (f : Nat → Option Nat) : ∀ (l : List V) (i : Nat), (rens f l).getD i .junk = ren f (l.getD i .junk)
  | [], i => by simp [rens, ren]
  | v :: l, 0 => by simp [rens]
  | v :: l, i + 1 => by simpa [rens] using rens_getD f l i
theorem mask_getD (live : List Nat) : ∀ (keep : List Nat) (loc : List V) (i : Nat), (mask keep live loc).getD i .junk = loc.getD i .junk ∨ (mask keep live loc).getD i .junk = .junk
  | [], loc, i => by right; cases loc <;> simp [mask]
  | t :: keep, [], i => by right; simp [mask]
  | t :: keep, v :: loc, 0 => by
    simp only [mask, List.getD_cons_zero]
    split
    · exact .inl rfl
    · exact .inr rfl
  | t :: keep, v :: loc, i + 1 => by simpa [mask] using mask_getD live keep loc i

theorem act_canon (hT : TabOk P T) {X : Rx} {keep live o : List Nat} {loc : List V} {a : Act} (hN : Names (posIn o) X (calleeX X o [])) (hK : Keeps X (calleeX X o [])) (h : ActRel P T X keep [] loc a) :
    ActRel P T (calleeX X o []) keep [] (rens (posIn o) (mask keep live loc)) a := by
  intro t
  have ht := h t
  simp only [opnd, find] at ht ⊢
  cases hp : posIn keep t with
  | none => exact rel_junk
  | some i =>
    simp only [hp] at ht ⊢
    rw [rens_getD]
    rcases mask_getD live keep loc i with e | e
    · rw [e]; exact rel_via hT hN (.inl hK) ht
    · rw [e]; exact rel_junk

theorem act_canon2 (hT : TabOk P T) {X : Rx} {keep o : List Nat} {loc : List V} {a : Act} (hN : Names (posIn o) X (calleeX X o [])) (hK : Keeps X (calleeX X o [])) (h : ActRel P T X keep [] loc a) :
    ActRel P T (calleeX X o []) keep [] (rens (posIn o) loc) a := by
  intro t
  have ht := h t
  simp only [opnd, find] at ht ⊢
  cases hp : posIn keep t with
  | none => exact rel_junk
  | some i =>
    simp only [hp] at ht ⊢
    rw [rens_getD]
    exact rel_via hT hN (.inl hK) ht

/-- the regions of a code that draw their order -/
def drawnIn : Code → List (Nat × Array Oper)
  | .region id ops true => [(id, ops)]
  | .seq a b => drawnIn a ++ drawnIn b
  | .cond _ a b => drawnIn a ++ drawnIn b
  | .block _ b => drawnIn b
  | .scope b => drawnIn b
  | .loop b => drawnIn b
  | _ => []

/-- a region that draws its order is as its plan says -/
def RegionOK (P : Program) (T : Tab) (c : Ctx) (id : Nat) (ops : Array Oper) : Prop :=
  ∀ (m nt : Nat) {β : Type} {PP : β → Prop} {p : Plan} {loc : List V} {K : List (Nat × V) → List Reg → R β} {Q : Exit → Act → World → Prop} {X : Rx} {a : Act}, find id c.plan = some p → RInv P T X → ActRel P T X c.keep [] loc a → a.tmps.size = nt →
    All PP (execPlan { c with m := m, nt := nt, any := false } ops.toList loc p [] X.G K) →
    (∀ env' Y a', All PP (K env' Y.G) → RInv P T Y → Step X Y → ActRel P T Y c.keep env' loc a' → a'.tmps.size = nt → a'.defers = a.defers → Q .normal a' Y.w) → (Code.region id ops true).wp P Q a X.w

def exOf : Ex → Exit
  | .normal => .normal
  | .exit j => .exit j
  | .ret => .ret

/-- rounds, so many at the most -/
theorem wp_rounds {c : Code} {Q : Exit → Act → World → Prop} (I : Nat → Act → World → Prop) (zero : ∀ a w, ¬ I 0 a w)
    (round : ∀ n a w, I (n + 1) a w → c.wp P (Exit.then (fun a' w' => I n a' w') Q) a w) {n : Nat} {a : Act} {w : World} (h₀ : I n a w) : (Code.loop c).wp P Q a w := by
  intro b k cs
  have key : ∀ n a w, I n a w → ∃ e a' w', Q e a' w' ∧ Arrives P (lone (b.at a (.code c :: .inLoop c :: k)) cs w) b k cs e a' w' := by
    intro n
    induction n with
    | zero => intro a w h; exact absurd h (zero a w)
    | succ n ih =>
      intro a w hI
      obtain ⟨e, a₁, w₁, hq, harr⟩ := round n a w hI b (.inLoop c :: k) cs
      cases e with
      | normal =>
        obtain ⟨e₂, a₂, w₂, hq₂, harr₂⟩ := ih a₁ w₁ hq
        exact ⟨e₂, a₂, w₂, hq₂, .of_steps (Steps.trans harr (.one step_inLoop)) harr₂⟩
      | exit id => exact ⟨_, a₁, w₁, hq, .pass (x := .inLoop c) rfl (fun _ _ => .inl (by simp)) harr⟩
      | goto l => exact ⟨_, a₁, w₁, hq, .pass (x := .inLoop c) rfl (fun _ _ => .inl (by simp)) harr⟩
      | ret => exact ⟨_, a₁, w₁, hq, .pass (x := .inLoop c) rfl (fun _ _ => .inl (by simp)) harr⟩
      | panic ch => exact ⟨_, a₁, w₁, hq, .pass (x := .inLoop c) rfl (fun _ _ => .inl (by simp)) harr⟩
      | outgrown => exact ⟨_, a₁, w₁, hq, .pass (x := .inLoop c) rfl (fun _ _ => .inl (by simp)) harr⟩
  obtain ⟨e, a', w', hq, harr⟩ := key n a w h₀
  exact ⟨e, a', w', hq, .of_steps (.one step_loop) harr⟩
end
end Go.VM

namespace Go.VM
section
variable {P : Program} {T : Tab} {β : Type} {PP : β → Prop}

/-- what must stand at each point of the walk -/
structure At (P : Program) (T : Tab) (c : Ctx) (X0 : Rx) (st : St) (X : Rx) (a : Act) : Prop where
  inv : RInv P T X
  reg : X.G = st.G
  step : Step X0 X
  act : ActRel P T X c.keep [] st.loc a
  size : a.tmps.size = c.nt
  defers : a.defers = []

/-- the loops of a code, with the blocks they leave by -/
def loopsIn : Code → Nat → List (Nat × Code)
  | .seq a b, k => loopsIn a k ++ loopsIn b k
  | .cond _ a b, k => loopsIn a k ++ loopsIn b k
  | .block id b, _ => loopsIn b id
  | .scope b, k => loopsIn b k
  | .loop b, k => (k, b) :: loopsIn b k
  | _, _ => []
/-- a loop that is told by what it does does that -/
def LoopOK (c : Ctx) (nt k : Nat) (b : Code) : Prop :=
  ∀ L, find k c.loops = some L → ∀ {β : Type} {PP : β → Prop} (m : Nat) (st : St) (K : Ex → St → R β), All PP (L.run m st K (loopN (exec { c with m := m, nt := nt } b k) (canonK { c with m := m, nt := nt } k) c.N st K)) → All PP (loopN (exec { c with m := m, nt := nt } b k) (canonK { c with m := m, nt := nt } k) c.N st K)

theorem canonJ_ok (hT : TabOk P T) {w : List Nat} {c : Ctx} (hc : c.T = T) {X0 : Rx} (hm : c.m = X0.G.length) {lv : List Nat} {st : St} {X : Rx} {a : Act} {K : St → R β} (hA : At P T c X0 st X a) (h : All PP (canonJ w c lv st K)) :
    ∃ st' X', At P T c X0 st' X' a ∧ X'.w = X.w ∧ All PP (K st') := by
  unfold canonJ at h
  simp only [forceS_eq] at h
  rw [hc, ← hA.reg] at h
  obtain ⟨loc1, X1, h1, h2, h3, h4, h5⟩ := (denil_all hT _).2 _ _ _ X hA.inv _ h
  obtain ⟨X2, k1, k2, k3, k4⟩ := denilG_ok hT _ _ _ X1 _ h2 h1
  obtain ⟨hck, hK⟩ := all_must.1 k1
  rw [hm] at hck
  obtain ⟨r1, r2, r3, r4⟩ := rename_ok hT k2 ((hA.step.trans h3).trans k3) hck
  refine ⟨canonL c.m loc1 X2.G, calleeX X2 (canonO c.m loc1 X2.G) [], ⟨?_, ?_, ?_, ?_, hA.size, hA.defers⟩, ?_, hK⟩
  · rw [hm]; exact r1
  · rfl
  · rw [hm]; exact r4
  · have hact : ActRel P T X2 c.keep [] loc1 a := by
      have hma : ActRel P T X c.keep [] (mask c.keep lv st.loc) a := by
        intro t
        have ht := hA.act t
        simp only [opnd, find] at ht ⊢
        cases hp : posIn c.keep t with
        | none => exact rel_junk
        | some i =>
          simp only [hp] at ht ⊢
          rcases mask_getD lv c.keep st.loc i with e | e
          · rw [e]; exact ht
          · rw [e]; exact rel_junk
      intro t
      have ht := hma t
      simp only [opnd, find] at ht ⊢
      cases hp : posIn c.keep t with
      | none => exact rel_junk
      | some i =>
        simp only [hp] at ht ⊢
        exact rel_mono k3.ext (h5.getD i ht)
    have := act_canon2 hT r2 r3 hact
    rw [hm]
    exact this
  · show X2.w = X.w
    exact k4.trans h4.1

theorem canonK_ok (hT : TabOk P T) {c : Ctx} (hc : c.T = T) {X0 : Rx} (hm : c.m = X0.G.length) {k : Nat} {st : St} {X : Rx} {a : Act} {K : St → R β} (hA : At P T c X0 st X a) (h : All PP (canonK c k st K)) :
    ∃ st' X', At P T c X0 st' X' a ∧ X'.w = X.w ∧ All PP (K st') := canonJ_ok (w := c.vnil) hT hc hm (lv := match find k c.live with | some l => l | none => []) hA h
theorem mask_at {c : Ctx} {X0 : Rx} {st : St} {X : Rx} {a : Act} (hA : At P T c X0 st X a) (l : Option (List Nat)) : At P T c X0 (leaveK c.keep l st) X a := by
  cases l with
  | none => exact hA
  | some l =>
    refine ⟨hA.inv, hA.reg, hA.step, fun t => ?_, hA.size, hA.defers⟩
    have ht := hA.act t
    simp only [leaveK, opnd, find] at ht ⊢
    cases hp : posIn c.keep t with
    | none => exact rel_junk
    | some i =>
      simp only [hp] at ht ⊢
      rcases mask_getD l c.keep st.loc i with e | e
      · rw [e]; exact ht
      · rw [e]; exact rel_junk
/-- what follows choices, with the blocks it leaves by -/
def joinsIn : Code → Nat → List (Code × Nat)
  | .seq a b, k => (b, k) :: (joinsIn a k ++ joinsIn b k)
  | .cond _ a b, k => joinsIn a k ++ joinsIn b k
  | .block id b, _ => joinsIn b id
  | .scope b, k => joinsIn b k
  | .loop b, k => joinsIn b k
  | _, _ => []
/-- what is told of what follows a choice is so -/
def JoinOK (c : Ctx) (nt : Nat) (b : Code) (k : Nat) : Prop :=
  ∀ q, joinOf c b = some q → ∀ {β : Type} {PP : β → Prop} (m : Nat) (st : St) (K : Ex → St → R β), All PP (q.2.run m st K (exec { c with m := m, nt := nt } b k st (endK c.keep q.1.2 K))) → All PP (exec { c with m := m, nt := nt } b k st (endK c.keep q.1.2 K))

theorem exec_ok (hT : TabOk P T) {c0 : Ctx} (hc : c0.T = T) (hF : FnsOK P T c0) {X0 : Rx} {nt : Nat} : ∀ (code : Code) (k : Nat) {β : Type} {PP : β → Prop} (st : St) (K : Ex → St → R β) (X : Rx) (a : Act) (Q : Exit → Act → World → Prop),
    (∀ q ∈ drawnIn code, RegionOK P T c0 q.1 q.2) → (∀ q ∈ loopsIn code k, LoopOK c0 nt q.1 q.2) → (∀ q ∈ joinsIn code k, JoinOK c0 nt q.1 q.2) → At P T { c0 with m := X0.G.length, nt := nt } X0 st X a → All PP (exec { c0 with m := X0.G.length, nt := nt } code k st K) →
    (∀ e st' Y a', All PP (K e st') → At P T { c0 with m := X0.G.length, nt := nt } X0 st' Y a' → Q (exOf e) a' Y.w) → code.wp P Q a X.w
  | .skip, k, _, _, st, K, X, a, Q, _, _, _, hA, h, hQ => by
    unfold exec at h
    exact wp_skip (hQ .normal st X a h hA)
  | .label l, k, _, _, st, K, X, a, Q, _, _, _, hA, h, hQ => by
    unfold exec at h
    exact wp_label (hQ .normal st X a h hA)
  | .region id ops draw, k, _, PP, st, K, X, a, Q, hD, hL, hJ, hA, h, hQ => by
    unfold exec at h
    simp only [forceS_eq] at h
    have fin : ∀ env' Y a', All PP (K .normal ⟨persist c0.keep env' st.loc, Y.G⟩) → RInv P T Y → Step X Y → ActRel P T Y c0.keep env' st.loc a' → a'.tmps.size = nt → a'.defers = a.defers → Q .normal a' Y.w :=
      fun env' Y a' k1 k2 k3 k4 k5 k6 => hQ .normal _ Y a' k1 ⟨k2, rfl, hA.step.trans k3, persist_rel k4, k5, k6.trans hA.defers⟩
    cases draw with
    | true =>
      simp only at h
      split at h
      · rename_i p hp
        rw [← hA.reg] at h
        exact hD (id, ops) (by simp [drawnIn]) X0.G.length nt hp hA.inv hA.act hA.size h fin
      · exact (all_fail h).elim
    | false =>
      simp only at h
      rw [← hA.reg] at h
      exact region_ok hT (c := { c0 with m := X0.G.length, nt := nt }) hc hF hA.inv hA.act hA.size h fin
  | .seq x y, k, _, PP, st, K, X, a, Q, hD, hL, hJ, hA, h, hQ => by
    unfold exec at h
    refine wp_seq (exec_ok hT hc hF x k st _ X a _ (fun q hq => hD q (by simp [drawnIn, hq])) (fun q hq => hL q (by simp [loopsIn, hq])) (fun q hq => hJ q (by simp [joinsIn, hq])) hA h ?_)
    intro e st' Y a' hk hA'
    cases e with
    | normal =>
      have go : ∀ st1 X1, At P T { c0 with m := X0.G.length, nt := nt } X0 st1 X1 a' → All PP (exec { c0 with m := X0.G.length, nt := nt } y k st1 K) → y.wp P Q a' X1.w :=
        fun st1 X1 hA1 hk1 => exec_ok hT hc hF y k st1 K X1 a' Q (fun q hq => hD q (by simp [drawnIn, hq])) (fun q hq => hL q (by simp [loopsIn, hq])) (fun q hq => hJ q (by simp [joinsIn, hq])) hA1 hk1 hQ
      simp only at hk
      have hjo : joinOf { c0 with m := X0.G.length, nt := nt } y = joinOf c0 y := rfl
      rw [hjo] at hk
      cases hq : joinOf c0 y with
      | none => rw [hq] at hk; exact go st' Y hA' hk
      | some q =>
        rw [hq] at hk
        obtain ⟨st1, X1, hA1, hw1, h1⟩ := canonJ_ok (w := c0.vnil) hT (c := { c0 with m := X0.G.length, nt := nt }) hc rfl hA' hk
        rw [← hw1]
        have hk1 := hJ (y, k) (by simp [joinsIn]) q hq X0.G.length st1 K h1
        refine exec_ok hT hc hF y k st1 _ X1 a' Q (fun q hq => hD q (by simp [drawnIn, hq])) (fun q hq => hL q (by simp [loopsIn, hq])) (fun q hq => hJ q (by simp [joinsIn, hq])) hA1 hk1 ?_
        intro e st2 Y2 a2 hk2 hA2
        cases e with
        | normal => exact hQ .normal _ Y2 a2 hk2 (mask_at hA2 (some q.1.2))
        | exit j => exact hQ (.exit j) st2 Y2 a2 hk2 hA2
        | ret => exact hQ .ret st2 Y2 a2 hk2 hA2
    | exit j => exact hQ (.exit j) st' Y a' hk hA'
    | ret => exact hQ .ret st' Y a' hk hA'
  | .cond x y z, k, _, PP, st, K, X, a, Q, hD, hL, hJ, hA, h, hQ => by
    unfold exec at h
    have hx := hA.act.op x
    split at h
    · rename_i t hc'
      have hx : Rel P T X (.bool t) (a.eval x) := by rw [← hc']; exact hx
      rw [rel_bool] at hx
      cases t with
      | true => exact wp_cond_true hx (exec_ok hT hc hF y k st K X a Q (fun q hq => hD q (by simp [drawnIn, hq])) (fun q hq => hL q (by simp [loopsIn, hq])) (fun q hq => hJ q (by simp [joinsIn, hq])) hA h hQ)
      | false => exact wp_cond_false hx (exec_ok hT hc hF z k st K X a Q (fun q hq => hD q (by simp [drawnIn, hq])) (fun q hq => hL q (by simp [loopsIn, hq])) (fun q hq => hJ q (by simp [joinsIn, hq])) hA h hQ)
    · exact (all_fail h).elim
  | .scope x, k, _, PP, st, K, X, a, Q, hD, hL, hJ, hA, h, hQ => by
    unfold exec at h
    refine wp_scope_straight (exec_ok hT hc hF x k st K X a _ (fun q hq => hD q (by simpa [drawnIn] using hq)) (fun q hq => hL q (by simpa [loopsIn] using hq)) (fun q hq => hJ q (by simpa [joinsIn] using hq)) hA h ?_)
    intro e st' Y a' k1 k2
    have := hQ e st' Y a' k1 k2
    cases e <;> exact this
  | .block id x, k, _, PP, st, K, X, a, Q, hD, hL, hJ, hA, h, hQ => by
    unfold exec at h
    refine wp_block (exec_ok hT hc hF x id st _ X a _ (fun q hq => hD q (by simpa [drawnIn] using hq)) (fun q hq => hL q (by simpa [loopsIn] using hq)) (fun q hq => hJ q (by simpa [joinsIn] using hq)) hA h ?_)
    intro e st' Y a' hk hA'
    cases e with
    | normal => exact hQ .normal st' Y a' hk hA'
    | ret => exact hQ .ret st' Y a' hk hA'
    | exit j =>
      simp only at hk
      simp only [exOf, Exit.inBlock]
      cases hb : Nat.beq j id with
      | true =>
        rw [hb] at hk
        rw [if_pos (Nat.eq_of_beq_eq_true hb)]
        exact hQ .normal st' Y a' hk hA'
      | false =>
        rw [hb] at hk
        rw [if_neg (fun e => by rw [e, Nat.beq_refl] at hb; cases hb)]
        exact hQ (.exit j) st' Y a' hk hA'
  | .loop x, k, _, PP, st, K, X, a, Q, hD, hL, hJ, hA, h, hQ => by
    unfold exec at h
    obtain ⟨st1, X1, hA1, hw1, h1⟩ := canonK_ok hT (c := { c0 with m := X0.G.length, nt := nt }) hc rfl hA h
    have h2 : All PP (loopN (exec { c0 with m := X0.G.length, nt := nt } x k) (canonK { c0 with m := X0.G.length, nt := nt } k) c0.N st1 K) := by
      split at h1
      · rename_i L hfL
        exact hL (k, x) (by simp [loopsIn]) L hfL X0.G.length st1 K h1
      · exact h1
    rw [← hw1]
    refine wp_rounds (fun n a w => ∃ st X, At P T { c0 with m := X0.G.length, nt := nt } X0 st X a ∧ X.w = w ∧
      All PP (loopN (exec { c0 with m := X0.G.length, nt := nt } x k) (canonK { c0 with m := X0.G.length, nt := nt } k) n st K)) ?_ ?_ ⟨st1, X1, hA1, rfl, h2⟩
    · rintro a w ⟨st, X, _, _, h⟩
      exact h
    · rintro n a w ⟨st, X, hA, rfl, h⟩
      unfold loopN at h
      refine exec_ok hT hc hF x k _ _ X a _ (fun q hq => hD q (by simpa [drawnIn] using hq)) (fun q hq => hL q (by simp [loopsIn, hq])) (fun q hq => hJ q (by simp [joinsIn, hq])) hA h ?_
      intro e st' Y a' hk hA'
      cases e with
      | normal =>
        obtain ⟨st2, X2, hA2, hw2, hk2⟩ := canonK_ok hT (c := { c0 with m := X0.G.length, nt := nt }) hc rfl hA' hk
        exact ⟨st2, X2, hA2, hw2, hk2⟩
      | exit j => exact hQ (.exit j) st' Y a' hk hA'
      | ret => exact hQ .ret st' Y a' hk hA'
  | .exit j, k, _, PP, st, K, X, a, Q, _, _, _, hA, h, hQ => by
    unfold exec at h
    exact wp_exit (hQ (.exit j) _ X a h (mask_at hA _))
  | .ret, k, _, PP, st, K, X, a, Q, _, _, _, hA, h, hQ => by
    unfold exec at h
    exact wp_ret (hQ .ret _ X a h (mask_at hA _))
  | .goto _, k, _, PP, st, K, X, a, Q, _, _, _, hA, h, hQ => by unfold exec at h; exact (all_fail h).elim
  | .refuse _, k, _, PP, st, K, X, a, Q, _, _, _, hA, h, hQ => by unfold exec at h; exact (all_fail h).elim
  | .rangeFunc .., k, _, PP, st, K, X, a, Q, _, _, _, hA, h, hQ => by unfold exec at h; exact (all_fail h).elim
end
end Go.VM

namespace Go.VM
section
variable {P : Program} {T : Tab} {β : Type} {PP : β → Prop}

def resStep (tmps : Array Value) : ResultVar → Sem Value
  | .tmp t => pure (tmps.getD t undef)
  | .cell a t => do loadVar t (← asAddr (tmps.getD a undef))

theorem resV_ok (hT : TabOk P T) {X : Rx} (hX : RInv P T X) {keep : List Nat} {loc : List V} {a : Act} (hA : ActRel P T X keep [] loc a) : ∀ (l : List ResultVar) (K : List V → R β), All PP (resV T keep loc X.G l K) →
    ∃ vs xs, All PP (K vs) ∧ RelVs P T X vs xs ∧ (l.mapM (resStep a.tmps)).run P X.w = .ok xs X.w
  | [], K, h => ⟨[], [], h, relVs_nil.2 rfl, by simp⟩
  | .tmp t :: l, K, h => by
    unfold resV at h
    obtain ⟨vs, xs, h1, h2, h3⟩ := resV_ok hT hX hA l _ h
    exact ⟨_, _ :: xs, h1, relVs_cons.2 ⟨_, xs, rfl, hA t, h2⟩, by simp [List.mapM_cons, resStep, h3]⟩
  | .cell b t :: l, K, h => by
    unfold resV at h
    have hb := hA b
    split at h
    · rename_i r p u hc
      rw [hc] at hb
      obtain ⟨v, x, h1, h2, h3⟩ := load_ok (t := t) hT hX hb (K := fun v => resV T keep loc X.G l fun vs => K (v :: vs)) h
      obtain ⟨vs, xs, k1, k2, k3⟩ := resV_ok hT hX hA l _ h1
      obtain ⟨ad, had, _⟩ := rel_ptr.1 hb
      refine ⟨_, x :: xs, k1, relVs_cons.2 ⟨x, xs, rfl, h2, k2⟩, ?_⟩
      have h4 : (loadVar t ad).run P X.w = .ok x X.w := by
        rw [had] at h3
        simpa [Instr.loadAt, Instr.sureAddr] using h3
      have hr : (resStep a.tmps (.cell b t)).run P X.w = .ok x X.w := by
        simp only [resStep, had]
        simp [asAddr, h4]
      simp [List.mapM_cons, hr, k3]
    · exact (all_fail h).elim

theorem oneV_ok {X : Rx} {vs : List V} {xs : List Value} (h : RelVs P T X vs xs) : Rel P T X (oneV vs) (if h : xs.toArray.size = 1 then xs.toArray[0] else .tuple xs.toArray) := by
  cases vs with
  | nil =>
    rw [relVs_nil.1 h]
    exact rel_tup.2 ⟨#[], rfl, relVs_nil.2 rfl⟩
  | cons v vs =>
    obtain ⟨x, xs', rfl, h1, h2⟩ := relVs_cons.1 h
    cases vs with
    | nil =>
      rw [relVs_nil.1 h2]
      exact h1
    | cons v' vs =>
      obtain ⟨x', xs'', rfl, h3, h4⟩ := relVs_cons.1 h2
      have : ¬ ((x :: x' :: xs'').toArray.size = 1) := by simp
      rw [dif_neg this]
      exact rel_tup.2 ⟨_, rfl, h⟩

theorem results_run {fn : Func} {tmps : Array Value} {w : World} {xs : List Value} (h : (fn.results.toList.mapM (resStep tmps)).run P w = .ok xs w) :
    (results fn tmps).run P w = .ok (if h : xs.toArray.size = 1 then xs.toArray[0] else .tuple xs.toArray) w := by
  have e : results fn tmps = (do let vs ← fn.results.mapM (resStep tmps); pure (if h : vs.size = 1 then vs[0] else .tuple vs)) := by
    unfold results resStep
    congr 1
  rw [e, Array.mapM_eq_mapM_toList]
  simp [h]

theorem initLoc_getD (args : List V) : ∀ (keep : List Nat) (i t : Nat), keep[i]? = some t → (initLoc args keep).getD i .junk = args.getD t .junk
  | [], i, t, h => by simp at h
  | s :: keep, 0, t, h => by simp at h; subst h; rfl
  | s :: keep, i + 1, t, h => by simpa [initLoc] using initLoc_getD args keep i t (by simpa using h)
theorem relVs_len {X : Rx} : ∀ {l : List V} {xs : List Value}, RelVs P T X l xs → l.length = xs.length
  | [], xs, h => by rw [relVs_nil.1 h]; rfl
  | v :: l, xs, h => by
    obtain ⟨x, xs', rfl, _, h2⟩ := relVs_cons.1 h
    simp [relVs_len h2]

/-- A FUNCTION'S OWN WALK TELLS THE TRUTH OF IT. -/
theorem runFn_ok (hT : TabOk P T) {c : Ctx} (hc : c.T = T) (hF : FnsOK P T c) {n : Nat} {fn : Func} {code : Code} (hf : P.funcs[n]? = some fn) (hb : fn.body = some code) (hname : (fn.name == "runtime.NumGoroutine") = false)
    (hD : ∀ q ∈ drawnIn code, RegionOK P T c q.1 q.2) (hL : ∀ q ∈ loopsIn code 0, LoopOK c fn.ntmps q.1 q.2) (hJ : ∀ q ∈ joinsIn code 0, JoinOK c fn.ntmps q.1 q.2) (own : List Nat) : EntryOK P T n ⟨own, fun args G K => runFn c fn args G K⟩ := by
  intro β PP X args xs K hX hargs h Q hQ
  have hcall : (callFunc n xs.toArray).run P X.w = .ok (.enter n xs.toArray) X.w := by
    have hname' : ¬ fn.name = "runtime.NumGoroutine" := by simpa using hname
    simp [callFunc, hf, hname', hb]
  unfold Runs
  rw [hcall]
  refine calls_of_wp hf hb ?_
  have h : All PP (runFn c fn args X.G K) := h
  unfold runFn at h
  rw [hb] at h
  obtain ⟨hn, h⟩ := all_must.1 h
  have hn : args.length ≤ fn.ntmps := of_decide_eq_true hn
  have hlen := relVs_len hargs
  have hstart : At P T { c with m := X.G.length, nt := fn.ntmps } X ⟨initLoc args c.keep, X.G⟩ X { tmps := xs.toArray ++ Array.replicate (fn.ntmps - xs.toArray.size) undef, defers := [] } := by
    refine ⟨hX, rfl, Step.refl X, fun t => ?_, by simp; omega, rfl⟩
    simp only [opnd, find]
    cases hp : posIn c.keep t with
    | none => exact rel_junk
    | some i =>
      simp only
      rw [initLoc_getD args c.keep i t (posIn_some c.keep t i hp)]
      rcases Nat.lt_or_ge t args.length with ht | ht
      · obtain ⟨x, hx1, hx2⟩ := relVs_get hargs (i := t) (List.getElem?_eq_getElem ht)
        have e1 : args.getD t .junk = args[t] := by simp [ht]
        have e2 : (xs.toArray ++ Array.replicate (fn.ntmps - xs.toArray.size) undef).getD t undef = x := by
          rw [Array.getD_eq_getD_getElem?, Array.getElem?_append_left (by simp; omega)]
          simp [hx1]
        rw [e1, e2]
        exact hx2
      · rw [List.getD_eq_getElem?_getD, List.getElem?_eq_none ht]
        exact rel_junk
  refine exec_ok hT hc hF code 0 _ _ X _ _ hD hL hJ hstart h ?_
  intro e st' Y a' hk hA
  have leave : All PP (leave { c with m := X.G.length } fn st' K) → a'.defers = [] ∧ ∃ v, (results fn a'.tmps).run P Y.w = .ok v Y.w ∧ Q (.returned v) Y.w := by
    intro hl
    unfold VM.leave at hl
    simp only [forceB_eq] at hl
    simp only [hc] at hl
    rw [← hA.reg] at hl
    obtain ⟨vs, ys, k1, k2, k3⟩ := resV_ok hT hA.inv hA.act _ _ hl
    obtain ⟨vs1, Y1, d1, d2, d3, d4, d5⟩ := (denil_all hT _).2 vs _ _ Y hA.inv _ k1
    obtain ⟨Y2, e1, e2, e3, e4⟩ := denilG_ok hT _ _ _ Y1 _ d2 d1
    obtain ⟨hck, k1⟩ := all_must.1 e1
    obtain ⟨r1, r2, r3, r4⟩ := rename_ok hT e2 ((hA.step.trans d3).trans e3) hck
    refine ⟨hA.defers, _, results_run k3, ?_⟩
    have hw : (calleeX Y2 (leaveO X.G.length (oneV vs1) Y2.G) []).w = Y.w := e4.trans d4.1
    rw [← hw]
    exact hQ _ _ (calleeX Y2 _ []) k1 r1 r4 (rel_via hT r2 (.inl r3) (rel_mono e3.ext (oneV_ok (d5.relVs k2))))
  cases e with
  | normal => exact leave hk
  | ret => exact leave hk
  | exit j => exact (all_fail hk).elim
end
end Go.VM

namespace Go.VM
section
variable {P : Program} {T : Tab} {β : Type} {PP : β → Prop}

theorem buildV_congr {σ σ' : Operand → V} {fs : List Nat} {K : List V → R β} : ∀ (parts : List (Nat × Operand)) (l : List V), (∀ p ∈ parts, σ p.2 = σ' p.2) → buildV T fs σ parts l K = buildV T fs σ' parts l K
  | [], l, _ => rfl
  | (i, x) :: parts, l, h => by
    have hx : σ x = σ' x := h (i, x) (by simp)
    simp only [buildV, hx]
    cases fs[i]? with
    | none => rfl
    | some f => simp only; rw [buildV_congr parts _ (fun p hp => h p (by simp [hp]))]

/-- What an operation that leaves the regions alone comes to hangs on its operands alone. -/
theorem detOp_congr {σ σ' : Operand → V} {G : List Reg} {op : Op} {K : V → R β} (h : ∀ x ∈ op.operands, σ x = σ' x) : detOp T σ G op K = detOp T σ' G op K := by
  cases op <;> simp only [Op.operands] at h <;> simp only [detOp]
  case build t ps =>
    have hp : ∀ p ∈ ps.toList, σ p.2 = σ' p.2 := fun p hp => h p.2 (by simpa using ⟨p.1, by simpa using hp⟩)
    cases find t T with
    | none => rfl
    | some d =>
      cases d <;> cases T.zero t <;> first | rfl | (simp only [buildV_congr ps.toList _ hp])
  case makeFunc fn first cap =>
    have hm : cap.toList.map σ = cap.toList.map σ' := List.map_congr_left fun x hx => h x (by simp; right; simpa using hx)
    rw [hm]
  case call c =>
    cases hc : c.callee with
    | builtin b =>
      simp only
      have hargs : ∀ x ∈ c.args.toList, σ x = σ' x := fun x hx => h x (by simp only [Call.operands, Array.mem_append]; first | exact .inr (by simpa using hx) | exact .inl (by simpa using hx))
      generalize c.args.toList = xs at hargs
      unfold detCall
      cases b <;> first | rfl | skip
      all_goals
        cases xs with
        | nil => rfl
        | cons x xs =>
          have h1 := hargs x (by simp)
          cases xs with
          | nil =>
            generalize c.argTypes.toList = ts
            rcases ts with _ | ⟨t, _ | ⟨u, ts⟩⟩ <;> first | rfl | (simp only [h1])
          | cons y xs =>
            have h2 := hargs y (by simp)
            cases xs with
            | nil => first | rfl | (simp only [h1, h2])
            | cons z xs => rfl
    | _ => rfl
  case slice t x lo hi mx =>
    have h1 : σ x = σ' x := h x (by simp)
    have h2 : lo.map σ = lo.map σ' := by cases lo <;> simp_all
    have h3 : hi.map σ = hi.map σ' := by cases hi <;> simp_all
    have h4 : mx.map σ = mx.map σ' := by cases mx <;> simp_all
    rw [h1, h2, h3, h4]
  all_goals (first | rfl | (simp_all; done))
end
end Go.VM

namespace Go.VM
section
variable {T : Tab} {β : Type}

/-- regions that weren't touched are as they were, or frozen -/
def Agree (ts : List Nat) (G G' : List Reg) : Prop := ∀ r, r ∉ ts → r < G.length → G'.getD r .gone = G.getD r .gone ∨ G'.getD r .gone = (G.getD r .gone).freeze

open Classical in
noncomputable def KA (ts : List Nat) (G : List Reg) (K : V → List Reg → R β) : V → List Reg → R β := fun v G' => if Agree ts G G' then K v G' else .fail
theorem KA_at {ts : List Nat} {G G' : List Reg} {K : V → List Reg → R β} {v : V} (h : Agree ts G G') : KA ts G K v G' = K v G' := if_pos h

theorem agree_refl (ts : List Nat) (G : List Reg) : Agree ts G G := fun _ _ _ => .inl rfl
theorem agree_freeze (ts : List Nat) (G : List Reg) (l : List Nat) : Agree ts G (freezeAll G l) := by
  intro r _ _
  rw [freezeAll_getD]
  split
  · exact .inr rfl
  · exact .inl rfl
theorem Agree.set {ts : List Nat} {G G' : List Reg} (h : Agree ts G G') {r : Nat} {g : Reg} (hr : r ∈ ts) : Agree ts G (G'.set r g) := by
  intro s hs hl
  rw [getD_set, if_neg (fun e => hs (by rw [e.1]; exact hr))]
  exact h s hs hl
theorem Agree.snoc {ts : List Nat} {G G' : List Reg} (h : Agree ts G G') (hlen : G'.length = G.length) (g : Reg) : Agree ts G (G' ++ [g]) := by
  intro s hs hl
  rw [getD_snoc, if_neg (by omega)]
  exact h s hs hl
theorem visit_ptr {r t : Nat} {p : List Nat} : r ∈ visit true (.ptr r p t) [] := by simp [visit, addTo]

theorem storeR_agree {G0 G : List Reg} {ts : List Nat} {r : Nat} {p : List Nat} {x v : V} {K : V → List Reg → R β} (h : Agree ts G0 G) (hr : r ∈ ts) :
    storeR T G r p x (K v) = storeR T G r p x (KA ts G0 K v) := by
  unfold storeR
  cases G.getD r .gone with
  | box t w => simp only; rw [KA_at (h.set hr)]
  | row e n f =>
    cases p with
    | nil => rfl
    | cons i p => simp only; rw [KA_at (h.set hr)]
  | _ => rfl

theorem visits_mono_all (b : Bool) : (∀ v o r, r ∈ o → r ∈ visit b v o) ∧ (∀ l o r, r ∈ o → r ∈ visits b l o) := by
  apply V.ind (M := fun v => ∀ o r, r ∈ o → r ∈ visit b v o) (L := fun l => ∀ o r, r ∈ o → r ∈ visits b l o)
  case ptr => intro s p t o r h; simp only [visit]; exact mem_addTo o h
  case it => intro s o r h; simp only [visit]; exact mem_addTo o h
  case mp => intro s o r h; simp only [visit]; exact mem_addTo o h
  case sub =>
    intro s off n o r h
    simp only [visit]
    cases b
    · exact h
    · exact mem_addTo o h
  case fn => intro g l ih o r h; simp only [visit]; exact ih o r h
  case nd => intro g l ih o r h; simp only [visit]; exact ih o r h
  case tup => intro l ih o r h; simp only [visit]; exact ih o r h
  case cons => intro v l ihv ihl o r h; simp only [visits]; exact ihl _ r (ihv o r h)
  all_goals intros; simpa only [visit, visits]

theorem litParts_agree {G0 : List Reg} {ts : List Nat} {σ : Operand → V} {G : List Reg} {e : Nat} {F : List V → V} {H : List V → List Reg} {K : V → List Reg → R β} (h : ∀ es, Agree ts G0 (H es)) :
    ∀ (parts : List (Nat × Operand)) (es : List V), litParts σ T G e parts es (fun es => K (F es) (H es)) = litParts σ T G e parts es (fun es => KA ts G0 K (F es) (H es))
  | [], es => by simp only [litParts]; rw [KA_at (h es)]
  | (i, x) :: parts, es => by simp only [litParts]; rw [litParts_agree h parts]

theorem contentV_congr {G : List Reg} {e : Nat} {x : V} {K K' : Nat → (Nat → V) → R β} (h : ∀ n f, K n f = K' n f) : contentV T G e x K = contentV T G e x K' := by
  have : K = K' := by funext n f; exact h n f
  rw [this]

theorem callE_agree {e : Entry} {args : List V} {G : List Reg} {K : V → List Reg → R β} : callE T e args G K = callE T e args G (KA (handed e args G) G K) := by
  unfold callE
  simp only [forceS_eq, forceB_eq]
  cases hc : chkO G.length (handed e args G) with
  | false => rfl
  | true =>
    simp only [must]
    congr 1
    funext v G2
    rw [KA_at]
    intro r hr hl
    rw [afterCall_eq, List.getD_eq_getElem?_getD, List.getElem?_append_left (by rw [setAll_len, freezeAll_len]; exact hl), ← List.getD_eq_getElem?_getD, setAll_other _ _ _ r hr]
    exact agree_freeze _ G _ r hr hl
end
end Go.VM

namespace Go.VM
section
variable {β : Type}

theorem mem_visits_head {v : V} {l : List V} {r : Nat} (h : r ∈ visit true v []) : r ∈ visits true (v :: l) [] := by
  simp only [visits]; exact (visits_mono_all true).2 l _ r h
theorem visit_sub {r off n : Nat} : r ∈ visit true (.sub r off n) [] := by simp [visit, addTo]

theorem append_agree {T : Tab} {t : Nat} {s x : V} {G : List Reg} {ts : List Nat} {K : V → List Reg → R β} (h : ∀ r off n, s = .sub r off n → r ∈ ts) : appendE T t s x G K = appendE T t s x G (KA ts G K) := by
  unfold appendE
  cases find t T with
  | none => rfl
  | some d =>
    cases d <;> first | rfl | skip
    simp only
    refine contentV_congr fun m g => ?_
    cases s with
    | nils => simp only; rw [KA_at ((agree_refl _ G).snoc rfl _)]
    | sub r off n =>
      simp only
      cases off with
      | zero =>
        cases G.getD r .gone <;> first | rfl | skip
        simp only
        rw [KA_at (((agree_refl _ G).set (h r 0 n rfl)).snoc (by simp) _)]
      | succ o => rfl
    | _ => rfl

theorem visit_mp {r : Nat} : r ∈ visit true (.mp r) [] := by simp [visit, addTo]
/-- What an operation did not touch is as it was, or frozen. -/
theorem eff_agree (c : Ctx) (σ : Operand → V) (G : List Reg) (op : Op) (K : V → List Reg → R β) : effOp c σ G op K = effOp c σ G op (KA (touches c σ G op) G K) := by
  cases op with
  | store t a x =>
    simp only [effOp, touches]
    cases hs : σ a with
    | ptr r p u =>
      simp only
      have hr : r ∈ visit true (.ptr r p u) [] := visit_ptr
      have e1 := storeR_agree (T := c.T) (p := p) (x := σ x) (v := .undef) (K := K) (agree_refl (visit true (.ptr r p u) []) G) hr
      have e2 := storeR_agree (T := c.T) (p := p) (x := escV c.T G (σ x)) (v := .undef) (K := K) (agree_freeze (visit true (.ptr r p u) []) G (lent [] (σ x) [])) hr
      congr 1
      cases G.getD r .gone <;> first | exact e1 | exact e2
    | _ => rfl
  | box t x => simp only [effOp]; rw [KA_at ((agree_refl _ G).snoc rfl _)]
  | alloc t =>
    simp only [effOp]
    cases find t c.T with
    | none => rfl
    | some d => simp only; rw [KA_at ((agree_refl _ G).snoc rfl _)]
  | buildSlice t n parts =>
    simp only [effOp, forceVs_eq]
    cases find t c.T with
    | none => rfl
    | some d =>
      cases d <;> first | rfl | skip
      simp only
      congr 2
      exact litParts_agree (H := fun es => freezeAll G (litG σ parts.toList []) ++ [_]) (fun es => (agree_freeze _ G _).snoc (freezeAll_len _ _) _) parts.toList _
  | makeMap t res =>
    simp only [effOp]
    cases find t c.T with
    | none => rfl
    | some d =>
      cases d <;> first | rfl | skip
      have hk : KA (touches c σ G (.makeMap t res)) G K (.mp G.length) (G ++ [.map t 0 []]) = K (.mp G.length) (G ++ [.map t 0 []]) := KA_at ((agree_refl _ G).snoc rfl _)
      simp only [hk]
  | lookup t x ix ok =>
    simp only [effOp]
    have hk : ∀ v, KA (touches c σ G (.lookup t x ix ok)) G K v G = K v G := fun v => KA_at (agree_refl _ G)
    simp only [hk]
  | mapUpdate t m k x =>
    simp only [effOp]
    cases find t c.T with
    | none => rfl
    | some d =>
      cases d <;> first | rfl | skip
      simp only
      congr 1
      cases hm : σ m with
      | mp r =>
        have hr : r ∈ touches c σ G (.mapUpdate t m k x) := by
          simp only [touches, hm]
          exact visit_mp
        have hk : ∀ u n l, KA (touches c σ G (.mapUpdate t m k x)) G K .undef ((escG G (σ x)).set r (.map u n l)) = K .undef ((escG G (σ x)).set r (.map u n l)) := fun u n l => KA_at ((agree_freeze _ G (lent [] (σ x) [])).set hr)
        simp only [hk]
      | _ => rfl
  | range t x =>
    simp only [effOp]
    have hk : ∀ m n, KA (touches c σ G (.range t x)) G K (.it G.length) (G ++ [.iter m n n []]) = K (.it G.length) (G ++ [.iter m n n []]) := fun m n => KA_at ((agree_refl _ G).snoc rfl _)
    simp only [hk]
  | next x str =>
    simp only [effOp]
    cases str with
    | true => rfl
    | false =>
      simp only
      cases hm : σ x with
      | it r =>
        have hr : r ∈ touches c σ G (.next x false) := by
          simp only [touches, hm]
          simp [visit, addTo]
        have hk : ∀ v m a n s, KA (touches c σ G (.next x false)) G K v (G.set r (.iter m a n s)) = K v (G.set r (.iter m a n s)) := fun v m a n s => KA_at ((agree_refl _ G).set hr)
        have hk2 : ∀ v, KA (touches c σ G (.next x false)) G K v G = K v G := fun v => KA_at (agree_refl _ G)
        simp only [hk, hk2]
      | _ => rfl
  | entry x =>
    simp only [effOp]
    have hk : ∀ v, KA (touches c σ G (.entry x)) G K v G = K v G := fun v => KA_at (agree_refl _ G)
    simp only [hk]
  | makeSlice t l cp =>
    simp only [effOp]
    split
    · rw [KA_at ((agree_refl _ G).snoc rfl _)]
    · rfl
  | call cl =>
    simp only [effOp]
    cases hc : cl.callee with
    | builtin b =>
      simp only [touches, hc]
      generalize cl.argTypes.toList = ts
      generalize cl.args.toList = xs
      unfold effCall
      cases b <;> first | rfl | skip
      · -- append
        rcases xs with _ | ⟨s, _ | ⟨x, _ | ⟨y, xs⟩⟩⟩ <;> first | rfl | skip
        rcases ts with _ | ⟨t, _ | ⟨u, _ | ⟨y, ts⟩⟩⟩ <;> first | rfl | skip
        simp only [List.map_cons, List.map_nil]
        congr 1
        exact append_agree fun r off n hs => by rw [hs]; exact mem_visits_head visit_sub
      · -- clear
        rcases xs with _ | ⟨s, _ | ⟨x, xs⟩⟩ <;> first | rfl | skip
        rcases ts with _ | ⟨t, _ | ⟨u, ts⟩⟩ <;> first | rfl | skip
        simp only [List.map_cons, List.map_nil]
        congr 1
        have hm : ∀ r off n, σ s = .sub r off n → r ∈ visits true [σ s] [] := fun r off n hs => by rw [hs]; exact mem_visits_head visit_sub
        generalize visits true [σ s] [] = vs at hm
        cases hs : σ s with
        | sub r off n =>
          cases find t c.T with
          | none => rfl
          | some d =>
            cases d <;> first | rfl | skip
            simp only
            cases G.getD r .gone <;> first | rfl | skip
            simp only
            rw [KA_at ((agree_refl _ G).set (hm r off n hs))]
        | nils => cases find t c.T <;> (simp only; rw [KA_at (agree_refl _ G)])
        | _ => rfl
      · -- copy
        rcases xs with _ | ⟨d, _ | ⟨s, _ | ⟨y, xs⟩⟩⟩ <;> first | rfl | skip
        rcases ts with _ | ⟨t, ts⟩ <;> first | rfl | skip
        simp only [List.map_cons, List.map_nil]
        cases find t c.T with
        | none => rfl
        | some dt =>
          cases dt <;> first | rfl | skip
          simp only
          refine contentV_congr fun m g => ?_
          have hm : ∀ r off n, σ d = .sub r off n → r ∈ visits true [σ d, σ s] [] := fun r off n hs => by rw [hs]; exact mem_visits_head visit_sub
          generalize visits true [σ d, σ s] [] = vs at hm
          cases hs : σ d with
          | nils => simp only; rw [KA_at (agree_refl _ G)]
          | sub r off n =>
            have hk : ∀ v g, KA vs G K v (G.set r g) = K v (G.set r g) := fun v g => KA_at ((agree_refl _ G).set (hm r off n hs))
            simp only [hk]
          | _ => rfl
      · -- delete
        rcases xs with _ | ⟨m, _ | ⟨k, _ | ⟨y, xs⟩⟩⟩ <;> first | rfl | skip
        rcases ts with _ | ⟨t, ts⟩ <;> first | rfl | skip
        simp only [List.map_cons, List.map_nil]
        cases find t c.T with
        | none => rfl
        | some d =>
          cases d <;> first | rfl | skip
          simp only
          congr 1
          have hm : ∀ r, σ m = .mp r → r ∈ visits true [σ m, σ k] [] := fun r hs => by rw [hs]; exact mem_visits_head visit_mp
          generalize visits true [σ m, σ k] [] = vs at hm
          cases hs : σ m with
          | nilm => simp only; rw [KA_at (agree_refl _ G)]
          | mp r =>
            have hk : ∀ u n l, KA vs G K .undef (G.set r (.map u n l)) = K .undef (G.set r (.map u n l)) := fun u n l => KA_at ((agree_refl _ G).set (hm r hs))
            simp only [hk]
          | _ => rfl
    | value f =>
      simp only [touches, hc]
      cases hs : σ f with
      | fn g cap =>
        simp only
        cases find g c.fns with
        | none => rfl
        | some e => exact callE_agree
      | _ => rfl
    | invoke => rfl
  | _ => rfl
end
end Go.VM

namespace Go.VM
section
variable {T : Tab} {β : Type}

def bindR {α β : Type} : R α → (α → R β) → R β
  | .ret a, K => K a
  | .fail, _ => .fail
  | .next p k o, K => .next p (fun v => bindR (k v) K) (bindR o K)

theorem must_bind {α : Type} {b : Bool} {k : R α} {K : α → R β} : bindR (must b k) K = must b (bindR k K) := by cases b <;> rfl
theorem intBin_bind {op : BinOp} {k : IntKind} {a b : Int} {K : V → R β} : intBin op k a b K = bindR (intBin op k a b .ret) K := by
  cases op <;> simp only [intBin, must_bind, bindR]
theorem shiftV_bind {op : BinOp} {k : IntKind} {a b : Int} {K : V → R β} : shiftV op k a b K = bindR (shiftV op k a b .ret) K := by
  cases op <;> simp only [shiftV, must_bind, bindR]
theorem lenV_bind {t : Nat} {x : V} {K : Nat → R β} : lenV T t x K = bindR (lenV T t x .ret) K := by
  unfold lenV
  cases find t T with
  | none => rfl
  | some d => cases d <;> cases x <;> first | rfl | (simp only; split <;> rfl)
theorem loadR_bind {G : List Reg} {r : Nat} {p : List Nat} {K : V → R β} : loadR T G r p K = bindR (loadR T G r p .ret) K := by
  unfold loadR
  cases G.getD r .gone <;> cases p <;> rfl
end
end Go.VM
namespace Go.VM
section
variable {T : Tab} {β : Type}
theorem unV_bind {op : UnOp} {x : V} {K : V → R β} : unV op x K = bindR (unV op x .ret) K := by
  cases x <;> first | rfl | (cases op <;> rfl)
theorem buildV_bind {fs : List Nat} {σ : Operand → V} {K : List V → R β} : ∀ (ps : List (Nat × Operand)) (z : List V), buildV T fs σ ps z K = bindR (buildV T fs σ ps z .ret) K
  | [], z => rfl
  | (i, x) :: ps, z => by
    simp only [buildV]
    cases fs[i]? with
    | none => rfl
    | some f => simp only [must_bind]; rw [buildV_bind ps]
theorem nilCmp_bind {t : Nat} {x : V} {neg : Bool} {K : V → R β} : nilCmp T t x neg K = bindR (nilCmp T t x neg .ret) K := by
  unfold nilCmp
  cases find t T with
  | none => rfl
  | some d => cases d <;> cases x <;> first | rfl | simp only [must_bind, bindR]
theorem eqAsk_bind {t : Nat} {b : Bool} {x y : V} {neg : Bool} {K : V → R β} : eqAsk T t b x y neg K = bindR (eqAsk T t b x y neg .ret) K := by
  unfold eqAsk
  split
  · split <;> rfl
  · simp only [must_bind, bindR]
theorem sliceGo_bind {G : List Reg} {t l h : Nat} {x : V} {K : V → R β} : sliceGo T G t x l h K = bindR (sliceGo T G t x l h .ret) K := by
  unfold sliceGo
  cases find t T with
  | none => rfl
  | some d => cases d <;> cases x <;> first | rfl | simp only [must_bind, bindR]
theorem indexAddrV_bind {G : List Reg} {t : Nat} {x ix : V} {K : V → R β} : indexAddrV T G t x ix K = bindR (indexAddrV T G t x ix .ret) K := by
  unfold indexAddrV
  cases ix <;> first | rfl | skip
  cases find t T with
  | none => rfl
  | some d =>
    cases d <;> cases x <;> first | rfl | simp only [must_bind, bindR] | skip
    rename_i v
    cases v <;> first | rfl | simp only [must_bind, bindR]
end
end Go.VM
namespace Go.VM
section
variable {T : Tab} {β : Type}
theorem bindR_ret {α : Type} (v : α) (K : α → R β) : bindR (.ret v) K = K v := rfl
theorem binV_bind {t : Nat} {op : BinOp} {b : Bool} {x y : V} {K : V → R β} : binV T t op b x y K = bindR (binV T t op b x y .ret) K := by
  unfold binV
  split
  · split
    · split
      · exact shiftV_bind
      · rw [must_bind, intBin_bind]
    · rfl
  · split
    · split
      · exact nilCmp_bind
      · exact eqAsk_bind
    · split
      · exact nilCmp_bind
      · exact eqAsk_bind
    · rfl
theorem sliceHi_bind {α : Type} {n : Nat} {hi mx : Option V} {k : Nat → R α} {K : α → R β} : bindR (sliceHi n hi mx k) K = sliceHi n hi mx (fun h => bindR (k h) K) := by
  unfold sliceHi
  split
  · split
    · rw [must_bind]
    · rfl
  · split
    · split
      · rw [must_bind]
      · rfl
    · rfl
theorem lenV_bind' {α : Type} {t : Nat} {x : V} {k : Nat → R α} {K : α → R β} : bindR (lenV T t x k) K = lenV T t x (fun h => bindR (k h) K) := by
  unfold lenV
  cases find t T with
  | none => rfl
  | some d => cases d <;> cases x <;> first | rfl | (simp only; split <;> rfl)
theorem mlenV_bind' {α : Type} {t : Nat} {G : List Reg} {x : V} {k : Nat → R α} {K : α → R β} : bindR (mlenV T t G x k) K = mlenV T t G x (fun h => bindR (k h) K) := by
  unfold mlenV
  split
  · split
    · split
      · rw [must_bind]
      · rfl
    · rfl
  · split <;> rfl
  · exact lenV_bind'
theorem sliceV_bind {t : Nat} {G : List Reg} {x : V} {lo hi mx : Option V} {K : V → R β} : sliceV T t G x lo hi mx K = bindR (sliceV T t G x lo hi mx .ret) K := by
  unfold sliceV
  rw [lenV_bind']
  congr 1
  funext n
  rw [sliceHi_bind]
  congr 1
  funext h
  split
  · split
    · rw [must_bind, ← sliceGo_bind]
    · rfl
  · exact sliceGo_bind
end
end Go.VM

namespace Go.VM
section
variable {T : Tab} {β : Type}
theorem buildV_bind' {α : Type} {fs : List Nat} {σ : Operand → V} {k : List V → R α} {K : α → R β} : ∀ (ps : List (Nat × Operand)) (z : List V), bindR (buildV T fs σ ps z k) K = buildV T fs σ ps z fun l => bindR (k l) K
  | [], z => rfl
  | (i, x) :: ps, z => by
    simp only [buildV]
    cases fs[i]? with
    | none => rfl
    | some f => simp only [must_bind]; rw [buildV_bind' ps]
theorem detOp_bind {σ : Operand → V} {G : List Reg} {op : Op} {K : V → R β} : detOp T σ G op K = bindR (detOp T σ G op .ret) K := by
  cases op <;> simp only [detOp]
  case pick => split <;> first | rfl | (split <;> rfl)
  case load => split <;> first | rfl | (rw [must_bind, ← loadR_bind]) | (simp only [must_bind, bindR])
  case nilCheck => split <;> rfl
  case binOp => exact binV_bind
  case unOp => exact unV_bind
  case slice => exact sliceV_bind
  case indexAddr => exact indexAddrV_bind
  all_goals first | rfl | skip
  case build =>
    split
    · rw [buildV_bind']; rfl
    · split
      · split
        · rw [buildV_bind']; rfl
        · rfl
      · split <;> rfl
    · rfl
  case call =>
    split
    · unfold detCall
      split
      · split
        · rw [mlenV_bind']; rfl
        · rfl
      · split
        · split <;> rfl
        · rfl
      · split
        · split <;> rfl
        · rfl
      · rfl
    · rfl
  case fieldAddr =>
    split
    · split <;> first | rfl | simp only [must_bind, bindR]
    · rfl
  case field => split <;> first | rfl | simp only [must_bind, bindR]
  case index => split <;> first | rfl | (split <;> first | rfl | simp only [must_bind, bindR])
  all_goals repeat (first | rfl | split)
end
end Go.VM

namespace Go.VM
section
variable {T : Tab} {β : Type}

/-- What an operation that makes, writes or calls comes to hangs on its operands alone. -/
theorem litParts_congr {σ σ' : Operand → V} {G : List Reg} {e : Nat} {K : List V → R β} : ∀ (ps : List (Nat × Operand)) (es : List V), (∀ p ∈ ps, σ p.2 = σ' p.2) → litParts σ T G e ps es K = litParts σ' T G e ps es K
  | [], es, _ => rfl
  | (i, x) :: ps, es, h => by
    have hx : σ x = σ' x := h (i, x) (by simp)
    simp only [litParts, hx]
    rw [litParts_congr ps _ (fun p hp => h p (by simp [hp]))]
theorem litG_congr {σ σ' : Operand → V} : ∀ (ps : List (Nat × Operand)) (o : List Nat), (∀ p ∈ ps, σ p.2 = σ' p.2) → litG σ ps o = litG σ' ps o
  | [], o, _ => rfl
  | (i, x) :: ps, o, h => by
    have hx : σ x = σ' x := h (i, x) (by simp)
    simp only [litG, hx]
    rw [litG_congr ps _ (fun p hp => h p (by simp [hp]))]
theorem effOp_congr {c : Ctx} {σ σ' : Operand → V} {G : List Reg} {op : Op} {K : V → List Reg → R β} (h : ∀ x ∈ op.operands, σ x = σ' x) : effOp c σ G op K = effOp c σ' G op K := by
  cases op <;> simp only [Op.operands] at h <;> simp only [effOp]
  case buildSlice t n ps =>
    have hp : ∀ p ∈ ps.toList, σ p.2 = σ' p.2 := fun p hp => h p.2 (by simpa using ⟨p.1, by simpa using hp⟩)
    cases find t c.T with
    | none => rfl
    | some d => cases d <;> first | rfl | (simp only [litParts_congr ps.toList _ hp, litG_congr ps.toList _ hp])
  case call cl =>
    have hargs : ∀ x ∈ cl.args.toList, σ x = σ' x := fun x hx => h x (by simp only [Call.operands, Array.mem_append]; exact .inr (by simpa using hx))
    have hm : cl.args.toList.map σ = cl.args.toList.map σ' := List.map_congr_left hargs
    cases hc : cl.callee with
    | builtin b =>
      simp only
      generalize cl.args.toList = xs at hargs hm
      unfold effCall
      cases b <;> first | rfl | skip
      all_goals
        rcases xs with _ | ⟨x, xs⟩
        · rfl
        · have h1 := hargs x (by simp)
          rcases xs with _ | ⟨y, xs⟩
          · generalize cl.argTypes.toList = ts
            rcases ts with _ | ⟨t, _ | ⟨u, ts⟩⟩ <;> first | rfl | (simp only [h1])
          · have h2 := hargs y (by simp)
            generalize cl.argTypes.toList = ts
            rcases xs with _ | ⟨z, xs⟩
            · rcases ts with _ | ⟨t, _ | ⟨u, _ | ⟨u', ts⟩⟩⟩ <;> first | rfl | (simp only [h1, h2])
            · rfl
    | value f =>
      have hf : σ f = σ' f := h f (by simp [Call.operands, hc])
      simp only [hf, hm]
    | _ => rfl
  case makeMap t res =>
    cases res with
    | none => rfl
    | some x => simp only [h x (by simp)]
  all_goals (first | rfl | (simp_all; done))

/-- no choice inside -/
def Plain {α : Type} : R α → Prop
  | .next .. => False
  | _ => True
theorem plain_ret {α : Type} (a : α) : Plain (.ret a) := trivial
theorem plain_fail {α : Type} : Plain (.fail : R α) := trivial
theorem plain_must {α : Type} {b : Bool} {k : R α} (h : Plain k) : Plain (must b k) := by cases b <;> trivial
theorem plain_intBin {op : BinOp} {k : IntKind} {a b : Int} : Plain (intBin op k a b .ret) := by cases op <;> simp only [intBin] <;> first | trivial | exact plain_must trivial
theorem plain_shiftV {op : BinOp} {k : IntKind} {a b : Int} : Plain (shiftV op k a b .ret) := by cases op <;> simp only [shiftV] <;> first | trivial | exact plain_must trivial
theorem plain_nilCmp {t : Nat} {x : V} {neg : Bool} : Plain (nilCmp T t x neg .ret) := by
  unfold nilCmp
  split <;> first | trivial | exact plain_must trivial
theorem plain_eqAsk {t : Nat} {b : Bool} {x y : V} {neg : Bool} : Plain (eqAsk T t b x y neg .ret) := by
  unfold eqAsk
  split
  · split <;> trivial
  · exact plain_must trivial
theorem plain_binV {t : Nat} {op : BinOp} {b : Bool} {x y : V} : Plain (binV T t op b x y .ret) := by
  unfold binV
  split
  · split
    · split
      · exact plain_shiftV
      · exact plain_must plain_intBin
    · trivial
  · split
    · split
      · exact plain_nilCmp
      · exact plain_eqAsk
    · split
      · exact plain_nilCmp
      · exact plain_eqAsk
    · trivial
theorem plain_lenV {α : Type} {t : Nat} {x : V} {K : Nat → R α} (h : ∀ n, Plain (K n)) : Plain (lenV T t x K) := by
  unfold lenV
  repeat' split
  all_goals first | trivial | exact h _
theorem plain_mlenV {α : Type} {t : Nat} {G : List Reg} {x : V} {K : Nat → R α} (h : ∀ n, Plain (K n)) : Plain (mlenV T t G x K) := by
  unfold mlenV
  split
  · split
    · split
      · exact plain_must (h _)
      · trivial
    · trivial
  · split
    · exact h _
    · trivial
  · exact plain_lenV h
theorem plain_loadR {G : List Reg} {r : Nat} {p : List Nat} : Plain (loadR T G r p .ret) := by
  unfold loadR
  repeat' split
  all_goals trivial
theorem plain_sliceGo {G : List Reg} {t l h : Nat} {x : V} : Plain (sliceGo T G t x l h .ret) := by
  unfold sliceGo
  repeat' split
  all_goals first | trivial | exact plain_must trivial
theorem plain_sliceHi {α : Type} {n : Nat} {hi mx : Option V} {K : Nat → R α} (h : ∀ n, Plain (K n)) : Plain (sliceHi n hi mx K) := by
  unfold sliceHi
  repeat' split
  all_goals first | trivial | exact h _ | exact plain_must (h _)
theorem plain_sliceV {t : Nat} {G : List Reg} {x : V} {lo hi mx : Option V} : Plain (sliceV T t G x lo hi mx .ret) := by
  unfold sliceV
  refine plain_lenV fun n => plain_sliceHi fun h => ?_
  repeat' split
  all_goals first | trivial | exact plain_must plain_sliceGo | exact plain_sliceGo
theorem plain_indexAddrV {G : List Reg} {t : Nat} {x ix : V} : Plain (indexAddrV T G t x ix .ret) := by
  unfold indexAddrV
  repeat' split
  all_goals first | trivial | exact plain_must trivial | exact plain_must (plain_must trivial)
theorem plain_buildV {α : Type} {fs : List Nat} {σ : Operand → V} {K : List V → R α} (h : ∀ l, Plain (K l)) : ∀ (ps : List (Nat × Operand)) (z : List V), Plain (buildV T fs σ ps z K)
  | [], z => h z
  | (i, x) :: ps, z => by
    simp only [buildV]
    split
    · exact plain_must (plain_buildV h ps _)
    · trivial
theorem plain_detOp {σ : Operand → V} {G : List Reg} {op : Op} : Plain (detOp T σ G op .ret) := by
  cases op <;> simp only [detOp]
  case binOp => exact plain_binV
  case slice => exact plain_sliceV
  case indexAddr => exact plain_indexAddrV
  case unOp => unfold unV; repeat' split
               all_goals trivial
  case load =>
    split
    · exact plain_must plain_loadR
    · exact plain_must (plain_must trivial)
    · trivial
  case build =>
    split
    · exact plain_buildV (fun _ => plain_ret _) _ _
    · split
      · split
        · exact plain_buildV (fun _ => plain_ret _) _ _
        · trivial
      · split <;> trivial
    · trivial
  case call =>
    split
    · unfold detCall
      split
      · split
        · exact plain_mlenV fun _ => plain_ret _
        · trivial
      · repeat' split
        all_goals trivial
      · repeat' split
        all_goals trivial
      · trivial
    · trivial
  all_goals first | trivial | (repeat' split)
  all_goals first | trivial | exact plain_must (plain_ret _) | exact plain_must (plain_must (plain_ret _))
/-- it yields a value, whatever is done with it, or nothing ever -/
theorem detOp_cases (σ : Operand → V) (G : List Reg) (op : Op) : (∃ v, detOp T σ G op .ret = .ret v) ∨ detOp T σ G op .ret = .fail := by
  have := plain_detOp (T := T) (σ := σ) (G := G) (op := op)
  generalize detOp T σ G op .ret = r at *
  cases r with
  | ret v => exact .inl ⟨v, rfl⟩
  | fail => exact .inr rfl
  | next => exact this.elim
theorem det_all {PP : β → Prop} {σ : Operand → V} {G : List Reg} {op : Op} {K : V → R β} (h : All PP (detOp T σ G op K)) : ∃ v, detOp T σ G op .ret = .ret v ∧ All PP (K v) := by
  rw [detOp_bind] at h
  rcases detOp_cases (T := T) σ G op with ⟨v, hv⟩ | hv
  · rw [hv] at h; exact ⟨v, hv, h⟩
  · rw [hv] at h; exact h.elim
end
end Go.VM

namespace Go.VM
section
variable {P : Program} {T : Tab} {β : Type} {PP : β → Prop}

def EnvEq (e e' : List (Nat × V)) : Prop := ∀ t, find t e = find t e'
theorem EnvEq.refl (e : List (Nat × V)) : EnvEq e e := fun _ => rfl
theorem EnvEq.symm {e e' : List (Nat × V)} (h : EnvEq e e') : EnvEq e' e := fun t => (h t).symm
theorem EnvEq.trans {e e' e'' : List (Nat × V)} (h : EnvEq e e') (h' : EnvEq e' e'') : EnvEq e e'' := fun t => (h t).trans (h' t)
theorem EnvEq.opnd {e e' : List (Nat × V)} (h : EnvEq e e') (keep : List Nat) (loc : List V) : opnd keep e loc = opnd keep e' loc := by
  funext x
  cases x with
  | tmp t => simp only [VM.opnd, h t]
  | _ => rfl
theorem find_cons (d t : Nat) (v : V) (e : List (Nat × V)) : find t ((d, v) :: e) = if t = d then some v else find t e := by
  simp only [find]
  cases hb : Nat.beq t d with
  | true => rw [if_pos (Nat.eq_of_beq_eq_true hb)]
  | false => rw [if_neg (fun e => by rw [e, Nat.beq_refl] at hb; cases hb)]
theorem EnvEq.put {e e' : List (Nat × V)} (h : EnvEq e e') (d : Option Nat) (v : V) : EnvEq (putE e d v) (putE e' d v) := by
  cases d with
  | none => exact h
  | some d => intro t; simp only [putE, find_cons, h t]
theorem EnvEq.again {e : List (Nat × V)} {d : Nat} {v : V} (h : find d e = some v) : EnvEq ((d, v) :: e) e := by
  intro t; rw [find_cons]; split
  · rename_i x; rw [x, h]
  · rfl
theorem ActRel.same {X : Rx} {keep : List Nat} {e e' : List (Nat × V)} {loc : List V} {a : Act} (h : ActRel P T X keep e loc a) (he : EnvEq e e') : ActRel P T X keep e' loc a := by
  intro t; rw [← he.opnd]; exact h t

/-- what is not known as yet -/
def maskE (pend : List Nat) (env : List (Nat × V)) : List (Nat × V) := pend.map (·, V.junk) ++ env
theorem find_mask (t : Nat) (env : List (Nat × V)) : ∀ (pend : List Nat), find t (maskE pend env) = if t ∈ pend then some .junk else find t env
  | [] => by simp [maskE]
  | s :: pend => by
    have := find_mask t env pend
    show find t ((s, .junk) :: maskE pend env) = _
    rw [find_cons, this]
    by_cases h : t = s <;> simp [h]
theorem opnd_mask {pend : List Nat} {keep : List Nat} {env : List (Nat × V)} {loc : List V} {x : Operand} (h : ∀ t ∈ pend, x ≠ .tmp t) : opnd keep (maskE pend env) loc x = opnd keep env loc x := by
  cases x with
  | tmp t =>
    have : t ∉ pend := fun ht => h t ht rfl
    simp only [opnd, find_mask, if_neg this]
  | _ => rfl
theorem EnvEq.mask {e e' : List (Nat × V)} (h : EnvEq e e') (pend : List Nat) : EnvEq (maskE pend e) (maskE pend e') := by
  intro t; rw [find_mask, find_mask, h t]
theorem mask_put {pend : List Nat} {env : List (Nat × V)} {d : Option Nat} {v : V} (h : ∀ x, d = some x → x ∉ pend) : EnvEq (putE (maskE pend env) d v) (maskE pend (putE env d v)) := by
  cases d with
  | none => exact EnvEq.refl _
  | some d =>
    intro t
    simp only [putE, find_cons, find_mask]
    by_cases e : t = d
    · subst e; simp [h t rfl]
    · simp [e]

theorem stepOp_det {c : Ctx} (ha : c.any = false) {loc : List V} {o : Oper} (hdet : Op.isDet o.op = true) {env : List (Nat × V)} {G : List Reg} {K : List (Nat × V) → List Reg → R β} :
    stepOp c loc o env G K = detOp c.T (opnd c.keep env loc) G o.op fun v => K (putE env o.dst v) G := by
  unfold stepOp
  simp only [hdet, nilAskK_eq, ha, forceV_eq, lenAsk]
  cases nilAsk c.T (opnd c.keep env loc) o.op <;> rfl
theorem stepOp_eff {c : Ctx} {loc : List V} {o : Oper} (hdet : Op.isDet o.op = false) {env : List (Nat × V)} {G : List Reg} {K : List (Nat × V) → List Reg → R β} :
    stepOp c loc o env G K = effOp c (opnd c.keep env loc) G o.op fun v G => K (putE env o.dst v) G := by
  unfold stepOp
  simp only [hdet]

open Classical in
/-- One operation that is carried out while others are behind. -/
theorem stepP_ok (hT : TabOk P T) {c : Ctx} (ha : c.any = false) (hc : c.T = T) (hF : FnsOK P T c) {X : Rx} (hX : RInv P T X) {pend : List Nat} {env : List (Nat × V)} {loc : List V} {a : Act} (hA : ActRel P T X c.keep (maskE pend env) loc a) {o : Oper}
    (hl : ∀ t ∈ pend, Operand.tmp t ∉ o.op.operands) (hdp : ∀ d, o.dst = some d → d ∉ pend) (hd : dstOk a.tmps.size o.dst = true)
    {K : List (Nat × V) → List Reg → R β} (h : All PP (stepOp c loc o env X.G K)) {next : Act → World → Prop} {Q : Exit → Act → World → Prop}
    (hn : ∀ v Y a', All PP (K (putE env o.dst v) Y.G) → Agree (touches c (opnd c.keep env loc) X.G o.op) X.G Y.G → RInv P T Y → Step X Y → ActRel P T Y c.keep (maskE pend (putE env o.dst v)) loc a' → a'.tmps.size = a.tmps.size → a'.defers = a.defers → next a' Y.w) : o.wp P a X.w next Q := by
  let K1 : V → List Reg → R β := fun v G => K (putE env o.dst v) G
  let ts := touches c (opnd c.keep env loc) X.G o.op
  let KK : List (Nat × V) → List Reg → R β := fun e G => if hh : ∃ v, e = putE (maskE pend env) o.dst v then KA ts X.G K1 hh.choose G else .fail
  have hKK : ∀ v G, KK (putE (maskE pend env) o.dst v) G = KA ts X.G K1 v G := by
    intro v G
    have hx : ∃ v', putE (maskE pend env) o.dst v = putE (maskE pend env) o.dst v' := ⟨v, rfl⟩
    show (if hh : ∃ v', putE (maskE pend env) o.dst v = putE (maskE pend env) o.dst v' then KA ts X.G K1 hh.choose G else .fail) = _
    rw [dif_pos hx]
    have hs := hx.choose_spec
    generalize hx.choose = v' at hs
    cases hdst : o.dst with
    | none => simp only [KA, K1, hdst, putE]
    | some d => rw [hdst] at hs; simp only [putE, List.cons.injEq, Prod.mk.injEq, true_and] at hs; rw [hs.1]
  have hop : ∀ x ∈ o.op.operands, opnd c.keep env loc x = opnd c.keep (maskE pend env) loc x := fun x hx => (opnd_mask fun t ht e => hl t ht (e ▸ hx)).symm
  have h2 : All PP (stepOp c loc o (maskE pend env) X.G KK) := by
    cases hdet : Op.isDet o.op with
    | true =>
      rw [stepOp_det ha hdet] at h ⊢
      have e1 : (fun v => KK (putE (maskE pend env) o.dst v) X.G) = fun v => K (putE env o.dst v) X.G := by
        funext v; rw [hKK, KA_at (agree_refl _ _)]
      rw [e1, ← detOp_congr hop]
      exact h
    | false =>
      rw [stepOp_eff hdet] at h ⊢
      have e1 : (fun v G => KK (putE (maskE pend env) o.dst v) G) = KA ts X.G K1 := by funext v G; exact hKK v G
      rw [e1, ← effOp_congr hop, ← eff_agree]
      exact h
  refine step_ok hT hc hF hX hA hd h2 ?_
  intro env' Y a' k1 k2 k3 k4 k5 k6
  by_cases hh : ∃ v, env' = putE (maskE pend env) o.dst v
  · obtain ⟨v, rfl⟩ := hh
    rw [hKK] at k1
    unfold KA at k1
    split at k1
    · rename_i hag
      exact hn v Y a' k1 hag k2 k3 (k4.same (mask_put hdp)) k5 k6
    · exact k1.elim
  · have : KK env' Y.G = .fail := dif_neg hh
    rw [this] at k1
    exact k1.elim
end
end Go.VM

namespace Go.VM
section
variable {P : Program} {T : Tab} {β : Type} {PP : β → Prop}

/-- One operation, its guard first, while others are behind. -/
theorem guardP_ok (hT : TabOk P T) {c : Ctx} (ha : c.any = false) (hc : c.T = T) (hF : FnsOK P T c) {X : Rx} (hX : RInv P T X) {pend : List Nat} {env : List (Nat × V)} {loc : List V} {a : Act} (hA : ActRel P T X c.keep (maskE pend env) loc a) (hsz : a.tmps.size = c.nt)
    {ops : Array Oper} {i : Nat} {o : Oper} (ho : ops[i]? = some o) (hl : ∀ t ∈ pend, Operand.tmp t ∉ o.op.operands) (hg : ∀ j w d, o.guard = some (j, w) → dstOf ops.toList j = some d → d ∉ pend) (hdp : ∀ d, o.dst = some d → d ∉ pend)
    {K : List (Nat × V) → List Reg → R β} (h : All PP (guardOp c ops.toList loc o env X.G K)) {next : Act → World → Prop} {Q : Exit → Act → World → Prop}
    (hn : ∀ v env' Y a', EnvEq env' (putE env o.dst v) → All PP (K env' Y.G) → (Agree (touches c (opnd c.keep env loc) X.G o.op) X.G Y.G) → RInv P T Y → Step X Y → ActRel P T Y c.keep (maskE pend env') loc a' → a'.tmps.size = c.nt → a'.defers = a.defers → next a' Y.w) : wpOp P ops Q i next a X.w := by
  unfold guardOp at h
  obtain ⟨hd, h⟩ := all_must.1 h
  rw [← hsz] at hd
  have step : ∀ env1, EnvEq env1 env → All PP (stepOp c loc o env1 X.G K) → o.wp P a X.w next Q := by
    intro env1 he h1
    refine stepP_ok hT ha hc hF hX (hA.same (he.symm.mask pend)) hl hdp hd h1 ?_
    intro v Y a' k1 k2 k3 k4 k5 k6 k7
    rw [he.opnd] at k2
    exact hn v _ Y a' (he.put _ _) k1 k2 k3 k4 k5 (k6.trans hsz) k7
  have skip : ∀ env1, EnvEq env1 env → All PP (K (putE env1 o.dst .undef) X.G) → next (a.put o.dst undef) X.w := by
    intro env1 he hK
    refine hn .undef _ X _ (he.put _ _) hK (agree_refl _ _) hX (Step.refl X) ?_ ((put_size _ _ _).trans hsz) (put_defers _ _ _)
    refine ActRel.same ?_ (mask_put (env := env1) (v := .undef) hdp)
    exact (hA.same (he.symm.mask pend)).put hd (rel_undef.2 rfl)
  unfold wpOp
  simp only [ho]
  split at h
  · rename_i hgd
    have hw : Region.wanted o (yielded ops a.tmps) = true := by simp [Region.wanted, hgd]
    rw [if_pos hw]
    exact .inl (step env (EnvEq.refl _) h)
  · rename_i j want hgd
    cases hdj : dstOf ops.toList j with
    | none => simp only [hdj] at h; exact (all_fail h).elim
    | some d =>
      simp only [hdj] at h
      cases hf : find d env with
      | none => simp only [hf] at h; exact (all_fail h).elim
      | some v =>
        have hfm : find d (maskE pend env) = some v := by rw [find_mask, if_neg (hg j want d hgd hdj)]; exact hf
        have hv := hA.find hfm
        cases v with
        | bool b =>
          simp only [hf] at h
          rw [rel_bool] at hv
          have hy := yielded_bool hdj hv
          have hag := EnvEq.again hf
          cases b with
          | true =>
            simp only at h
            cases want with
            | true =>
              have hw : Region.wanted o (yielded ops a.tmps) = true := by simp [Region.wanted, hgd, hy]
              rw [if_pos hw]
              exact .inl (step _ hag h)
            | false =>
              have hw : ¬ Region.wanted o (yielded ops a.tmps) = true := by simp [Region.wanted, hgd, hy]
              rw [if_neg hw]
              exact skip _ hag h
          | false =>
            simp only at h
            cases want with
            | true =>
              have hw : ¬ Region.wanted o (yielded ops a.tmps) = true := by simp [Region.wanted, hgd, hy]
              rw [if_neg hw]
              exact skip _ hag h
            | false =>
              have hw : Region.wanted o (yielded ops a.tmps) = true := by simp [Region.wanted, hgd, hy]
              rw [if_pos hw]
              exact .inl (step _ hag h)
        | undef =>
          simp only [hf] at h
          rw [rel_undef] at hv
          have hy := yielded_undef hdj hv
          have hw : ¬ Region.wanted o (yielded ops a.tmps) = true := by simp [Region.wanted, hgd, hy]
          rw [if_neg hw]
          exact skip _ (EnvEq.refl _) h
        | _ => simp only [hf] at h; exact (all_fail h).elim

/-- what an operation that leaves the regions alone comes to, its guard first -/
def guardVal (T : Tab) (ops : List Oper) (σ : Operand → V) (G : List Reg) (o : Oper) : R V := match o.guard with
  | none => detOp T σ G o.op .ret
  | some (j, want) => match dstOf ops j with
    | none => .fail
    | some d => match σ (.tmp d) with
      | .bool b => if b = want then detOp T σ G o.op .ret else .ret .undef
      | .undef => .ret .undef
      | _ => .fail

theorem opnd_find {keep : List Nat} {env : List (Nat × V)} {loc : List V} {d : Nat} {v : V} (h : find d env = some v) : opnd keep env loc (.tmp d) = v := by simp only [opnd, h]

theorem guard_val {c : Ctx} (ha : c.any = false) (hc : c.T = T) {ops : List Oper} {loc : List V} {o : Oper} (hdet : Op.isDet o.op = true) {env : List (Nat × V)} {G : List Reg} {K : List (Nat × V) → List Reg → R β} (h : All PP (guardOp c ops loc o env G K)) :
    dstOk c.nt o.dst = true ∧ ∃ v env', guardVal T ops (opnd c.keep env loc) G o = .ret v ∧ EnvEq env' (putE env o.dst v) ∧ All PP (K env' G) := by
  unfold guardOp at h
  obtain ⟨hd, h⟩ := all_must.1 h
  refine ⟨hd, ?_⟩
  have step : ∀ env1, EnvEq env1 env → All PP (stepOp c loc o env1 G K) → ∃ v, detOp T (opnd c.keep env loc) G o.op .ret = .ret v ∧ All PP (K (putE env1 o.dst v) G) := by
    intro env1 he h1
    rw [stepOp_det ha hdet] at h1
    obtain ⟨v, hv, hk⟩ := det_all h1
    rw [he.opnd, hc] at hv
    exact ⟨v, hv, hk⟩
  unfold guardVal
  cases hgd : o.guard with
  | none =>
    simp only [hgd] at h ⊢
    obtain ⟨v, hv, hk⟩ := step env (EnvEq.refl _) h
    exact ⟨v, _, hv, EnvEq.refl _, hk⟩
  | some jw =>
    obtain ⟨j, want⟩ := jw
    simp only [hgd] at h ⊢
    cases hdj : dstOf ops j with
    | none => simp only [hdj] at h; exact (all_fail h).elim
    | some d =>
      simp only [hdj] at h ⊢
      cases hf : find d env with
      | none => simp only [hf] at h; exact (all_fail h).elim
      | some v =>
        rw [opnd_find hf]
        cases v with
        | bool b =>
          simp only [hf] at h
          have hag := EnvEq.again hf
          cases b <;> cases want <;> simp only at h <;> simp only [if_true, reduceCtorEq, if_false] <;>
            first
            | (obtain ⟨v, hv, hk⟩ := step _ hag h; exact ⟨v, _, hv, hag.put _ _, hk⟩)
            | exact ⟨.undef, _, rfl, hag.put _ _, h⟩
        | undef => simp only [hf] at h; exact ⟨.undef, _, rfl, EnvEq.refl _, h⟩
        | _ => simp only [hf] at h; exact (all_fail h).elim

/-- at its turn -/
theorem pend_ok (hT : TabOk P T) {X : Rx} (hX : RInv P T X) {keep pend : List Nat} {env : List (Nat × V)} {loc : List V} {a : Act} (hA : ActRel P T X keep (maskE pend env) loc a)
    {ops : Array Oper} {i : Nat} {o : Oper} (ho : ops[i]? = some o) (hl : ∀ t ∈ pend, Operand.tmp t ∉ o.op.operands) (hg : ∀ j w d, o.guard = some (j, w) → dstOf ops.toList j = some d → d ∉ pend)
    {v : V} (h : guardVal T ops.toList (opnd keep env loc) X.G o = .ret v) {next : Act → World → Prop} {Q : Exit → Act → World → Prop} (hn : ∀ y, Rel P T X v y → next (a.put o.dst y) X.w) : wpOp P ops Q i next a X.w := by
  have hop : ∀ x ∈ o.op.operands, opnd keep env loc x = opnd keep (maskE pend env) loc x := fun x hx => (opnd_mask fun t ht e => hl t ht (e ▸ hx)).symm
  have run : detOp T (opnd keep env loc) X.G o.op .ret = .ret v → o.wp P a X.w next Q := by
    intro hv
    rw [detOp_congr hop] at hv
    have hall : All (· = v) (detOp T (opnd keep (maskE pend env) loc) X.G o.op .ret) := by rw [hv]; rfl
    obtain ⟨v', x, h1, h2, h3⟩ := det_ok hT hX hA.op hall
    have h1 : v' = v := h1
    subst h1
    unfold Oper.wp
    rw [h3]
    exact hn x h2
  unfold wpOp
  simp only [ho]
  unfold guardVal at h
  cases hgd : o.guard with
  | none =>
    have hw : Region.wanted o (yielded ops a.tmps) = true := by simp [Region.wanted, hgd]
    simp only [hgd] at h
    rw [if_pos hw]
    exact .inl (run h)
  | some jw =>
    obtain ⟨j, want⟩ := jw
    simp only [hgd] at h
    cases hdj : dstOf ops.toList j with
    | none => simp only [hdj] at h; cases h
    | some d =>
      simp only [hdj] at h
      have hv := hA d
      rw [opnd_mask (fun t ht e => hg j want d hgd hdj (by cases e; exact ht))] at hv
      generalize opnd keep env loc (.tmp d) = x at h hv
      cases x with
      | bool b =>
        simp only at h
        rw [rel_bool] at hv
        have hy := yielded_bool hdj hv
        by_cases hb : b = want
        · rw [if_pos hb] at h
          have hw : Region.wanted o (yielded ops a.tmps) = true := by simp [Region.wanted, hgd, hy, hb]
          rw [if_pos hw]
          exact .inl (run h)
        · rw [if_neg hb] at h
          have hw : ¬ Region.wanted o (yielded ops a.tmps) = true := by simp [Region.wanted, hgd, hy, hb]
          rw [if_neg hw]
          cases h
          exact hn _ (rel_undef.2 rfl)
      | undef =>
        simp only at h
        rw [rel_undef] at hv
        have hy := yielded_undef hdj hv
        have hw : ¬ Region.wanted o (yielded ops a.tmps) = true := by simp [Region.wanted, hgd, hy]
        rw [if_neg hw]
        cases h
        exact hn _ (rel_undef.2 rfl)
      | _ => simp only at h; cases h
end
end Go.VM

namespace Go.VM
section
variable {T : Tab} {β : Type}

/-- operations that look at the regions -/
def gdep : Op → Bool
  | .load .. => true
  | .slice .. => true
  | .indexAddr .. => true
  | .call c => (match c.callee with | .builtin b => (match b with | .len => true | _ => false) | _ => false)
  | _ => false
theorem det_gdep {σ : Operand → V} {G G' : List Reg} {op : Op} {K : V → R β} (h : gdep op = false) : detOp T σ G op K = detOp T σ G' op K := by
  cases op with
  | call c =>
    simp only [gdep] at h
    simp only [detOp]
    split
    · rename_i b hb
      rw [hb] at h
      cases b <;> first | (cases h; done) | rfl
    · rfl
  | _ => first | (cases h; done) | rfl

theorem listBeq_eq : ∀ {p q : List Nat}, listBeq p q = true → p = q
  | [], [], _ => rfl
  | [], _ :: _, h => by cases h
  | _ :: _, [], h => by cases h
  | a :: p, b :: q, h => by
    simp only [listBeq] at h
    cases hb : Nat.beq a b with
    | true => rw [hb] at h; rw [Nat.eq_of_beq_eq_true hb, listBeq_eq h]
    | false => rw [hb] at h; cases h
theorem rigid_eq {v w : V} (h : rigid v w = true) : v = w := by
  unfold rigid at h
  split at h
  · simp only [Bool.and_eq_true] at h
    obtain ⟨⟨h1, h2⟩, h3⟩ := h
    rw [Nat.eq_of_beq_eq_true h1, listBeq_eq h2, Nat.eq_of_beq_eq_true h3]
  · rfl
  · rw [Nat.eq_of_beq_eq_true h]
  · rfl
  · split at h
    · rename_i hk
      rw [sameK_eq hk, of_decide_eq_true h]
    · cases h
  · rename_i a b
    have : a = b := by simpa [eqB] using h
    rw [this]
  · rename_i a t n b u m
    simp only [Bool.and_eq_true] at h
    obtain ⟨h1, h2, h3⟩ := h
    have h1 : a = b := by simpa [eqB] using h1
    have h3 : n = m := of_decide_eq_true h3
    rw [h1, Nat.eq_of_beq_eq_true h2, h3]
  · rfl
  · cases h

theorem loadR_kept {ts : List Nat} {G G' : List Reg} {r : Nat} {p : List Nat} {v : V} (hA : Agree ts G G') (hr : r ∉ ts) (h : loadR T G r p .ret = .ret v) : loadR T G' r p .ret = .ret v := by
  have hlt : r < G.length := by
    rcases Nat.lt_or_ge r G.length with h' | h'
    · exact h'
    · unfold loadR at h
      rw [List.getD_eq_getElem?_getD, List.getElem?_eq_none h'] at h
      cases h
  rcases hA r hr hlt with e | e
  · unfold loadR at h ⊢; rw [e]; exact h
  · unfold loadR at h ⊢
    rw [e]
    cases hg : G.getD r .gone <;> rw [hg] at h <;> simp only [Reg.freeze] <;> exact h

theorem eqB_eq {a b : Bool} (h : eqB a b = true) : a = b := by simpa [eqB] using h

theorem kept_index {G G' : List Reg} {t : Nat} {x ix : V} {v : V} (hk : subKept T G G' t x = true) (h : indexAddrV T G t x ix .ret = .ret v) : indexAddrV T G' t x ix .ret = .ret v := by
  unfold indexAddrV at h ⊢
  unfold subKept at hk
  cases ix <;> first | exact h | skip
  simp only at h ⊢
  cases hf : find t T with
  | none => rw [hf] at h; exact h
  | some d =>
    rw [hf] at h hk
    cases d <;> first | exact h | skip
    cases x <;> first | exact h | skip
    simp only at h ⊢ hk
    rw [← eqB_eq hk]
    exact h
theorem kept_sliceGo {G G' : List Reg} {t l hh : Nat} {x : V} {v : V} (hk : subKept T G G' t x = true) (h : sliceGo T G t x l hh .ret = .ret v) : sliceGo T G' t x l hh .ret = .ret v := by
  unfold sliceGo at h ⊢
  unfold subKept at hk
  cases hf : find t T with
  | none => rw [hf] at h; exact h
  | some d =>
    rw [hf] at h hk
    cases d <;> first | exact h | skip
    cases x <;> first | exact h | skip
    simp only at h ⊢ hk
    rw [← eqB_eq hk]
    exact h
theorem must_ret {α : Type} {b : Bool} {k : R α} {v : α} (h : must b k = .ret v) : b = true ∧ k = .ret v := by
  cases b with
  | true => exact ⟨rfl, h⟩
  | false => cases h
theorem kept_slice {G G' : List Reg} {t : Nat} {x : V} {lo hi mx : Option V} {v : V} (hk : subKept T G G' t x = true) (h : sliceV T t G x lo hi mx .ret = .ret v) : sliceV T t G' x lo hi mx .ret = .ret v := by
  have inner : ∀ h1, (match lo with
    | some l => match l with | .int _ l => must (andB (leI 0 l) (leI l (ofN h1))) (sliceGo T G t x (natI l) h1 .ret) | _ => .fail
    | none => sliceGo T G t x 0 h1 .ret) = .ret v → (match lo with
    | some l => match l with | .int _ l => must (andB (leI 0 l) (leI l (ofN h1))) (sliceGo T G' t x (natI l) h1 .ret) | _ => .fail
    | none => sliceGo T G' t x 0 h1 .ret) = .ret v := by
    intro h1 hh
    cases lo with
    | none => exact kept_sliceGo hk hh
    | some l =>
      cases l <;> first | exact hh | skip
      simp only at hh ⊢
      obtain ⟨e1, e2⟩ := must_ret hh
      rw [e1]
      exact kept_sliceGo hk e2
  have mid : ∀ n, sliceHi n hi mx (fun h1 => match lo with
    | some l => match l with | .int _ l => must (andB (leI 0 l) (leI l (ofN h1))) (sliceGo T G t x (natI l) h1 .ret) | _ => .fail
    | none => sliceGo T G t x 0 h1 .ret) = .ret v → sliceHi n hi mx (fun h1 => match lo with
    | some l => match l with | .int _ l => must (andB (leI 0 l) (leI l (ofN h1))) (sliceGo T G' t x (natI l) h1 .ret) | _ => .fail
    | none => sliceGo T G' t x 0 h1 .ret) = .ret v := by
    intro n hh
    unfold sliceHi at hh ⊢
    cases mx with
    | some m =>
      simp only at hh ⊢
      cases m <;> first | exact hh | skip
      cases hi with
      | none => exact hh
      | some h0 =>
        cases h0 <;> first | exact hh | skip
        simp only at hh ⊢
        obtain ⟨e1, e2⟩ := must_ret hh
        rw [e1]
        exact inner _ e2
    | none =>
      simp only at hh ⊢
      cases hi with
      | none => exact inner _ hh
      | some h0 =>
        cases h0 <;> first | exact hh | skip
        simp only at hh ⊢
        obtain ⟨e1, e2⟩ := must_ret hh
        rw [e1]
        exact inner _ e2
  unfold sliceV at h ⊢
  unfold lenV at h ⊢
  cases hf : find t T with
  | none => rw [hf] at h; cases h
  | some d =>
    rw [hf] at h
    cases d <;> first | (cases h; done) | skip
    all_goals simp only at h ⊢
    · cases x <;> first | (cases h; done) | exact mid _ h
    · rename_i e
      cases he : find e T with
      | none => rw [he] at h; cases h
      | some d' => rw [he] at h; cases d' <;> first | (cases h; done) | exact mid _ h
    · cases x <;> first | (cases h; done) | exact mid _ h
    · exact mid _ h

/-- What was asked again says the same. -/
theorem still_ok {c : Ctx} (hc : c.T = T) {ops : List Oper} {loc : List V} {ts : List Nat} {env : List (Nat × V)} {G G' : List Reg} {j : Nat} {o : Oper} (ho : ops[j]? = some o) (h : stillOk c ops loc ts env G G' j = true) (hA : Agree ts G G')
    {v : V} (hv : detOp T (opnd c.keep env loc) G o.op .ret = .ret v) (hd : ∀ d, o.dst = some d → find d env = some v) : detOp T (opnd c.keep env loc) G' o.op .ret = .ret v := by
  unfold stillOk at h
  simp only [ho, hc] at h
  split at h
  · cases h
  · rename_i hk
    split at h
    · rename_i hdj
      cases hop : o.op with
      | load t a =>
        rw [hop] at hv hdj
        simp only [detOp, readsOf] at hv hdj ⊢
        cases hs : opnd c.keep env loc a with
        | ptr r p u =>
          rw [hs] at hv hdj
          simp only at hv ⊢
          obtain ⟨e1, e2⟩ := must_ret hv
          rw [e1]
          refine loadR_kept hA ?_ e2
          intro hr
          simp only [visit, addTo, disj] at hdj
          have : memN r ts = true := by
            clear hA hdj
            induction ts with
            | nil => cases hr
            | cons s ts ih =>
              simp only [memN]
              cases hb : Nat.beq r s with
              | true => rfl
              | false =>
                simp only
                rcases List.mem_cons.1 hr with e | e
                · rw [e, Nat.beq_refl] at hb; cases hb
                · exact ih e
          rw [this] at hdj
          cases hdj
        | ref u w => rw [hs] at hv; exact hv
        | _ => rw [hs] at hv; cases hv
      | call cl =>
        cases hgd : gdep (.call cl) with
        | false => rw [hop] at hv; rw [← det_gdep (G := G) hgd]; exact hv
        | true =>
          rw [hop] at hv hdj
          simp only [detOp, readsOf] at hv hdj ⊢
          cases hcal : cl.callee with
          | builtin b =>
            simp only [hcal] at hv hdj ⊢
            cases b with
            | len =>
              simp only [detCall] at hv hdj ⊢
              split at hv
              · rename_i x t hx ht
                simp only [hx] at hdj
                unfold mlenV at hv ⊢
                cases hs : opnd c.keep env loc x with
                | mp r =>
                  rw [hs] at hv hdj
                  simp only [disj] at hv hdj ⊢
                  have hr : r ∉ ts := by
                    intro hr
                    have : memN r ts = true := (memN_iff r ts).2 hr
                    rw [this] at hdj
                    cases hdj
                  split at hv
                  · split at hv
                    · rename_i u clock l hg
                      have hlt : r < G.length := by
                        rcases Nat.lt_or_ge r G.length with h' | h'
                        · exact h'
                        · rw [List.getD_eq_getElem?_getD, List.getElem?_eq_none h'] at hg
                          cases hg
                      have hg' : G'.getD r .gone = .map u clock l := by
                        rcases hA r hr hlt with e | e <;> rw [e, hg] <;> rfl
                      rw [hg']
                      exact hv
                    · cases hv
                  · cases hv
                | _ => rw [hs] at hv; exact hv
              · cases hv
            | _ => simp only [gdep, hcal] at hgd; cases hgd
          | _ => simp only [gdep, hcal] at hgd; cases hgd
      | slice t x lo hi mx =>
        rw [hop] at hv hk
        simp only [detOp, kindKept] at hv hk ⊢
        exact kept_slice hk hv
      | indexAddr t x ix =>
        rw [hop] at hv hk
        simp only [detOp, kindKept] at hv hk ⊢
        exact kept_index hk hv
      | _ => rw [hop] at hv; rw [← det_gdep (G := G)]; exact hv; rfl
    · split at h
      · rename_i d hdst
        rw [hd d hdst] at h
        simp only at h
        split at h
        · rename_i w hw
          rw [hw, rigid_eq h]
        · cases h
      · cases h
end
end Go.VM

namespace Go.VM

/-! ### What is checked of a plan before anything runs -/
def predsL : List Edge → List Nat
  | [] => []
  | e :: l => match Region.binds .any e with | true => e.on :: predsL l | false => predsL l
def predsO (o : Oper) : List Nat := predsL o.after.toList
def tmpsOf : List Operand → List Nat
  | [] => []
  | .tmp t :: l => t :: tmpsOf l
  | _ :: l => tmpsOf l
def looksG (ops : List Oper) (o : Oper) : List Nat := match o.guard with
  | some (j, _) => (match dstOf ops j with | some d => [d] | none => [])
  | none => []
def looksO (ops : List Oper) (o : Oper) : List Nat := looksG ops o ++ tmpsOf o.op.operands.toList
def subL : List Nat → List Nat → Bool
  | [], _ => true
  | r :: l, o => match memN r o with | true => subL l o | false => false
/-- this slot is written by operation i alone, and read behind it or ahead of it -/
def cleanAt (ops : List Oper) (pi : List Nat) (i d : Nat) : Nat → List Oper → Bool
  | _, [] => true
  | k, o :: l => (match Nat.beq k i, o.dst with | false, some d' => (match Nat.beq d d' with | true => false | false => true) | _, _ => true) &&
      (match memN d (looksO ops o) with | true => memN i (predsO o) || (memN k pi || Nat.beq k i) | false => true) && cleanAt ops pi i d (k + 1) l
def cleanFrom (ops : List Oper) : Nat → List Oper → Bool
  | _, [] => true
  | i, o :: l => (match o.dst with | some d => cleanAt ops (predsO o) i d 0 ops | none => true) && cleanFrom ops (i + 1) l
/-- is the slot of operation i read by one that isn't behind it? -/
def antiAt (ops : List Oper) (i d : Nat) : List Oper → Bool
  | [] => false
  | o :: l => (match memN d (looksO ops o) with | true => !memN i (predsO o) | false => false) || antiAt ops i d l
def antiB (ops : List Oper) (i : Nat) (o : Oper) : Bool := match o.dst with | some d => antiAt ops i d ops | none => false
/-- all but i that isn't in L waits for something outside L -/
def onlyNext (L : List Nat) (i : Nat) : Nat → List Oper → Bool
  | _, [] => true
  | k, o :: l => (match memN k L, Nat.beq k i, subL (predsO o) L with | false, false, true => false | _, _, _ => true) && onlyNext L i (k + 1) l
def anc (ops : List Oper) : Nat → List Nat → List Nat
  | 0, acc => acc
  | k + 1, acc => match memN k acc, ops[k]? with
    | true, some o => anc ops k (predsO o ++ acc)
    | _, _ => anc ops k acc
def coveredBy (ops : List Oper) (A re : List Nat) : List Nat → Bool
  | [] => true
  | j :: L => (match ops[j]? with
    | some o => (match gdep o.op with | true => memN j A || memN j re | false => true)
    | none => false) && coveredBy ops A re L
/-- of those that aren't in L all but those in H wait for something outside L -/
def onlyNextL (L H : List Nat) : Nat → List Oper → Bool
  | _, [] => true
  | k, o :: l => (match memN k L, memN k H, subL (predsO o) L with | false, false, true => false | _, _, _ => true) && onlyNextL L H (k + 1) l
/-- A: those that other orders begin with -/
def planOk (ops : List Oper) : List Nat → List Nat → Plan → Bool
  | L, A, .nil => (match A with | [] => onlyNext L ops.length 0 ops | _ => false)
  | L, A, .cons i re rest => match ops[i]? with
    | none => false
    | some o => (match memN i L with | true => false | false => true) && subL (predsO o) L && (match Op.isDet o.op && !antiB ops i o with
      | true => (match re, A with | [], [] => true | _, _ => false)
      | false => onlyNextL L (i :: A) 0 ops && coveredBy ops (anc ops ops.length (predsO o)) re L) && planOk ops (L ++ [i]) [] rest
  | L, A, .alt i re rest other => match ops[i]? with
    | none => false
    | some o => (match memN i L with | true => false | false => true) && subL (predsO o) L && coveredBy ops (anc ops ops.length (predsO o)) re L && planOk ops (L ++ [i]) [] rest && planOk ops L (i :: A) other
def planLen : Plan → Nat
  | .nil => 0
  | .cons _ _ rest => planLen rest + 1
  | .alt _ _ rest other => max (planLen rest + 1) (planLen other)
def regOk (ops : List Oper) (p : Plan) : Bool := Nat.ble (planLen p) ops.length && cleanFrom ops 0 ops && planOk ops [] [] p

theorem memN_mem {r : Nat} : ∀ {o : List Nat}, memN r o = true ↔ r ∈ o
  | [] => by simp [memN]
  | s :: o => by
    simp only [memN, List.mem_cons]
    cases hb : Nat.beq r s with
    | true => simp [Nat.eq_of_beq_eq_true hb]
    | false =>
      have : r ≠ s := fun e => by rw [e, Nat.beq_refl] at hb; cases hb
      simp only [this, false_or]
      exact memN_mem
theorem subL_iff : ∀ {l o : List Nat}, subL l o = true ↔ ∀ r ∈ l, r ∈ o
  | [], o => by simp [subL]
  | r :: l, o => by
    simp only [subL]
    cases h : memN r o with
    | true => simp [memN_mem.1 h, subL_iff]
    | false =>
      have : r ∉ o := fun e => by rw [memN_mem.2 e] at h; cases h
      simp [this]
theorem mem_predsL {k : Nat} : ∀ {l : List Edge}, k ∈ predsL l ↔ ∃ e ∈ l, Region.binds .any e = true ∧ e.on = k
  | [] => by simp [predsL]
  | e :: l => by
    simp only [predsL]
    cases h : Region.binds .any e with
    | true =>
      simp only [List.mem_cons, mem_predsL (l := l)]
      constructor
      · rintro (rfl | ⟨e', h1, h2⟩)
        · exact ⟨e, .inl rfl, h, rfl⟩
        · exact ⟨e', .inr h1, h2⟩
      · rintro ⟨e', rfl | h1, h2, h3⟩
        · exact .inl h3.symm
        · exact .inr ⟨e', h1, h2, h3⟩
    | false =>
      simp only [List.mem_cons, mem_predsL (l := l)]
      constructor
      · rintro ⟨e', h1, h2⟩; exact ⟨e', .inr h1, h2⟩
      · rintro ⟨e', rfl | h1, h2, h3⟩
        · rw [h] at h2; cases h2
        · exact ⟨e', h1, h2, h3⟩
theorem mem_tmpsOf {t : Nat} : ∀ {l : List Operand}, t ∈ tmpsOf l ↔ Operand.tmp t ∈ l
  | [] => by simp [tmpsOf]
  | x :: l => by
    cases x <;> simp [tmpsOf, mem_tmpsOf (l := l)]
theorem ready_iff {ops : Array Oper} {listed : Array Bool} {i : Nat} : i ∈ Region.ready .any ops listed ↔ listed.getD i true = false ∧ ∃ o, ops[i]? = some o ∧ ∀ k ∈ predsO o, listed.getD k false = true := by
  rw [mem_ready]
  constructor
  · rintro ⟨h, o, ho, ha⟩
    refine ⟨h, o, ho, fun k hk => ?_⟩
    obtain ⟨e, he, hb, rfl⟩ := mem_predsL.1 hk
    exact ha e (by simpa using he) hb
  · rintro ⟨h, o, ho, ha⟩
    exact ⟨h, o, ho, fun e he hb => ha e.on (mem_predsL.2 ⟨e, by simpa using he, hb, rfl⟩)⟩

theorem cleanAt_ok {ops : List Oper} {pi : List Nat} {i d : Nat} : ∀ (k : Nat) (l : List Oper), cleanAt ops pi i d k l = true → ∀ j o, l[j]? = some o → (k + j ≠ i → o.dst ≠ some d) ∧ (d ∈ looksO ops o → i ∈ predsO o ∨ k + j ∈ pi ∨ k + j = i)
  | _, [], _, j, o, h => by simp at h
  | k, x :: l, hc, j, o, h => by
    simp only [cleanAt, Bool.and_eq_true] at hc
    obtain ⟨⟨h1, h2⟩, h3⟩ := hc
    cases j with
    | zero =>
      simp at h
      subst h
      refine ⟨fun hne hd => ?_, fun hl => ?_⟩
      · have hb : Nat.beq k i = false := by
          cases hb : Nat.beq k i with
          | true => exact absurd (Nat.eq_of_beq_eq_true hb) (by simpa using hne)
          | false => rfl
        rw [hb, hd] at h1
        simp [Nat.beq_refl] at h1
      · rw [memN_mem.2 hl] at h2
        simp only [Bool.or_eq_true, memN_mem] at h2
        exact h2.imp id (Or.imp id fun h => Nat.eq_of_beq_eq_true h)
    | succ j =>
      have := cleanAt_ok (k + 1) l h3 j o (by simpa using h)
      rw [show k + 1 + j = k + (j + 1) by omega] at this
      exact this
theorem cleanFrom_ok {ops : List Oper} : ∀ (i : Nat) (l : List Oper), cleanFrom ops i l = true → ∀ j o d, l[j]? = some o → o.dst = some d → cleanAt ops (predsO o) (i + j) d 0 ops = true
  | _, [], _, j, o, d, h, _ => by simp at h
  | i, x :: l, hc, j, o, d, h, hd => by
    simp only [cleanFrom, Bool.and_eq_true] at hc
    cases j with
    | zero => simp at h; subst h; rw [hd] at hc; exact hc.1
    | succ j => have := cleanFrom_ok (i + 1) l hc.2 j o d (by simpa using h) hd; rw [show i + (j + 1) = i + 1 + j by omega]; exact this
/-- a slot that operation i writes -/
theorem clean_ok {ops : List Oper} (h : cleanFrom ops 0 ops = true) {i d : Nat} {o : Oper} (ho : ops[i]? = some o) (hd : o.dst = some d) {k : Nat} {o' : Oper} (ho' : ops[k]? = some o') :
    (k ≠ i → o'.dst ≠ some d) ∧ (d ∈ looksO ops o' → i ∈ predsO o' ∨ k ∈ predsO o ∨ k = i) := by
  have h1 := cleanFrom_ok 0 ops h i o d ho hd
  rw [Nat.zero_add] at h1
  have h2 := cleanAt_ok 0 ops h1 k o' ho'
  rw [Nat.zero_add] at h2
  exact h2
theorem antiAt_ok {ops : List Oper} {i d : Nat} : ∀ {l : List Oper}, antiAt ops i d l = false → ∀ o ∈ l, d ∈ looksO ops o → i ∈ predsO o
  | [], _, o, h, _ => by cases h
  | x :: l, hc, o, h, hd => by
    simp only [antiAt, Bool.or_eq_false_iff] at hc
    rcases List.mem_cons.1 h with rfl | h
    · have h1 := hc.1
      rw [memN_mem.2 hd] at h1
      simp only [Bool.not_eq_false'] at h1
      exact memN_mem.1 h1
    · exact antiAt_ok hc.2 o h hd
/-- a slot that is read only behind -/
theorem anti_ok {ops : List Oper} {i d : Nat} {o : Oper} (h : antiB ops i o = false) (hd : o.dst = some d) {k : Nat} {o' : Oper} (ho' : ops[k]? = some o') (hl : d ∈ looksO ops o') : i ∈ predsO o' := by
  unfold antiB at h
  rw [hd] at h
  exact antiAt_ok h o' (List.mem_of_getElem? ho') hl
theorem onlyNext_ok {L : List Nat} {i : Nat} : ∀ (k : Nat) (l : List Oper), onlyNext L i k l = true → ∀ j o, l[j]? = some o → k + j ∉ L → (∀ r ∈ predsO o, r ∈ L) → k + j = i
  | _, [], _, j, o, h, _, _ => by simp at h
  | k, x :: l, hc, j, o, h, hn, hp => by
    simp only [onlyNext, Bool.and_eq_true] at hc
    cases j with
    | zero =>
      simp at h
      subst h
      have h1 : memN k L = false := by
        cases hm : memN k L with
        | true => exact absurd (memN_mem.1 hm) (by simpa using hn)
        | false => rfl
      rw [h1, subL_iff.2 hp] at hc
      cases hb : Nat.beq k i with
      | true => exact Nat.eq_of_beq_eq_true hb
      | false => rw [hb] at hc; simp at hc
    | succ j =>
      have := onlyNext_ok (k + 1) l hc.2 j o (by simpa using h) (by rw [show k + 1 + j = k + (j + 1) by omega]; exact hn) hp
      omega
theorem onlyNextL_ok {L H : List Nat} : ∀ (k : Nat) (l : List Oper), onlyNextL L H k l = true → ∀ j o, l[j]? = some o → k + j ∉ L → (∀ r ∈ predsO o, r ∈ L) → k + j ∈ H
  | _, [], _, j, o, h, _, _ => by simp at h
  | k, x :: l, hc, j, o, h, hn, hp => by
    simp only [onlyNextL, Bool.and_eq_true] at hc
    cases j with
    | zero =>
      simp at h
      subst h
      have h1 : memN k L = false := by
        cases hm : memN k L with
        | true => exact absurd (memN_mem.1 hm) (by simpa using hn)
        | false => rfl
      rw [h1, subL_iff.2 hp] at hc
      cases hb : memN k H with
      | true => exact memN_mem.1 hb
      | false => rw [hb] at hc; simp at hc
    | succ j =>
      have := onlyNextL_ok (k + 1) l hc.2 j o (by simpa using h) (by rw [show k + 1 + j = k + (j + 1) by omega]; exact hn) hp
      rw [show k + (j + 1) = k + 1 + j by omega]; exact this
theorem anc_ok {ops : List Oper} {S : Nat → Prop} (hS : ∀ i o, S i → ops[i]? = some o → ∀ k ∈ predsO o, S k) : ∀ (k : Nat) (acc : List Nat), (∀ i ∈ acc, S i) → ∀ i ∈ anc ops k acc, S i
  | 0, acc, h, i, hi => h i hi
  | k + 1, acc, h, i, hi => by
    simp only [anc] at hi
    split at hi
    · rename_i o hm ho
      refine anc_ok hS k _ (fun j hj => ?_) i hi
      rcases List.mem_append.1 hj with hj | hj
      · exact hS k o (h k (memN_mem.1 hm)) ho j hj
      · exact h j hj
    · exact anc_ok hS k acc h i hi
theorem coveredBy_ok {ops : List Oper} {A re : List Nat} : ∀ {L : List Nat}, coveredBy ops A re L = true → ∀ j ∈ L, ∃ o, ops[j]? = some o ∧ (gdep o.op = true → j ∈ A ∨ j ∈ re)
  | [], _, j, hj => by cases hj
  | i :: L, h, j, hj => by
    simp only [coveredBy, Bool.and_eq_true] at h
    rcases List.mem_cons.1 hj with rfl | hj
    · cases ho : ops[j]? with
      | none => rw [ho] at h; simp at h
      | some o =>
        refine ⟨o, rfl, fun hg => ?_⟩
        rw [ho] at h
        simp only [hg, Bool.or_eq_true] at h
        exact h.1.imp memN_mem.1 memN_mem.1
    · exact coveredBy_ok h.2 j hj
end Go.VM

namespace Go.VM
section
variable {P : Program} {T : Tab} {β : Type} {PP : β → Prop}

/-- the slots of operations that the plan has carried out and the machine hasn't -/
def pendD (ops : List Oper) (listed : Array Bool) : List Nat → List Nat
  | [] => []
  | i :: L => match listed.getD i false, dstOf ops i with
    | false, some d => d :: pendD ops listed L
    | _, _ => pendD ops listed L
theorem mem_pendD {ops : List Oper} {listed : Array Bool} {t : Nat} : ∀ {L : List Nat}, t ∈ pendD ops listed L ↔ ∃ i ∈ L, listed.getD i false = false ∧ dstOf ops i = some t
  | [] => by simp [pendD]
  | i :: L => by
    have ih := mem_pendD (ops := ops) (listed := listed) (t := t) (L := L)
    simp only [pendD]
    split
    · rename_i d h1 h2
      simp only [List.mem_cons, ih]
      constructor
      · rintro (rfl | ⟨j, k1, k2⟩)
        · exact ⟨i, .inl rfl, h1, h2⟩
        · exact ⟨j, .inr k1, k2⟩
      · rintro ⟨j, rfl | k1, k2, k3⟩
        · rw [h2] at k3; cases k3; exact .inl rfl
        · exact .inr ⟨j, k1, k2, k3⟩
    · rename_i hno
      rw [ih]
      constructor
      · rintro ⟨j, k1, k2⟩; exact ⟨j, List.mem_cons_of_mem _ k1, k2⟩
      · rintro ⟨j, k1, k2, k3⟩
        rcases List.mem_cons.1 k1 with rfl | k1
        · exact (hno t k2 k3).elim
        · exact ⟨j, k1, k2, k3⟩
theorem mask_iff {p p' : List Nat} {env : List (Nat × V)} (h : ∀ t, t ∈ p ↔ t ∈ p') : EnvEq (maskE p env) (maskE p' env) := by
  intro t; rw [find_mask, find_mask]; simp only [h t]
def pendN (listed : Array Bool) : List Nat → Nat
  | [] => 0
  | i :: L => (match listed.getD i false with | true => 0 | false => 1) + pendN listed L
theorem pendN_append (listed : Array Bool) : ∀ (L M : List Nat), pendN listed (L ++ M) = pendN listed L + pendN listed M
  | [], M => by simp [pendN]
  | i :: L, M => by simp only [List.cons_append, pendN, pendN_append listed L M]; omega
theorem pendN_zero {listed : Array Bool} : ∀ {L : List Nat}, pendN listed L = 0 → ∀ i ∈ L, listed.getD i false = true
  | [], _, i, h => by cases h
  | j :: L, h, i, hi => by
    simp only [pendN] at h
    have h1 := pendN_zero (listed := listed) (L := L) (by omega)
    rcases List.mem_cons.1 hi with rfl | hi
    · cases hl : listed.getD i false with
      | true => rfl
      | false => rw [hl] at h; simp at h
    · exact h1 i hi
theorem pendN_set_le {listed : Array Bool} (j : Nat) : ∀ (L : List Nat), pendN (listed.setIfInBounds j true) L ≤ pendN listed L
  | [] => Nat.le_refl _
  | i :: L => by
    have ih := pendN_set_le (listed := listed) j L
    simp only [pendN]
    cases hl : listed.getD i false with
    | true => rw [getD_set_true hl]; simp only; omega
    | false => simp only; split <;> omega
theorem pendN_set_lt {listed : Array Bool} {j : Nat} (hj : j < listed.size) (hl : listed.getD j false = false) : ∀ {L : List Nat}, j ∈ L → pendN (listed.setIfInBounds j true) L < pendN listed L
  | [], h => by cases h
  | i :: L, h => by
    have hle := pendN_set_le (listed := listed) j L
    simp only [pendN]
    by_cases e : i = j
    · subst e
      have : (listed.setIfInBounds i true).getD i false = true := by simp [hj]
      rw [this, hl]
      simp only; omega
    · have ih := pendN_set_lt hj hl (L := L) ((List.mem_cons.1 h).resolve_left (Ne.symm e))
      rw [getD_set_ne false (Ne.symm e)]
      omega

theorem mem_looks_op {ops : List Oper} {o : Oper} {t : Nat} (h : Operand.tmp t ∈ o.op.operands) : t ∈ looksO ops o :=
  List.mem_append_right _ (mem_tmpsOf.2 (by simpa using h))
theorem mem_looks_guard {ops : List Oper} {o : Oper} {j d : Nat} {w : Bool} (h : o.guard = some (j, w)) (hd : dstOf ops j = some d) : d ∈ looksO ops o := by
  refine List.mem_append_left _ ?_
  unfold looksG
  rw [h]
  simp only [hd, List.mem_singleton]
theorem guardVal_congr {ops : List Oper} {keep : List Nat} {e e' : List (Nat × V)} {loc : List V} {G : List Reg} {o : Oper} (h : ∀ t ∈ looksO ops o, find t e = find t e') :
    guardVal T ops (opnd keep e loc) G o = guardVal T ops (opnd keep e' loc) G o := by
  have hop : ∀ x ∈ o.op.operands, opnd keep e loc x = opnd keep e' loc x := by
    intro x hx
    cases x with
    | tmp t => simp only [opnd, h t (mem_looks_op hx)]
    | _ => rfl
  unfold guardVal
  rw [detOp_congr hop]
  cases hg : o.guard with
  | none => rfl
  | some jw =>
    obtain ⟨j, w⟩ := jw
    simp only
    cases hd : dstOf ops j with
    | none => rfl
    | some d =>
      have : opnd keep e loc (.tmp d) = opnd keep e' loc (.tmp d) := by simp only [opnd, h d (mem_looks_guard hg hd)]
      simp only [this]
theorem guardVal_G {ops : List Oper} {σ : Operand → V} {G G' : List Reg} {o : Oper} {v : V} (h : guardVal T ops σ G o = .ret v) (hs : detOp T σ G o.op .ret = .ret v → detOp T σ G' o.op .ret = .ret v) : guardVal T ops σ G' o = .ret v := by
  unfold guardVal at h ⊢
  split at h
  · exact hs h
  · split at h
    · exact h
    · split at h
      · rename_i j0 want _ _ d0 _ b0 b _
        by_cases hb : b = want
        · rw [if_pos hb] at h ⊢; exact hs h
        · rw [if_neg hb] at h ⊢; exact h
      · exact h
      · exact h

/-- what stands while a region that draws its order is carried out -/
structure Draw (P : Program) (T : Tab) (c : Ctx) (ops : Array Oper) (loc : List V) (X0 : Rx) (ds : List Deferred) (listed : Array Bool) (L : List Nat) (env : List (Nat × V)) (X : Rx) (a : Act) : Prop where
  size : listed.size = ops.size
  sub : ∀ i, listed.getD i false = true → i ∈ L
  lim : ∀ i ∈ L, i < ops.size
  down : ∀ i o, listed.getD i false = true → ops[i]? = some o → ∀ k ∈ predsO o, listed.getD k false = true
  chain : ∀ p i q, L = p ++ i :: q → ∀ o, ops[i]? = some o → ∀ k ∈ predsO o, k ∈ p
  pend : ∀ i ∈ L, listed.getD i false = false → ∃ o v, ops[i]? = some o ∧ (antiB ops.toList i o = false ∧ dstOk c.nt o.dst = true) ∧ guardVal T ops.toList (opnd c.keep env loc) X.G o = .ret v ∧ ∀ d, o.dst = some d → find d env = some v
  inv : RInv P T X
  step : Step X0 X
  act : ActRel P T X c.keep (maskE (pendD ops.toList listed L) env) loc a
  tsz : a.tmps.size = c.nt
  defs : a.defers = ds

theorem dstOf_at {ops : Array Oper} {i : Nat} {o : Oper} (h : ops[i]? = some o) : dstOf ops.toList i = o.dst := by
  unfold dstOf
  have : ops.toList[i]? = some o := by simpa using h
  rw [this]
theorem toList_at {ops : Array Oper} {i : Nat} {o : Oper} (h : ops[i]? = some o) : ops.toList[i]? = some o := by simpa using h

variable {c : Ctx} {ops : Array Oper} {loc : List V} {X0 X : Rx} {ds : List Deferred} {listed : Array Bool} {L : List Nat} {env : List (Nat × V)} {a : Act}

theorem Draw.preds (h : Draw P T c ops loc X0 ds listed L env X a) {i : Nat} (hi : i ∈ L) {o : Oper} (ho : ops[i]? = some o) : ∀ k ∈ predsO o, k ∈ L := by
  obtain ⟨p, q, rfl⟩ := List.append_of_mem hi
  intro k hk
  exact List.mem_append_left _ (h.chain p i q rfl o ho k hk)
/-- what is ready and waits for nothing looks at nothing that is behind -/
theorem Draw.clear (h : Draw P T c ops loc X0 ds listed L env X a) (_ : cleanFrom ops.toList 0 ops.toList = true) {o : Oper} {i : Nat} (ho : ops[i]? = some o) (hr : ∀ k ∈ predsO o, listed.getD k false = true) :
    ∀ t ∈ pendD ops.toList listed L, t ∉ looksO ops.toList o := by
  intro t ht hlk
  obtain ⟨k, hk, hkl, hkd⟩ := mem_pendD.1 ht
  obtain ⟨ok, v, hko, ⟨han, _⟩, _⟩ := h.pend k hk hkl
  rw [dstOf_at hko] at hkd
  have := anti_ok han hkd (toList_at ho) hlk
  rw [hr k this] at hkl
  cases hkl

theorem Draw.pick (hT : TabOk P T) (h : Draw P T c ops loc X0 ds listed L env X a) (hcl : cleanFrom ops.toList 0 ops.toList = true) {j : Nat} (hj : j ∈ L) (hr : j ∈ Region.ready .any ops listed) {next : Act → World → Prop} {Q : Exit → Act → World → Prop}
    (hn : ∀ a', Draw P T c ops loc X0 ds (listed.setIfInBounds j true) L env X a' → next a' X.w) : wpOp P ops Q j next a X.w := by
  obtain ⟨r1, o, ho, r2⟩ := ready_iff.1 hr
  have hlt := h.lim j hj
  have hjl : listed.getD j false = false := by
    have : j < listed.size := by rw [h.size]; exact hlt
    rw [Array.getD_eq_getD_getElem?, Array.getElem?_eq_getElem this] at r1 ⊢
    exact r1
  obtain ⟨o', v, ho', ⟨_, p1⟩, p2, p3⟩ := h.pend j hj hjl
  rw [ho] at ho'
  cases ho'
  have hc := h.clear hcl ho r2
  refine pend_ok hT h.inv h.act ho (fun t ht hm => hc t ht (mem_looks_op hm)) (fun j' w d hg hd hp => hc d hp (mem_looks_guard hg hd)) p2 ?_
  intro y hy
  refine hn _ ⟨by simp [h.size], fun i hi => ?_, h.lim, fun i oi hi hoi k hk => ?_, h.chain, fun i hi hil => ?_, h.inv, h.step, ?_, (put_size _ _ _).trans h.tsz, (put_defers _ _ _).trans h.defs⟩
  · by_cases e : j = i
    · subst e; exact hj
    · rw [getD_set_ne false e] at hi; exact h.sub i hi
  · by_cases e : j = i
    · subst e
      rw [ho] at hoi; cases hoi
      exact getD_set_true (r2 k hk)
    · rw [getD_set_ne false e] at hi
      exact getD_set_true (h.down i oi hi hoi k hk)
  · by_cases e : j = i
    · subst e
      have : j < listed.size := by rw [h.size]; exact hlt
      simp [this] at hil
    · rw [getD_set_ne false e] at hil
      exact h.pend i hi hil
  · intro t
    have ht := h.act t
    by_cases hd : o.dst = some t
    · have hnp : t ∉ pendD ops.toList (listed.setIfInBounds j true) L := by
        intro hm
        obtain ⟨k, hk, hkl, hkd⟩ := mem_pendD.1 hm
        by_cases e : k = j
        · subst e
          have : k < listed.size := by rw [h.size]; exact hlt
          simp [this] at hkl
        · obtain ⟨ok, hko⟩ : ∃ ok, ops[k]? = some ok := ⟨_, Array.getElem?_eq_getElem (h.lim k hk)⟩
          rw [dstOf_at hko] at hkd
          exact (clean_ok hcl (toList_at ho) hd (toList_at hko)).1 e hkd
      rw [opnd_mask (fun s hs e => hnp (by cases e; exact hs)), opnd_find (p3 t hd)]
      rw [hd]
      have hlt' : t < a.tmps.size := by rw [h.tsz]; rw [hd] at p1; exact of_decide_eq_true p1
      rw [getD_put a t t y hlt', if_pos rfl]
      exact hy
    · have e1 : (a.put o.dst y).tmps.getD t undef = a.tmps.getD t undef := by
        cases hdo : o.dst with
        | none => rfl
        | some d =>
          rw [hdo] at hd p1
          have : d < a.tmps.size := by rw [h.tsz]; exact of_decide_eq_true p1
          rw [getD_put a d t y this, if_neg (fun e => hd (by rw [e]))]
      rw [e1]
      have e2 : EnvEq (maskE (pendD ops.toList listed L) env) (maskE (pendD ops.toList listed L) env) := EnvEq.refl _
      have e3 : find t (maskE (pendD ops.toList (listed.setIfInBounds j true) L) env) = find t (maskE (pendD ops.toList listed L) env) := by
        rw [find_mask, find_mask]
        have : t ∈ pendD ops.toList (listed.setIfInBounds j true) L ↔ t ∈ pendD ops.toList listed L := by
          rw [mem_pendD, mem_pendD]
          constructor
          · rintro ⟨k, k1, k2, k3⟩
            refine ⟨k, k1, ?_, k3⟩
            cases hx : listed.getD k false with
            | false => rfl
            | true => rw [getD_set_true hx] at k2; cases k2
          · rintro ⟨k, k1, k2, k3⟩
            have : j ≠ k := by
              rintro rfl
              rw [dstOf_at ho] at k3
              exact hd k3
            exact ⟨k, k1, by rw [getD_set_ne false this]; exact k2, k3⟩
        simp only [this]
      simp only [opnd, e3] at ht ⊢
      exact ht

/-- the plan carries out one that leaves the regions alone -/
theorem Draw.ahead (h : Draw P T c ops loc X0 ds listed L env X a) (ha : c.any = false) (hc : c.T = T) (hcl : cleanFrom ops.toList 0 ops.toList = true) {i : Nat} {o : Oper} (ho : ops[i]? = some o) (hdet : Op.isDet o.op = true) (hanti : antiB ops.toList i o = false) (hi : i ∉ L) (hp : ∀ k ∈ predsO o, k ∈ L)
    {K : List (Nat × V) → List Reg → R β} (hK : All PP (guardOp c ops.toList loc o env X.G K)) : ∃ env', All PP (K env' X.G) ∧ Draw P T c ops loc X0 ds listed (L ++ [i]) env' X a := by
  obtain ⟨hd, v, env', hv, he, hk⟩ := guard_val ha hc hdet hK
  have hil : listed.getD i false = false := by
    cases hx : listed.getD i false with
    | false => rfl
    | true => exact absurd (h.sub i hx) hi
  have hlt : i < ops.size := (Array.getElem?_eq_some_iff.1 ho).1
  have hfind : ∀ t, find t env' = find t (putE env o.dst v) := he
  have hother : ∀ t, o.dst ≠ some t → find t env' = find t env := by
    intro t ht
    rw [hfind]
    cases hdo : o.dst with
    | none => rfl
    | some d => rw [hdo] at ht; simp only [putE]; rw [find_cons, if_neg (fun e => ht (by rw [e]))]
  have hnl : ∀ {k : Nat} {ok : Oper}, ops[k]? = some ok → (∀ r ∈ predsO ok, r ∈ L) → ∀ t ∈ looksO ops.toList ok, find t env = find t env' := by
    intro k ok hok hpk t ht
    refine (hother t fun hdt => ?_).symm
    exact hi (hpk i (anti_ok hanti hdt (toList_at hok) ht))
  refine ⟨env', hk, ⟨h.size, fun j hj => List.mem_append_left _ (h.sub j hj), fun j hj => ?_, h.down, fun p j q hpq oj hoj k hk' => ?_, fun j hj hjl => ?_, h.inv, h.step, ?_, h.tsz, h.defs⟩⟩
  · rcases List.mem_append.1 hj with hj | hj
    · exact h.lim j hj
    · simp at hj; omega
  · rcases List.eq_nil_or_concat q with rfl | ⟨q', z, rfl⟩
    · have := List.append_inj' hpq rfl
      obtain ⟨rfl, e⟩ := this
      simp at e
      subst e
      rw [ho] at hoj; cases hoj
      exact hp k hk'
    · have hpq' : L ++ [i] = (p ++ j :: q') ++ [z] := by rw [hpq]; simp
      obtain ⟨rfl, e⟩ := List.append_inj' hpq' rfl
      exact h.chain p j q' rfl oj hoj k hk'
  · rcases List.mem_append.1 hj with hj | hj
    · obtain ⟨oj, vj, p1, p2, p3, p4⟩ := h.pend j hj hjl
      refine ⟨oj, vj, p1, p2, ?_, fun d hdj => ?_⟩
      · rw [← guardVal_congr (hnl p1 (h.preds hj p1))]; exact p3
      · rw [hother d fun hdo => ?_]
        · exact p4 d hdj
        · have : j ≠ i := fun e => hi (e ▸ hj)
          exact (clean_ok hcl (toList_at ho) hdo (toList_at p1)).1 this hdj
    · simp at hj
      subst hj
      refine ⟨o, v, ho, ⟨hanti, hd⟩, ?_, fun d hdo => ?_⟩
      · rw [← guardVal_congr (hnl ho hp)]; exact hv
      · rw [hfind, hdo]; simp only [putE]; rw [find_cons, if_pos rfl]
  · intro t
    have ht := h.act t
    by_cases hm : t ∈ pendD ops.toList listed (L ++ [i])
    · have : opnd c.keep (maskE (pendD ops.toList listed (L ++ [i])) env') loc (.tmp t) = .junk := by simp only [opnd, find_mask, if_pos hm]
      rw [this]
      exact rel_junk
    · have hm1 : t ∉ pendD ops.toList listed L := by
        intro hx
        obtain ⟨k, k1, k2, k3⟩ := mem_pendD.1 hx
        exact hm (mem_pendD.2 ⟨k, List.mem_append_left _ k1, k2, k3⟩)
      have hm2 : o.dst ≠ some t := fun hx => hm (mem_pendD.2 ⟨i, by simp, hil, by rw [dstOf_at ho]; exact hx⟩)
      have e : find t (maskE (pendD ops.toList listed (L ++ [i])) env') = find t (maskE (pendD ops.toList listed L) env) := by
        rw [find_mask, find_mask, if_neg hm, if_neg hm1, hother t hm2]
      simp only [opnd, e] at ht ⊢
      exact ht

theorem allStill_at {c : Ctx} {ops : List Oper} {loc : List V} {ts : List Nat} {env : List (Nat × V)} {G G' : List Reg} : ∀ {re : List Nat}, allStill c ops loc ts env G G' re = true → ∀ j ∈ re, stillOk c ops loc ts env G G' j = true
  | [], _, j, hj => by cases hj
  | i :: re, h, j, hj => by
    simp only [allStill] at h
    cases hs : stillOk c ops loc ts env G G' i with
    | false => rw [hs] at h; cases h
    | true =>
      rw [hs] at h
      rcases List.mem_cons.1 hj with rfl | hj
      · exact hs
      · exact allStill_at h j hj

/-- one that makes, writes or calls -/
theorem Draw.effect (hT : TabOk P T) (h : Draw P T c ops loc X0 ds listed L env X a) (ha : c.any = false) (hc : c.T = T) (hF : FnsOK P T c) (hcl : cleanFrom ops.toList 0 ops.toList = true) {i : Nat} {o : Oper} (ho : ops[i]? = some o) (hi : i ∉ L) (hr : ∀ k ∈ predsO o, listed.getD k false = true)
    {re : List Nat} (hcov : coveredBy ops.toList (anc ops.toList ops.toList.length (predsO o)) re L = true) {rest : Plan} {K : List (Nat × V) → List Reg → R β}
    (hK : All PP (guardOp c ops.toList loc o env X.G fun env' G' => match allStill c ops.toList loc (touches c (opnd c.keep env loc) X.G o.op) env' X.G G' re with
        | true => execPlan c ops.toList loc rest env' G' K
        | false => .fail)) {next : Act → World → Prop} {Q : Exit → Act → World → Prop}
    (hn : ∀ env' Y a', All PP (execPlan c ops.toList loc rest env' Y.G K) → Draw P T c ops loc X0 ds (listed.setIfInBounds i true) (L ++ [i]) env' Y a' → next a' Y.w) : wpOp P ops Q i next a X.w := by
  have hlt : i < ops.size := (Array.getElem?_eq_some_iff.1 ho).1
  have hsz : i < listed.size := by rw [h.size]; exact hlt
  have hself : (listed.setIfInBounds i true).getD i false = true := by simp [hsz]
  have hcl' := h.clear hcl ho hr
  have hdp : ∀ d, o.dst = some d → d ∉ pendD ops.toList listed L := by
    intro d hd hm
    obtain ⟨k, k1, k2, k3⟩ := mem_pendD.1 hm
    obtain ⟨ok, hko⟩ : ∃ ok, ops[k]? = some ok := ⟨_, Array.getElem?_eq_getElem (h.lim k k1)⟩
    rw [dstOf_at hko] at k3
    exact (clean_ok hcl (toList_at ho) hd (toList_at hko)).1 (fun e => hi (e ▸ k1)) k3
  refine guardP_ok hT ha hc hF h.inv h.act h.tsz ho (fun t ht hm => hcl' t ht (mem_looks_op hm)) (fun j' w d hg hd hp => hcl' d hp (mem_looks_guard hg hd)) hdp hK ?_
  intro v env' Y a' he hk hag k3 k4 k5 k6 k7
  split at hk
  · rename_i hstill
    have hother : ∀ t, o.dst ≠ some t → find t env' = find t env := by
      intro t ht
      rw [he t]
      cases hdo : o.dst with
      | none => rfl
      | some d => rw [hdo] at ht; simp only [putE]; rw [find_cons, if_neg (fun e => ht (by rw [e]))]
    have hS : ∀ k ok, listed.getD k false = true → ops.toList[k]? = some ok → ∀ r ∈ predsO ok, listed.getD r false = true := fun k ok hk hok => h.down k ok hk (by simpa using hok)
    refine hn env' Y a' hk ⟨by simp [h.size], fun j hj => ?_, fun j hj => ?_, fun j oj hj hoj k hk' => ?_, fun p j q hpq oj hoj k hk' => ?_, fun j hj hjl => ?_, k3, h.step.trans k4, ?_, k6, k7.trans h.defs⟩
    · by_cases e : i = j
      · subst e; simp
      · rw [getD_set_ne false e] at hj; exact List.mem_append_left _ (h.sub j hj)
    · rcases List.mem_append.1 hj with hj | hj
      · exact h.lim j hj
      · simp at hj; omega
    · by_cases e : i = j
      · subst e
        rw [ho] at hoj; cases hoj
        exact getD_set_true (hr k hk')
      · rw [getD_set_ne false e] at hj
        exact getD_set_true (h.down j oj hj hoj k hk')
    · rcases List.eq_nil_or_concat q with rfl | ⟨q', z, rfl⟩
      · have := List.append_inj' hpq rfl
        obtain ⟨rfl, e⟩ := this
        simp at e
        subst e
        rw [ho] at hoj; cases hoj
        exact h.sub k (hr k hk')
      · have hpq' : L ++ [i] = (p ++ j :: q') ++ [z] := by rw [hpq]; simp
        obtain ⟨rfl, e⟩ := List.append_inj' hpq' rfl
        exact h.chain p j q' rfl oj hoj k hk'
    · have hji : i ≠ j := by rintro rfl; rw [hself] at hjl; cases hjl
      have hjL : j ∈ L := by
        rcases List.mem_append.1 hj with hj | hj
        · exact hj
        · simp at hj; exact absurd hj.symm hji
      rw [getD_set_ne false hji] at hjl
      obtain ⟨oj, vj, p1, p2, p3, p4⟩ := h.pend j hjL hjl
      have hfd : ∀ d, oj.dst = some d → find d env' = some vj := by
        intro d hdj
        rw [hother d fun hdo => (clean_ok hcl (toList_at ho) hdo (toList_at p1)).1 (Ne.symm hji) hdj]
        exact p4 d hdj
      have hg1 : guardVal T ops.toList (opnd c.keep env' loc) X.G oj = .ret vj := by
        rw [← p3]
        refine guardVal_congr fun t ht => hother t fun hdt => ?_
        rcases (clean_ok hcl (toList_at ho) hdt (toList_at p1)).2 ht with h' | h' | h'
        · exact hi (h.preds hjL p1 i h')
        · rw [hr j h'] at hjl; cases hjl
        · exact hji h'.symm
      refine ⟨oj, vj, p1, p2, guardVal_G hg1 fun hv => ?_, hfd⟩
      cases hgd : gdep oj.op with
      | false => rw [← det_gdep (G := X.G) hgd]; exact hv
      | true =>
        obtain ⟨o2, ho2, hc2⟩ := coveredBy_ok hcov j hjL
        rw [toList_at p1] at ho2
        cases ho2
        rcases hc2 hgd with hA | hre
        · have := anc_ok (S := fun k => listed.getD k false = true) hS _ _ hr j hA
          rw [hjl] at this; cases this
        · exact still_ok hc (toList_at p1) (allStill_at hstill j hre) hag hv hfd
    · refine k5.same (mask_iff fun t => ?_)
      rw [mem_pendD, mem_pendD]
      constructor
      · rintro ⟨k, k1, k2, k3⟩
        have hki : i ≠ k := by rintro rfl; exact hi k1
        exact ⟨k, List.mem_append_left _ k1, by rw [getD_set_ne false hki]; exact k2, k3⟩
      · rintro ⟨k, k1, k2, k3⟩
        have hki : i ≠ k := by rintro rfl; rw [hself] at k2; cases k2
        rw [getD_set_ne false hki] at k2
        refine ⟨k, ?_, k2, k3⟩
        rcases List.mem_append.1 k1 with k1 | k1
        · exact k1
        · simp at k1; exact absurd k1.symm hki
  · exact hk.elim
end
end Go.VM

namespace Go.VM
section
variable {P : Program} {T : Tab} {β : Type} {PP : β → Prop}
variable {c : Ctx} {ops : Array Oper} {loc : List V} {X0 X : Rx} {ds : List Deferred} {listed : Array Bool} {L : List Nat} {env : List (Nat × V)} {a : Act}

/-- if nothing is ready, nothing is behind -/
theorem Draw.none_behind (h : Draw P T c ops loc X0 ds listed L env X a) (hr : Region.ready .any ops listed = []) : ∀ i ∈ L, listed.getD i false = true := by
  have key : ∀ (q p : List Nat), L = p ++ q → (∀ i ∈ p, listed.getD i false = true) → ∀ i ∈ q, listed.getD i false = true := by
    intro q
    induction q with
    | nil => intro p _ _ i hi; cases hi
    | cons j q ih =>
      intro p hL hp
      have hj : listed.getD j false = true := by
        cases hx : listed.getD j false with
        | true => rfl
        | false =>
          have hjL : j ∈ L := by rw [hL]; simp
          have hlt := h.lim j hjL
          have hin : j ∈ Region.ready .any ops listed := by
            refine ready_iff.2 ⟨?_, ops[j], Array.getElem?_eq_getElem hlt, fun k hk => hp k (h.chain p j q hL _ (Array.getElem?_eq_getElem hlt) k hk)⟩
            have : j < listed.size := by rw [h.size]; exact hlt
            rw [Array.getD_eq_getD_getElem?, Array.getElem?_eq_getElem this] at hx ⊢
            exact hx
          rw [hr] at hin
          cases hin
      intro i hi
      rcases List.mem_cons.1 hi with rfl | hi
      · exact hj
      · exact ih (p ++ [j]) (by rw [hL]; simp) (fun k hk => by
          rcases List.mem_append.1 hk with hk | hk
          · exact hp k hk
          · simp at hk; subst hk; exact hj) i hi
  exact key L [] rfl (fun i hi => by cases hi)
theorem Draw.outside (h : Draw P T c ops loc X0 ds listed L env X a) {e : Nat} (ho : onlyNext L e 0 ops.toList = true) {i : Nat} (hi : i ∈ Region.ready .any ops listed) (hL : i ∉ L) : i = e := by
  obtain ⟨_, o, hio, hp⟩ := ready_iff.1 hi
  have := onlyNext_ok 0 ops.toList ho i o (toList_at hio) (by rw [Nat.zero_add]; exact hL) (fun r hr => h.sub r (hp r hr))
  omega
theorem Draw.all_told (h : Draw P T c ops loc X0 ds listed L env X a) (hl : ∀ i ∈ L, listed.getD i false = true) : ActRel P T X c.keep env loc a := by
  refine h.act.same ?_
  intro t
  rw [find_mask, if_neg]
  intro hm
  obtain ⟨k, k1, k2, _⟩ := mem_pendD.1 hm
  rw [hl k k1] at k2
  cases k2

/-- what is told first may come up behind; then the next -/
theorem first_ok (hT : TabOk P T) (hcl : cleanFrom ops.toList 0 ops.toList = true) {Q : Exit → Act → World → Prop} {i : Nat} {o : Oper} (ho : ops[i]? = some o) (hiL : i ∉ L) (hpr : ∀ k ∈ predsO o, k ∈ L) {m : Nat} (hm : 1 ≤ m)
    (second : ∀ (f : Nat) (listed : Array Bool) (a : Act), Draw P T c ops loc X0 ds listed L env X a → pendN listed L + m ≤ f + 1 → ∀ j ∈ Region.ready .any ops listed, j ∉ L → wpOp P ops Q j (wpAny P .any ops Q f (listed.setIfInBounds j true)) a X.w) :
    ∀ (fuel : Nat) (listed : Array Bool) (a : Act), Draw P T c ops loc X0 ds listed L env X a → pendN listed L + m ≤ fuel → wpAny P .any ops Q fuel listed a X.w
  | 0, _, _, _, hfu => by omega
  | fuel + 1, listed, a, h, hfu => by
    have hil : listed.getD i false = false := by
      cases hx : listed.getD i false with
      | false => rfl
      | true => exact absurd (h.sub i hx) hiL
    have hlt : i < ops.size := (Array.getElem?_eq_some_iff.1 ho).1
    have hsz : i < listed.size := by rw [h.size]; exact hlt
    refine ⟨fun hr => ?_, fun j hj => ?_⟩
    · have hall := h.none_behind hr
      have : i ∈ Region.ready .any ops listed := by
        refine ready_iff.2 ⟨?_, o, ho, fun k hk => hall k (hpr k hk)⟩
        rw [Array.getD_eq_getD_getElem?, Array.getElem?_eq_getElem hsz] at hil ⊢
        exact hil
      rw [hr] at this
      cases this
    · by_cases hL : j ∈ L
      · refine h.pick hT hcl hL hj fun a' h' => first_ok hT hcl ho hiL hpr hm second fuel _ a' h' ?_
        obtain ⟨r1, _⟩ := ready_iff.1 hj
        have hszj : j < listed.size := by rw [h.size]; exact h.lim j hL
        have hjl : listed.getD j false = false := by
          rw [Array.getD_eq_getD_getElem?, Array.getElem?_eq_getElem hszj] at r1 ⊢
          exact r1
        have := pendN_set_lt hszj hjl hL
        omega
      · exact second fuel listed a h hfu j hj hL
/-- the next, where it makes, writes or calls -/
theorem next_ok (hT : TabOk P T) (ha : c.any = false) (hc : c.T = T) (hF : FnsOK P T c) (hcl : cleanFrom ops.toList 0 ops.toList = true) {K : List (Nat × V) → List Reg → R β} {Q : Exit → Act → World → Prop} {i : Nat} {re : List Nat} {rest : Plan} {o : Oper}
    (ho : ops[i]? = some o) (hiL : i ∉ L) (h6 : coveredBy ops.toList (anc ops.toList ops.toList.length (predsO o)) re L = true) {f : Nat}
    (hrest : ∀ (listed : Array Bool) (env : List (Nat × V)) (X : Rx) (a : Act), Draw P T c ops loc X0 ds listed (L ++ [i]) env X a → All PP (execPlan c ops.toList loc rest env X.G K) → pendN listed (L ++ [i]) + planLen rest ≤ f → wpAny P .any ops Q f listed a X.w)
    (h : Draw P T c ops loc X0 ds listed L env X a) (hK : All PP (execPlan c ops.toList loc (.cons i re rest) env X.G K)) (hfu : pendN listed L + planLen rest ≤ f) (hj : i ∈ Region.ready .any ops listed) :
    wpOp P ops Q i (wpAny P .any ops Q f (listed.setIfInBounds i true)) a X.w := by
  have hsz : i < listed.size := by rw [h.size]; exact (Array.getElem?_eq_some_iff.1 ho).1
  obtain ⟨_, o2, ho2, hr2⟩ := ready_iff.1 hj
  rw [ho] at ho2
  cases ho2
  have ho' := toList_at ho
  have hK2 : All PP (guardOp c ops.toList loc o env X.G fun env' G' => match allStill c ops.toList loc (touches c (opnd c.keep env loc) X.G o.op) env' X.G G' re with
      | true => execPlan c ops.toList loc rest env' G' K
      | false => .fail) := by
    simp only [execPlan, ho'] at hK
    cases re with
    | nil => exact hK
    | cons r re => exact hK
  refine h.effect hT ha hc hF hcl ho hiL hr2 h6 hK2 ?_
  intro env' Y a' hk h'
  refine hrest _ env' Y a' h' hk ?_
  have hle := pendN_set_le (listed := listed) i L
  have hself : (listed.setIfInBounds i true).getD i false = true := by simp [hsz]
  rw [pendN_append]
  simp only [pendN, hself]
  omega
theorem notin {i : Nat} {L : List Nat} (h1 : (match memN i L with | true => false | false => true) = true) : i ∉ L := by
  intro hi
  rw [memN_mem.2 hi] at h1; cases h1

theorem plan_ok (hT : TabOk P T) (ha : c.any = false) (hc : c.T = T) (hF : FnsOK P T c) (hcl : cleanFrom ops.toList 0 ops.toList = true) {K : List (Nat × V) → List Reg → R β} {Q : Exit → Act → World → Prop}
    (hQ : ∀ env' Y a', All PP (K env' Y.G) → RInv P T Y → Step X0 Y → ActRel P T Y c.keep env' loc a' → a'.tmps.size = c.nt → a'.defers = ds → Q .normal a' Y.w) :
    ∀ (rest : Plan) (L A : List Nat), planOk ops.toList L A rest = true →
      (∀ (f : Nat) (listed : Array Bool) (env : List (Nat × V)) (X : Rx) (a : Act), Draw P T c ops loc X0 ds listed L env X a → All PP (execPlan c ops.toList loc rest env X.G K) → pendN listed L + planLen rest ≤ f + 1 →
        ∀ j ∈ Region.ready .any ops listed, j ∉ L → j ∉ A → wpOp P ops Q j (wpAny P .any ops Q f (listed.setIfInBounds j true)) a X.w) ∧
      (A = [] → ∀ (fuel : Nat) (listed : Array Bool) (env : List (Nat × V)) (X : Rx) (a : Act), Draw P T c ops loc X0 ds listed L env X a → All PP (execPlan c ops.toList loc rest env X.G K) →
        pendN listed L + planLen rest ≤ fuel → wpAny P .any ops Q fuel listed a X.w)
  | .nil, L, A, hp => by
    cases A with
    | cons _ _ => cases hp
    | nil =>
    have hp : onlyNext L ops.toList.length 0 ops.toList = true := hp
    have out : ∀ (listed : Array Bool) (env : List (Nat × V)) (X : Rx) (a : Act), Draw P T c ops loc X0 ds listed L env X a → ∀ i ∈ Region.ready .any ops listed, i ∈ L := by
      intro listed env X a h i hi
      by_cases hL : i ∈ L
      · exact hL
      · have e := h.outside hp hi hL
        obtain ⟨_, o, hio, _⟩ := ready_iff.1 hi
        have hlt := (Array.getElem?_eq_some_iff.1 hio).1
        simp at e; omega
    refine ⟨fun f listed env X a h _ _ j hj hL _ => absurd (out listed env X a h j hj) hL, fun _ fuel => ?_⟩
    induction fuel with
    | zero =>
      intro listed env X a h hK hfu
      have hl := pendN_zero (listed := listed) (L := L) (by omega)
      have hK : All PP (K env X.G) := hK
      refine ⟨?_, hQ env X a hK h.inv h.step (h.all_told hl) h.tsz h.defs⟩
      rw [List.eq_nil_iff_forall_not_mem]
      intro i hi
      have hL := out listed env X a h i hi
      obtain ⟨r1, _⟩ := ready_iff.1 hi
      have hsz : i < listed.size := by rw [h.size]; exact h.lim i hL
      have h2 := hl i hL
      rw [Array.getD_eq_getD_getElem?, Array.getElem?_eq_getElem hsz] at r1 h2
      simp only [Option.getD_some] at r1 h2
      rw [h2] at r1; cases r1
    | succ fuel ih =>
      intro listed env X a h hK hfu
      refine ⟨fun hr => hQ env X a hK h.inv h.step (h.all_told (h.none_behind hr)) h.tsz h.defs, fun i hi => ?_⟩
      have hL := out listed env X a h i hi
      refine h.pick hT hcl hL hi fun a' h' => ih _ env X a' h' hK ?_
      obtain ⟨r1, _⟩ := ready_iff.1 hi
      have hsz : i < listed.size := by rw [h.size]; exact h.lim i hL
      have hil : listed.getD i false = false := by
        rw [Array.getD_eq_getD_getElem?, Array.getElem?_eq_getElem hsz] at r1 ⊢
        exact r1
      have := pendN_set_lt hsz hil hL
      omega
  | .cons i re rest, L, A, hp => by
    simp only [planOk] at hp
    cases ho' : ops.toList[i]? with
    | none => rw [ho'] at hp; cases hp
    | some o =>
      rw [ho'] at hp
      simp only [Bool.and_eq_true] at hp
      obtain ⟨⟨⟨h1, h2⟩, h3⟩, h4⟩ := hp
      have ho : ops[i]? = some o := by simpa using ho'
      have hiL := notin h1
      have hpr := subL_iff.1 h2
      have IH := (plan_ok hT ha hc hF hcl hQ rest (L ++ [i]) [] h4).2 rfl
      cases hdet : Op.isDet o.op && !antiB ops.toList i o with
      | true =>
        rw [hdet] at h3
        simp only [Bool.and_eq_true, Bool.not_eq_true'] at hdet
        cases re with
        | cons r re => cases h3
        | nil =>
        cases A with
        | cons _ _ => cases h3
        | nil =>
          have key : ∀ (fuel : Nat) (listed : Array Bool) (env : List (Nat × V)) (X : Rx) (a : Act), Draw P T c ops loc X0 ds listed L env X a → All PP (execPlan c ops.toList loc (.cons i [] rest) env X.G K) →
              pendN listed L + planLen (.cons i [] rest) ≤ fuel → wpAny P .any ops Q fuel listed a X.w := by
            intro fuel listed env X a h hK hfu
            simp only [execPlan, ho'] at hK
            obtain ⟨env', hk, h'⟩ := h.ahead ha hc hcl ho hdet.1 hdet.2 hiL hpr hK
            refine IH fuel listed env' X a h' hk ?_
            rw [pendN_append]
            simp only [pendN, planLen] at hfu ⊢
            split <;> omega
          exact ⟨fun f listed env X a h hK hfu j hj _ _ => (key (f + 1) listed env X a h hK hfu).2 j hj, fun _ => key⟩
      | false =>
        rw [hdet] at h3
        simp only [Bool.and_eq_true] at h3
        obtain ⟨h5, h6⟩ := h3
        have second : ∀ (f : Nat) (listed : Array Bool) (env : List (Nat × V)) (X : Rx) (a : Act), Draw P T c ops loc X0 ds listed L env X a → All PP (execPlan c ops.toList loc (.cons i re rest) env X.G K) → pendN listed L + planLen (.cons i re rest) ≤ f + 1 →
            ∀ j ∈ Region.ready .any ops listed, j ∉ L → j ∉ A → wpOp P ops Q j (wpAny P .any ops Q f (listed.setIfInBounds j true)) a X.w := by
          intro f listed env X a h hK hfu j hj hL hA
          have hjo : j = i := by
            obtain ⟨_, oj, hjo, hjp⟩ := ready_iff.1 hj
            have := onlyNextL_ok 0 ops.toList h5 j oj (toList_at hjo) (by rw [Nat.zero_add]; exact hL) (fun r hr => h.sub r (hjp r hr))
            rw [Nat.zero_add] at this
            rcases List.mem_cons.1 this with e | e
            · exact e
            · exact absurd e hA
          subst hjo
          simp only [planLen] at hfu
          exact next_ok hT ha hc hF hcl ho hiL h6 (IH f) h hK (by omega) hj
        refine ⟨second, fun hA fuel listed env X a h hK hfu => ?_⟩
        exact first_ok hT hcl ho hiL hpr (m := planLen (.cons i re rest)) (by simp only [planLen]; omega) (fun f listed a h hfu j hj hL => second f listed env X a h hK hfu j hj hL (by rw [hA]; exact List.not_mem_nil)) fuel listed a h hfu
  | .alt i re rest other, L, A, hp => by
    simp only [planOk] at hp
    cases ho' : ops.toList[i]? with
    | none => rw [ho'] at hp; cases hp
    | some o =>
      rw [ho'] at hp
      simp only [Bool.and_eq_true] at hp
      obtain ⟨⟨⟨⟨h1, h2⟩, h6⟩, h4⟩, h7⟩ := hp
      have ho : ops[i]? = some o := by simpa using ho'
      have hiL := notin h1
      have hpr := subL_iff.1 h2
      have IH := (plan_ok hT ha hc hF hcl hQ rest (L ++ [i]) [] h4).2 rfl
      have IO := (plan_ok hT ha hc hF hcl hQ other L (i :: A) h7).1
      have second : ∀ (f : Nat) (listed : Array Bool) (env : List (Nat × V)) (X : Rx) (a : Act), Draw P T c ops loc X0 ds listed L env X a → All PP (execPlan c ops.toList loc (.alt i re rest other) env X.G K) → pendN listed L + planLen (.alt i re rest other) ≤ f + 1 →
          ∀ j ∈ Region.ready .any ops listed, j ∉ L → j ∉ A → wpOp P ops Q j (wpAny P .any ops Q f (listed.setIfInBounds j true)) a X.w := by
        intro f listed env X a h hK hfu j hj hL hA
        simp only [planLen] at hfu
        have hK : All PP (anyBool fun b => match b with
            | true => execPlan c ops.toList loc (.cons i re rest) env X.G K
            | false => execPlan c ops.toList loc other env X.G K) := hK
        by_cases e : j = i
        · subst e
          exact next_ok hT ha hc hF hcl ho hiL h6 (IH f) h (all_anyBool hK true) (by omega) hj
        · exact IO f listed env X a h (all_anyBool hK false) (by omega) j hj hL (fun hm => by
            rcases List.mem_cons.1 hm with e' | e'
            · exact e e'
            · exact hA e')
      refine ⟨second, fun hA fuel listed env X a h hK hfu => ?_⟩
      exact first_ok hT hcl ho hiL hpr (m := planLen (.alt i re rest other)) (by simp only [planLen]; omega) (fun f listed a h hfu j hj hL => second f listed env X a h hK hfu j hj hL (by rw [hA]; exact List.not_mem_nil)) fuel listed a h hfu
end
end Go.VM

namespace Go.VM
section
variable {P : Program} {T : Tab}

/-- A REGION THAT DRAWS ITS ORDER IS AS ITS PLAN SAYS. -/
theorem drawn_ok (hT : TabOk P T) {c : Ctx} (hc : c.T = T) (hF : FnsOK P T c) (hm : P.follows .mixedOrders = true) {id : Nat} {ops : Array Oper} (h : ∀ p, find id c.plan = some p → regOk ops.toList p = true) : RegionOK P T c id ops := by
  intro m nt β PP p loc K Q X a hp hX hA hsz hK hQ
  have hr := h p hp
  unfold regOk at hr
  simp only [Bool.and_eq_true] at hr
  obtain ⟨⟨h1, h2⟩, h3⟩ := hr
  refine wp_region_any hm ?_
  refine (plan_ok (c := { c with m := m, nt := nt, any := false }) (X0 := X) (ds := a.defers) (loc := loc) hT rfl hc hF h2 (fun env' Y a' k1 k2 k3 k4 k5 k6 => hQ env' Y a' k1 k2 k3 k4 k5 k6) p [] [] h3).2 rfl ops.size _ [] (drewX X) a ?_ hK ?_
  · have hno : ∀ i, (Array.replicate ops.size false).getD i false = true → False := by
      intro i hi
      rw [Array.getD_eq_getD_getElem?, Array.getElem?_replicate] at hi
      split at hi <;> simp at hi
    refine ⟨by simp, fun i hi => (hno i hi).elim, fun i hi => (List.not_mem_nil hi).elim, fun i o hi => (hno i hi).elim, fun p i q hpq => by simp at hpq, fun i hi => (List.not_mem_nil hi).elim, drew_inv hX, drew_step X, ?_, hsz, rfl⟩
    · exact (hA.mono (drew_ext X)).same fun t => by simp [find_mask, pendD]
  · simp only [pendN]
    have := Nat.le_of_ble_eq_true h1
    simp at this
    omega
end
end Go.VM
