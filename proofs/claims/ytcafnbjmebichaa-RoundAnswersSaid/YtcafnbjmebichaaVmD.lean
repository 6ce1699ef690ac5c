/- Shapes of values; the table of types, checked; what comes in from a statement. No conditions. -/
import Derived.Test.YtcafnbjmebichaaVmC
import Derived.OpenShut
import Derived.ProofKit
import Derived.DeepKeys5
import Derived.IntWalk
namespace Go.VM

/-! ### Shapes of values and regions -/
inductive Sh where
  | any | junk | undef | bool | int (k : IntKind) | str | nilp | ptr (r : Nat) (p : List Nat) (t : Nat) | sub (r : Nat) | cut (r : Nat) | view (e : Nat) | ei | nd (t : Nat) (l : List Sh) | arr (t n : Nat) | tup (l : List Sh) | nilf | nils | fn (f : Nat) (l : List Sh) | mp (r : Nat) | nilm
  deriving Inhabited
inductive RSh where
  | any | gone | box (t : Nat) (s : Sh) | row (e : Nat) | frz (e : Nat) | mp0 (t c : Nat) | mpl (t : Nat)
  deriving Inhabited

def subO : V → Nat | .sub _ o _ => o | _ => 0
def subN' : V → Nat | .sub _ _ n => n | _ => 0
def tupAt : V → Nat → V
  | .tup l, i => l.getD i .junk
  | _, _ => .junk
def capAt : V → Nat → V
  | .fn _ l, i => l.getD i .junk
  | _, _ => .junk
def regV : Reg → V | .box _ v => v | _ => .junk
def regN : Reg → Nat | .row _ n _ => n | .frz _ n _ => n | _ => 0
def regF : Reg → Nat → V | .row _ _ f => f | .frz _ _ f => f | _ => fun _ => .junk

def mapC : Reg → Nat | .map _ c _ => c | _ => 0
def mapL : Reg → List (Nat × V × V) | .map _ _ l => l | _ => []
def noEntry : List (Nat × V × V) → Bool | [] => true | _ => false
mutual
def shV : Sh → V → Bool
  | .any, _ => true
  | .junk, v => match v with | .junk => true | _ => false
  | .undef, v => match v with | .undef => true | _ => false
  | .bool, v => match v with | .bool _ => true | _ => false
  | .int k, v => match v with | .int j _ => sameK j k | _ => false
  | .str, v => match v with | .str _ => true | _ => false
  | .nilp, v => match v with | .nilp => true | _ => false
  | .nilf, v => match v with | .nilf => true | _ => false
  | .nils, v => match v with | .nils => true | _ => false
  | .nilm, v => match v with | .nilm => true | _ => false
  | .mp r, v => match v with | .mp s => Nat.beq s r | _ => false
  | .ptr r p t, v => match v with | .ptr s q u => Nat.beq s r && (listBeq q p && Nat.beq u t) | _ => false
  | .sub r, v => match v with | .sub s o _ => Nat.beq s r && Nat.beq o 0 | _ => false
  | .cut r, v => match v with | .sub s _ _ => Nat.beq s r | _ => false
  | .view e, v => match v with | .view e' _ _ => Nat.beq e' e | _ => false
  | .ei, v => match v with | .ei _ _ _ => true | _ => false
  | .nd t l, v => match v with | .nd u m => Nat.beq u t && shVs l m | _ => false
  | .arr t n, v => match v with | .arr u m _ => Nat.beq u t && Nat.beq m n | _ => false
  | .tup l, v => match v with | .tup m => shVs l m | _ => false
  | .fn f l, v => match v with | .fn g m => Nat.beq g f && shVs l m | _ => false
def shVs : List Sh → List V → Bool
  | [], m => match m with | [] => true | _ => false
  | s :: l, m => match m with | v :: m => shV s v && shVs l m | [] => false
end
mutual
def mkV : Sh → V → V
  | .any, v => v
  | .junk, _ => .junk
  | .undef, _ => .undef
  | .bool, v => .bool (boolV v)
  | .int k, v => .int k (intV v)
  | .str, v => .str (strV v)
  | .nilp, _ => .nilp
  | .nilf, _ => .nilf
  | .nils, _ => .nils
  | .nilm, _ => .nilm
  | .mp r, _ => .mp r
  | .ptr r p t, _ => .ptr r p t
  | .sub r, v => .sub r 0 (subN' v)
  | .cut r, v => .sub r (subO v) (subN' v)
  | .view e, v => .view e (viewN v) (viewF v)
  | .ei, v => .ei (eiB v) (eiT v) (eiN v)
  | .nd t l, v => .nd t (mkVs l (partV v) 0)
  | .arr t n, v => .arr t n (arrF v)
  | .tup l, v => .tup (mkVs l (tupAt v) 0)
  | .fn f l, v => .fn f (mkVs l (capAt v) 0)
def mkVs : List Sh → (Nat → V) → Nat → List V
  | [], _, _ => []
  | s :: l, g, i => mkV s (g i) :: mkVs l g (i + 1)
end
def shR : RSh → Reg → Bool
  | .any, _ => true
  | .gone, g => match g with | .gone => true | _ => false
  | .box t s, g => match g with | .box u v => Nat.beq u t && shV s v | _ => false
  | .row e, g => match g with | .row e' _ _ => Nat.beq e' e | _ => false
  | .frz e, g => match g with | .frz e' _ _ => Nat.beq e' e | _ => false
  | .mp0 t c, g => match g with | .map u d l => Nat.beq u t && (Nat.beq d c && noEntry l) | _ => false
  | .mpl t, g => match g with | .map u _ _ => Nat.beq u t | _ => false
def mkR : RSh → Reg → Reg
  | .any, g => g
  | .gone, _ => .gone
  | .box t s, g => .box t (mkV s (regV g))
  | .row e, g => .row e (regN g) (regF g)
  | .frz e, g => .frz e (regN g) (regF g)
  | .mp0 t c, _ => .map t c []
  | .mpl t, g => .map t (mapC g) (mapL g)
def shG : List RSh → List Reg → Bool
  | [], m => match m with | [] => true | _ => false
  | s :: l, m => match m with | g :: m => shR s g && shG l m | [] => false
def mkG : List RSh → (Nat → Reg) → Nat → List Reg
  | [], _, _ => []
  | s :: l, g, i => mkR s (g i) :: mkG l g (i + 1)
def locAt (l : List V) (i : Nat) : V := l.getD i .junk
def regAt (G : List Reg) (i : Nat) : Reg := G.getD i .gone

theorem mkV_all : (∀ (v : V) (s : Sh), shV s v = true → mkV s v = v) ∧ (∀ (m : List V) (l : List Sh) (g : Nat → V) (i : Nat), (∀ j, g (i + j) = m.getD j .junk) → shVs l m = true → mkVs l g i = m) := by
  apply V.ind (M := fun v => ∀ (s : Sh), shV s v = true → mkV s v = v) (L := fun m => ∀ (l : List Sh) (g : Nat → V) (i : Nat), (∀ j, g (i + j) = m.getD j .junk) → shVs l m = true → mkVs l g i = m)
  case nil =>
    intro l g i hg h
    cases l with
    | nil => rfl
    | cons s l => simp [shVs] at h
  case cons =>
    intro v m ihv ihm l g i hg h
    cases l with
    | nil => simp [shVs] at h
    | cons s l =>
      simp only [shVs, Bool.and_eq_true] at h
      have e0 : g i = v := by simpa using hg 0
      simp only [mkVs]
      rw [e0, ihv s h.1, ihm l g (i + 1) (fun j => by have := hg (j + 1); rw [show i + 1 + j = i + (j + 1) by omega]; simpa using this) h.2]
  case nd =>
    intro t m ih s h
    cases s <;> simp only [shV, Bool.and_eq_true, Bool.false_eq_true] at h <;> simp only [mkV]
    rename_i t' l
    have := Nat.eq_of_beq_eq_true h.1
    subst this
    rw [ih l (partV (.nd t m)) 0 (fun j => by simp [partV]) h.2]
  case tup =>
    intro m ih s h
    cases s <;> simp only [shV, Bool.false_eq_true] at h <;> simp only [mkV]
    rename_i l
    rw [ih l (tupAt (.tup m)) 0 (fun j => by simp [tupAt]) h]
  case fn =>
    intro g m ih s h
    cases s <;> simp only [shV, Bool.and_eq_true, Bool.false_eq_true] at h <;> simp only [mkV]
    rename_i g' l
    have := Nat.eq_of_beq_eq_true h.1
    subst this
    rw [ih l (capAt (.fn g m)) 0 (fun j => by simp [capAt]) h.2]
  case ptr =>
    intro r p t s h
    cases s <;> simp only [shV, Bool.and_eq_true, Bool.false_eq_true] at h <;> simp only [mkV]
    rw [Nat.eq_of_beq_eq_true h.1, listBeq_eq h.2.1, Nat.eq_of_beq_eq_true h.2.2]
  case sub =>
    intro r o n s h
    cases s <;> simp only [shV, Bool.and_eq_true, Bool.false_eq_true] at h <;> simp only [mkV, subN', subO]
    · rw [Nat.eq_of_beq_eq_true h.1, Nat.eq_of_beq_eq_true h.2]
    · rw [Nat.eq_of_beq_eq_true h]
  case mp =>
    intro r s h
    cases s <;> simp only [shV, Bool.false_eq_true] at h <;> simp only [mkV]
    rw [Nat.eq_of_beq_eq_true h]
  case int =>
    intro k n s h
    cases s <;> simp only [shV, Bool.false_eq_true] at h <;> simp only [mkV, intV]
    rw [sameK_eq h]
  case view =>
    intro e n f _ s h
    cases s <;> simp only [shV, Bool.false_eq_true] at h <;> simp only [mkV, viewN, viewF]
    rw [Nat.eq_of_beq_eq_true h]
  case arr =>
    intro t n f _ s h
    cases s <;> simp only [shV, Bool.and_eq_true, Bool.false_eq_true] at h <;> simp only [mkV, arrF]
    rw [Nat.eq_of_beq_eq_true h.1, Nat.eq_of_beq_eq_true h.2]
  all_goals (intros; rename_i s h; cases s <;> first | rfl | (simp only [shV, Bool.false_eq_true] at h; done) | (simp only [shV, Bool.false_eq_true] at h))
theorem mkV_eq {s : Sh} {v : V} (h : shV s v = true) : mkV s v = v := mkV_all.1 v s h
theorem mkVs_eq {l : List Sh} {m : List V} (h : shVs l m = true) : mkVs l (locAt m) 0 = m := mkV_all.2 m l (locAt m) 0 (fun j => by simp [locAt]) h
theorem mkR_eq {s : RSh} {g : Reg} (h : shR s g = true) : mkR s g = g := by
  cases s <;> cases g <;> simp only [shR, Bool.and_eq_true, Bool.false_eq_true] at h <;> simp only [mkR, regV, regN, regF]
  · rw [Nat.eq_of_beq_eq_true h.1, mkV_eq h.2]
  · rw [Nat.eq_of_beq_eq_true h]
  · rw [Nat.eq_of_beq_eq_true h]
  · rename_i t c u d l
    cases l with
    | nil => rw [Nat.eq_of_beq_eq_true h.1, Nat.eq_of_beq_eq_true h.2.1]
    | cons e l => simp [noEntry] at h
  · rw [Nat.eq_of_beq_eq_true h]; rfl
theorem mkG_eq' : ∀ (m : List Reg) (l : List RSh) (g : Nat → Reg) (i : Nat), (∀ j, g (i + j) = m.getD j .gone) → shG l m = true → mkG l g i = m
  | [], l, g, i, hg, h => by
    cases l with
    | nil => rfl
    | cons s l => simp [shG] at h
  | x :: m, l, g, i, hg, h => by
    cases l with
    | nil => simp [shG] at h
    | cons s l =>
      simp only [shG, Bool.and_eq_true] at h
      have e0 : g i = x := by simpa using hg 0
      simp only [mkG]
      rw [e0, mkR_eq h.1, mkG_eq' m l g (i + 1) (fun j => by have := hg (j + 1); rw [show i + 1 + j = i + (j + 1) by omega]; simpa using this) h.2]
theorem mkG_eq {l : List RSh} {m : List Reg} (h : shG l m = true) : mkG l (regAt m) 0 = m := mkG_eq' m l (regAt m) 0 (fun j => by simp [regAt]) h

/-- a state's shape -/
def shSt (l : List Sh) (g : List RSh) (st : St) : Bool := shVs l st.loc && shG g st.G
def mkSt (l : List Sh) (g : List RSh) (st : St) : St := ⟨mkVs l (locAt st.loc) 0, mkG g (regAt st.G) 0⟩
theorem mkSt_eq {l : List Sh} {g : List RSh} {st : St} (h : shSt l g st = true) : mkSt l g st = st := by
  simp only [shSt, Bool.and_eq_true] at h
  unfold mkSt
  rw [mkVs_eq h.1, mkG_eq h.2]

/-- a choice, for reading -/
def iteR {β : Type} (b : Bool) (x y : R β) : R β := match b with | true => x | false => y
/-- either of the two -/
def bothR {β : Type} (x y : R β) : R β := .next isBoolV (fun v => match v with | .bool b => (match b with | true => x | false => y) | _ => .fail) .fail
/-- a loop by what it does at states of a shape; its rounds elsewhere -/
def loopE (m0 : Nat) (l : List Sh) (g : List RSh) (run : {β : Type} → St → (Ex → St → R β) → R β) : LoopE := ⟨fun m st K alt => match Nat.beq m m0 && shSt l g st with | true => run st K | false => alt⟩
/-- a loop that is told at two shapes -/
def loopO (a b : LoopE) : LoopE := ⟨fun m st K alt => a.run m st K (b.run m st K alt)⟩
/-- a function by what it does at arguments of a shape; another tale elsewhere -/
def entryE (own : List Nat) (l : List Sh) (g : List RSh) (run : {β : Type} → List V → List Reg → (V → List Reg → R β) → R β) (alt : Entry) : Entry := ⟨own, fun args G K => match shVs l args && shG g G with | true => run args G K | false => alt.run args G K⟩

section
variable {P : Program} {T : Tab} {β : Type} {PP : β → Prop}
/-- what is to be shown of a loop that is told -/
def LoopTold (c : Ctx) (nt k : Nat) (b : Code) (L : LoopE) : Prop :=
  ∀ {β : Type} {PP : β → Prop} (m : Nat) (st : St) (K : Ex → St → R β) (alt : R β), (All PP alt → All PP (loopN (exec { c with m := m, nt := nt } b k) (canonK { c with m := m, nt := nt } k) c.N st K)) → All PP (L.run m st K alt) → All PP (loopN (exec { c with m := m, nt := nt } b k) (canonK { c with m := m, nt := nt } k) c.N st K)
theorem loopE_told {c : Ctx} {nt k : Nat} {b : Code} {m0 : Nat} {l : List Sh} {g : List RSh} {run : {β : Type} → St → (Ex → St → R β) → R β}
    (h : ∀ {β : Type} {PP : β → Prop} (st : St) (K : Ex → St → R β), All PP (run st K) → All PP (loopN (exec { c with m := m0, nt := nt } b k) (canonK { c with m := m0, nt := nt } k) c.N (mkSt l g st) K)) : LoopTold c nt k b (loopE m0 l g run) := by
  intro β PP m st K alt ha hr
  have hr2 : All PP (match Nat.beq m m0 && shSt l g st with | true => run st K | false => alt) := hr
  cases hs : Nat.beq m m0 && shSt l g st with
  | false => rw [hs] at hr2; exact ha hr2
  | true =>
    rw [hs] at hr2
    simp only [Bool.and_eq_true] at hs
    have hm := Nat.eq_of_beq_eq_true hs.1
    subst hm
    have := h st K hr2
    rw [mkSt_eq hs.2] at this
    exact this
theorem loopO_told {c : Ctx} {nt k : Nat} {b : Code} {x y : LoopE} (hx : LoopTold c nt k b x) (hy : LoopTold c nt k b y) : LoopTold c nt k b (loopO x y) :=
  fun m st K alt ha hr => hx m st K _ (fun h => hy m st K alt ha h) hr
theorem loopOK_of {c : Ctx} {nt k : Nat} {b : Code} {L : LoopE} (hf : find k c.loops = some L) (h : LoopTold c nt k b L) : LoopOK c nt k b := by
  intro L' hL β PP m st K hr
  rw [hf] at hL
  cases hL
  exact h m st K _ (fun h => h) hr
theorem loopE_ok {c : Ctx} {nt k : Nat} {b : Code} {m0 : Nat} {l : List Sh} {g : List RSh} {run : {β : Type} → St → (Ex → St → R β) → R β} (hf : find k c.loops = some (loopE m0 l g run))
    (h : ∀ {β : Type} {PP : β → Prop} (st : St) (K : Ex → St → R β), All PP (run st K) → All PP (loopN (exec { c with m := m0, nt := nt } b k) (canonK { c with m := m0, nt := nt } k) c.N (mkSt l g st) K)) : LoopOK c nt k b :=
  loopOK_of hf (loopE_told h)
theorem loopOK_none {c : Ctx} {nt k : Nat} {b : Code} (hf : find k c.loops = none) : LoopOK c nt k b := by
  intro L hL; rw [hf] at hL; cases hL
end
end Go.VM

namespace Go.VM
section
variable {P : Program} {T : Tab} {β : Type} {PP : β → Prop}

/-- the same region, but for what stands behind a row's elements -/
def RowSame : Reg → Reg → Prop
  | .row e n f, .row e' n' g => e = e' ∧ n = n' ∧ ∀ i, i < n → f i = g i
  | .frz e n f, .frz e' n' g => e = e' ∧ n = n' ∧ ∀ i, i < n → f i = g i
  | a, b => a = b
def RowsSame (G G' : List Reg) : Prop := G'.length = G.length ∧ ∀ r, RowSame (G.getD r .gone) (G'.getD r .gone)
theorem RowSame.refl (g : Reg) : RowSame g g := by cases g <;> simp [RowSame]
theorem RowSame.kind {a b : Reg} (h : RowSame a b) : (a = .gone ∧ b = .gone) ∨ (a ≠ .gone ∧ sameKind a b ∧ (writable b ↔ writable a)) := by
  cases a <;> cases b <;> simp_all [RowSame, sameKind, writable]
theorem RowsSame.nil : RowsSame [] [] := ⟨rfl, fun r => by simp [RowSame]⟩
theorem RowsSame.cons {a b : Reg} {l m : List Reg} (h : RowSame a b) (hl : RowsSame l m) : RowsSame (a :: l) (b :: m) :=
  ⟨by simp [hl.1], fun r => by
    cases r with
    | zero => simpa using h
    | succ r => simpa using hl.2 r⟩
theorem RowsSame.refl (G : List Reg) : RowsSame G G := ⟨rfl, fun _ => RowSame.refl _⟩

theorem rows_ok {Y : Rx} (hY : RInv P T Y) {G' : List Reg} (h : RowsSame Y.G G') : RInv P T { Y with G := G' } ∧ Ext Y { Y with G := G' } ∧ ∀ X, Step X Y → Step X { Y with G := G' } := by
  have hk : ∀ r, (Y.reg r = .gone ∧ ({ Y with G := G' } : Rx).reg r = .gone) ∨ (Y.reg r ≠ .gone ∧ sameKind (Y.reg r) (({ Y with G := G' } : Rx).reg r) ∧ (writable (({ Y with G := G' } : Rx).reg r) ↔ writable (Y.reg r))) :=
    fun r => RowSame.kind (h.2 r)
  have hE : Ext Y { Y with G := G' } := by
    refine ⟨fun r hr => ?_, fun b hb => ⟨hb, rfl⟩⟩
    rcases hk r with ⟨h1, h2⟩ | ⟨h1, h2, h3⟩
    · exact .inl ⟨by show r < G'.length; rw [h.1]; exact hr, h2⟩
    · exact .inr ⟨fun hd => h1 hd.2, rfl, h2, fun _ _ => Nat.le_refl _⟩
  have hgone : ∀ r, ({ Y with G := G' } : Rx).reg r ≠ .gone → Y.reg r ≠ .gone := by
    intro r hr
    rcases hk r with ⟨h1, h2⟩ | ⟨h1, _⟩
    · exact absurd h2 hr
    · exact h1
  have hwr : ∀ r, writable (({ Y with G := G' } : Rx).reg r) → writable (Y.reg r) := by
    intro r hr
    rcases hk r with ⟨h1, h2⟩ | ⟨_, _, h3⟩
    · rw [h2] at hr; exact hr.elim
    · exact h3.1 hr
  refine ⟨⟨by show Y.ρ.length = G'.length; rw [h.1]; exact hY.len, fun r hr => ?_, fun r s b hrs hr hs => ?_, fun b hb => ⟨(hY.safe b hb).1, fun r hr hw => (hY.safe b hb).2 r hr (hwr r hw)⟩⟩, hE, fun X hX => ⟨hX.ext.trans hE hX.len, hX.os, hX.tape, hX.output, hX.size, by show X.G.length ≤ G'.length; rw [h.1]; exact hX.len, hX.keep, fun r b hr hl => ?_, hX.sown⟩⟩
  · have hr' : r < Y.G.length := by have : r < G'.length := hr; rw [h.1] at this; exact this
    have hreg := hY.reg r hr'
    have hs := h.2 r
    have hrow : ∀ e n f g z, RowOk P T Y r e n f z → (∀ i, i < n → f i = g i) → RowOk P T { Y with G := G' } r e n g z := by
      rintro e n f g z ⟨h1, h2, h3⟩ hfg
      refine ⟨h1, fun i hi => by rw [← hfg i hi]; exact h2 i hi, h3.imp id ?_⟩
      rintro ⟨b, cs, el, fz, cap, k1, k2, k3, k4, k5, k6, k7⟩
      exact ⟨b, cs, el, fz, cap, k1, k2, k3, k4, k5, k6, fun i hi => by rw [← hfg i hi]; exact relF_mono hE (k7 i hi)⟩
    have e1 : Y.reg r = Y.G.getD r .gone := rfl
    have e2 : ({ Y with G := G' } : Rx).reg r = G'.getD r .gone := rfl
    unfold RegOk at hreg ⊢
    rw [e1] at hreg
    rw [e2]
    generalize Y.G.getD r .gone = a at hreg hs
    generalize G'.getD r .gone = b at hs
    cases a with
    | row e n f =>
      cases b <;> simp only [RowSame, reduceCtorEq] at hs
      obtain ⟨rfl, rfl, hs⟩ := hs
      exact hrow _ _ _ _ _ hreg hs
    | frz e n f =>
      cases b <;> simp only [RowSame, reduceCtorEq] at hs
      obtain ⟨rfl, rfl, hs⟩ := hs
      exact hrow _ _ _ _ _ hreg hs
    | box t v =>
      have : b = .box t v := by cases b <;> simp_all [RowSame]
      subst this
      simp only at hreg ⊢
      obtain ⟨h1, h2, b, cs, el, k1, k2, k3, k4⟩ := hreg
      exact ⟨h1, h2, b, cs, el, k1, k2, k3, relF_mono hE k4⟩
    | gone =>
      have : b = .gone := by cases b <;> simp_all [RowSame]
      subst this
      trivial
    | map t c l =>
      have : b = .map t c l := by cases b <;> simp_all [RowSame]
      subst this
      simp only at hreg ⊢
      obtain ⟨k, e, hd, b, es, k1, k2, k3, hds, k4⟩ := hreg
      exact ⟨k, e, hd, b, es, k1, k2, k3, hds, fun i kv hi => by
        obtain ⟨f0, f1, f2, en, e1, e2, e3, e5, e4⟩ := k4 i kv hi
        exact ⟨f0, f1, f2, en, e1, rel_mono hE e2, rel_mono hE e3, e5, e4⟩⟩
    | iter m a c s =>
      have : b = .iter m a c s := by cases b <;> simp_all [RowSame]
      subst this
      simp only at hreg ⊢
      obtain ⟨b, bm, seen, k1, k2, k3, k4⟩ := hreg
      exact ⟨b, bm, seen, k1, k2, k3, relF_mono hE k4⟩
  · rcases hY.inj r s b hrs hr hs with h' | h'
    · left
      rcases hk r with ⟨_, h2⟩ | ⟨h1, _⟩
      · exact h2
      · exact absurd h' h1
    · right
      rcases hk s with ⟨_, h2⟩ | ⟨h1, _⟩
      · exact h2
      · exact absurd h' h1
  · rcases hX.own r b hr (hgone r hl) with h' | ⟨s, h1, h2, h3⟩
    · exact .inl h'
    · exact .inr ⟨s, h1, h2, fun hw => h3 (hwr r hw)⟩

/-- what an entry comes to, told but for what stands behind rows' elements -/
theorem entry_rows {n : Nat} {own own' : List Nat} {run0 run : {β : Type} → List V → List Reg → (V → List Reg → R β) → R β} (h0 : EntryOK P T n ⟨own, fun a G K => run0 a G K⟩)
    (h : ∀ {β : Type} {PP : β → Prop} (args : List V) (G : List Reg) (K : V → List Reg → R β), All PP (run args G K) →
      All (fun p : V × List Reg => ∃ G', RowsSame p.2 G' ∧ All PP (K p.1 G')) (run0 args G fun v G => .ret (v, G))) : EntryOK P T n ⟨own', fun a G K => run a G K⟩ := by
  intro β PP X args xs K hX hA hr Q hQ
  refine h0 hX hA (h args X.G K hr) Q ?_
  intro v y Y hk hI hS hR
  obtain ⟨G', hs, hk⟩ := hk
  obtain ⟨r1, r2, r3⟩ := rows_ok hI hs
  exact hQ v y { Y with G := G' } hk r1 (r3 X hS) (rel_mono r2 hR)
end
end Go.VM

namespace Go.VM
section
variable (P : Program) (T : Tab)

/-! ### The table of types, checked -/
def undB : TyD → TypeDesc → Bool
  | .int k, u => match u with | .int j => sameK k j | _ => false
  | .bool, u => match u with | .bool => true | _ => false
  | .str, u => match u with | .string => true | _ => false
  | .ptr e, u => match u with | .pointer e' => Nat.beq e e' | _ => false
  | .slice e, u => match u with | .slice e' => Nat.beq e e' | _ => false
  | .map k e, u => match u with | .map k' e' => Nat.beq k k' && Nat.beq e e' | _ => false
  | .func, u => match u with | .func .. => true | _ => false
  | .iface, u => match u with | .interface _ => true | _ => false
  | .st fs, u => match u with | .struct fields => listBeq (fields.toList.map (·.type)) fs && fieldsB P fs 0 fields.toList | _ => false
  | .ar n e, u => match u with | .array n' e' => Nat.beq n n' && Nat.beq e e' | _ => false
where
  fieldsB (P : Program) (fs : List Nat) : Nat → List Field → Bool
    | _, [] => true
    | i, f :: l => Nat.beq f.offset (foff P fs i) && !(f.name == "_") && fieldsB P fs (i + 1) l
def allInt (k : IntKind) : List Value → Bool
  | [] => true
  | c :: l => (match c with | .int j m => sameK k j && decide (m = 0) | _ => false) && allInt k l
mutual
/-- these cells are the zero of this type -/
def zeroB (T : Tab) : Nat → Nat → List Value → Bool
  | 0, _, _ => false
  | d + 1, t, cs => match find t T with
    | some (.int k) => (match cs with | [.int j m] => sameK k j && decide (m = 0) | _ => false)
    | some .bool => (match cs with | [.bool b] => !b | _ => false)
    | some .str => (match cs with | [.string s] => decide (s = ByteArray.empty) | _ => false)
    | some (.ptr _) => (match cs with | [.pointer none] => true | _ => false)
    | some (.slice _) => (match cs with | [.slice none n m] => Nat.beq n 0 && Nat.beq m 0 | _ => false)
    | some (.map _ _) => (match cs with | [.map none] => true | _ => false)
    | some .func => (match cs with | [.nilFunc] => true | _ => false)
    | some .iface => (match cs with | [.nilIface] => true | _ => false)
    | some (.st fs) => zeroBs T d fs cs
    | some (.ar n e) => (match find e T with | some (.int k) => (match d with | 0 => false | _ + 1 => Nat.beq cs.length n && Nat.beq (sz P e) 1 && allInt k cs) | _ => false)
    | none => false
def zeroBs (T : Tab) : Nat → List Nat → List Value → Bool
  | _, [], cs => (match cs with | [] => true | _ => false)
  | 0, _ :: _, _ => false
  | d + 1, t :: l, cs => Nat.ble (sz P t) cs.length && zeroB T d t (cs.take (sz P t)) && zeroBs T d l (cs.drop (sz P t))
end
def keyTB (k : Nat) : Bool := P.keyType k && match P.underlying k with
  | some (.int _) => true
  | some .bool => true
  | some .string => true
  | some (.struct _) => laidOutB P && Nat.ble (P.types.size + 2) 10000 && Nat.blt k P.types.size && P.keyType k
  | _ => false
def sizeB : Nat → TyD → Bool
  | t, .st fs => Nat.beq (sz P t) (fs.map (sz P)).sum && fs.all fun f => (find f T).isSome
  | t, .ar n e => Nat.beq (sz P t) (n * sz P e) && (match find e T with | some (.int _) => true | _ => false)
  | t, .slice e => Nat.beq (sz P t) 1 && (find e T).isSome && Nat.ble (P.bytesOf e) 32768 && Nat.ble (sz P e) 32768
  | t, .map k e => Nat.beq (sz P t) 1 && (find k T).isSome && (find e T).isSome && keyTB P k
  | t, _ => Nat.beq (sz P t) 1
def aggB (v : V) (x : Value) : Bool := match v with
  | .nd _ _ => (match x with | .agg _ => true | _ => false)
  | .arr _ _ _ => (match x with | .agg _ => true | _ => false)
  | _ => (match x with | .agg _ => false | _ => true)
def factsB (t : Nat) (d : TyD) : Bool :=
  (match P.underlying t with | some u => undB P d u | none => false) &&
  (match P.info? t with
    | some i => (match i.zero with | some z => aggB (T.zero t) z && zeroB P T 60 t (cellsL z) | none => false) && (match d with | .int _ => i.comparable | _ => true)
    | none => false) &&
  sizeB P T t d && (match d with | .st _ => !P.stoodInHeld t | _ => true) && (!eqT T 60 t || !P.eqGuardType P.depth t) && Nat.ble 1 (sz P t)
def tabB : Tab → Bool
  | [] => true
  | (t, d) :: l => factsB P T t d && tabB l
end

section
variable {P : Program} {T : Tab}
theorem keyTB_ok {k : Nat} (h : keyTB P k = true) : Maps.Keyed P k ∧ P.keyType k = true := by
  unfold keyTB at h
  rw [Bool.and_eq_true] at h
  obtain ⟨h0, h⟩ := h
  refine ⟨?_, h0⟩
  split at h
  · rename_i q hu; exact Maps.int_keyed hu
  · rename_i hu; exact Maps.bool_keyed hu
  · rename_i hu; exact Maps.string_keyed hu
  · rename_i fs hu
    simp only [Bool.and_eq_true] at h
    obtain ⟨⟨⟨h1, h2⟩, h3⟩, h4⟩ := h
    exact Maps.Keyed.of_law (deep_law_gate h1 (Nat.le_of_ble_eq_true h2) (Nat.lt_of_lt_of_le (Nat.lt_succ_self k) (Nat.le_of_ble_eq_true h3)) h4 (by rw [hu]))
  · cases h
theorem undB_ok {d : TyD} {u : TypeDesc} (h : undB P d u = true) : Und P d u := by
  cases d <;> cases u <;> simp only [undB, Bool.and_eq_true, Bool.false_eq_true] at h <;> simp only [Und]
  · exact sameK_eq h
  · exact Nat.eq_of_beq_eq_true h
  · exact Nat.eq_of_beq_eq_true h
  · exact ⟨Nat.eq_of_beq_eq_true h.1, Nat.eq_of_beq_eq_true h.2⟩
  · rename_i fs fields
    refine ⟨listBeq_eq h.1, ?_⟩
    have key : ∀ (l : List Field) (k : Nat), undB.fieldsB P fs k l = true → ∀ i f, l[i]? = some f → f.offset = foff P fs (k + i) ∧ f.name ≠ "_" := by
      intro l
      induction l with
      | nil => intro k _ i f hf; simp at hf
      | cons x l ih =>
        intro k hk i f hf
        simp only [undB.fieldsB, Bool.and_eq_true, Bool.not_eq_true', beq_eq_false_iff_ne] at hk
        cases i with
        | zero => simp at hf; subst hf; exact ⟨Nat.eq_of_beq_eq_true hk.1.1, hk.1.2⟩
        | succ i =>
          have := ih (k + 1) hk.2 i f (by simpa using hf)
          rw [show k + (i + 1) = k + 1 + i by omega]
          exact this
    intro i f hf
    have := key fields.toList 0 h.2 i f (by simpa using hf)
    simpa using this
  · exact ⟨Nat.eq_of_beq_eq_true h.1, Nat.eq_of_beq_eq_true h.2⟩

theorem allInt_ok {k : IntKind} : ∀ {l : List Value}, allInt k l = true → l = List.replicate l.length (.int k 0)
  | [], _ => rfl
  | c :: l, h => by
    simp only [allInt, Bool.and_eq_true] at h
    have ih := allInt_ok h.2
    cases c <;> simp only [Bool.false_eq_true, false_and, Bool.and_eq_true, decide_eq_true_eq] at h
    obtain ⟨⟨h1, h2⟩, _⟩ := h
    rw [sameK_eq h1, h2, List.length_cons, List.replicate_succ]
    rw [sameK_eq h1] at ih
    rw [← ih]

theorem zeroB_ok : (∀ (d t : Nat) (cs : List Value), zeroB P T d t cs = true → (RelF P T noX (zeroV T d t) cs ∧ tagShape T t (zeroV T d t))) := by
  have main : ∀ (d : Nat), (∀ (t : Nat) (cs : List Value), zeroB P T d t cs = true → (RelF P T noX (zeroV T d t) cs ∧ tagShape T t (zeroV T d t))) ∧
      (∀ (fs : List Nat) (cs : List Value), zeroBs P T d fs cs = true → RelFs P T noX (zeroVs T d fs) fs cs) := by
    intro d
    induction d with
    | zero =>
      refine ⟨fun t cs h => by simp [zeroB] at h, fun fs cs h => ?_⟩
      cases fs with
      | nil =>
        cases cs with
        | nil => simp [zeroVs, RelFs]
        | cons => simp [zeroBs] at h
      | cons => simp [zeroBs] at h
    | succ d ih =>
      refine ⟨fun t cs h => ?_, fun fs cs h => ?_⟩
      · unfold zeroB at h
        unfold zeroV
        have ag : ∀ {ty : TyD}, find t T = some ty → (∀ fs, ty ≠ .st fs) → (∀ n e, ty ≠ .ar n e) → T.agg t = false := by
          intro ty h1 h2 h3
          unfold Tab.agg
          rw [h1]
          cases ty <;> simp_all
        cases hd : find t T with
        | none => rw [hd] at h; cases h
        | some ty =>
          rw [hd] at h
          cases ty with
          | int k =>
            simp only at h
            split at h
            · simp only [Bool.and_eq_true, decide_eq_true_eq] at h
              obtain ⟨h1, rfl⟩ := h
              rw [sameK_eq h1]
              exact ⟨by simp [RelF], by simp only [tagShape]; exact ag hd (by simp) (by simp)⟩
            · cases h
          | bool =>
            simp only at h
            split at h
            · rename_i b
              cases b <;> simp at h
              exact ⟨by simp [RelF], by simp only [tagShape]; exact ag hd (by simp) (by simp)⟩
            · cases h
          | str =>
            simp only at h
            split at h
            · simp only [decide_eq_true_eq] at h
              subst h
              exact ⟨by simp [RelF], by simp only [tagShape]; exact ag hd (by simp) (by simp)⟩
            · cases h
          | ptr e =>
            simp only at h
            split at h
            · exact ⟨by simp [RelF], by simp only [tagShape]; exact ag hd (by simp) (by simp)⟩
            · cases h
          | slice e =>
            simp only at h
            split at h
            · simp only [Bool.and_eq_true] at h
              rw [Nat.eq_of_beq_eq_true h.1, Nat.eq_of_beq_eq_true h.2]
              exact ⟨by simp [RelF], by simp only [tagShape]; exact ag hd (by simp) (by simp)⟩
            · cases h
          | map k e =>
            simp only at h
            split at h
            · exact ⟨by simp [RelF], by simp only [tagShape]; exact ag hd (by simp) (by simp)⟩
            · cases h
          | func =>
            simp only at h
            split at h
            · exact ⟨by simp [RelF], by simp only [tagShape]; exact ag hd (by simp) (by simp)⟩
            · cases h
          | iface =>
            simp only at h
            split at h
            · exact ⟨by simp [RelF], by simp only [tagShape]; exact ag hd (by simp) (by simp)⟩
            · cases h
          | st fs =>
            simp only at h ⊢
            exact ⟨by simp only [RelF]; exact ⟨fs, hd, ih.2 fs cs h⟩, by simp [tagShape]⟩
          | ar n e =>
            simp only at h ⊢
            cases he : find e T with
            | none => rw [he] at h; cases h
            | some te =>
              rw [he] at h
              cases te with
              | int k =>
                simp only at h
                cases d with
                | zero => cases h
                | succ d =>
                  simp only [Bool.and_eq_true] at h
                  obtain ⟨⟨h1, h2⟩, h3⟩ := h
                  have hn := Nat.eq_of_beq_eq_true h1
                  have hs := Nat.eq_of_beq_eq_true h2
                  have hz : zeroV T (d + 1) e = .int k 0 := by simp [zeroV, he]
                  refine ⟨?_, by simp [tagShape]⟩
                  simp only [RelF, hz]
                  refine ⟨e, hd, fun _ => [.int k 0], ?_, fun i hi => ⟨by simp [Tab.fits, fitV, kindIs, he]; cases k <;> rfl, by simp [hs], by simp⟩⟩
                  have := allInt_ok h3
                  rw [this, hn]
                  clear this h1 h2 h3 hn hd
                  induction n with
                  | zero => rfl
                  | succ n ih => rw [List.range_succ, List.flatMap_append, ← ih, List.replicate_succ']; rfl
              | _ => cases h
      · cases fs with
        | nil =>
          cases cs with
          | nil => simp [zeroVs, RelFs]
          | cons => simp [zeroBs] at h
        | cons t fs =>
          simp only [zeroBs, Bool.and_eq_true] at h
          obtain ⟨⟨h1, h2⟩, h3⟩ := h
          have h1 := Nat.le_of_ble_eq_true h1
          obtain ⟨k1, k2⟩ := ih.1 t _ h2
          simp only [zeroVs, RelFs]
          exact ⟨t, fs, _, _, rfl, (List.take_append_drop (sz P t) cs).symm, k2, by simp; omega, k1, ih.2 fs _ h3⟩
  intro d
  exact (main d).1
theorem aggB_ok {v : V} {x : Value} (h : aggB v x = true) : aggOk v x := by
  cases v <;> cases x <;> simp_all [aggB, aggOk]
theorem tabB_ok : ∀ {l : Tab}, tabB P T l = true → ∀ t d, find t l = some d → TyFacts P T t d
  | [], _, t, d, h => by cases h
  | (s, e) :: l, hb, t, d, h => by
    simp only [tabB, Bool.and_eq_true] at hb
    simp only [find] at h
    cases hs : Nat.beq t s with
    | false => rw [hs] at h; exact tabB_ok hb.2 t d h
    | true =>
      rw [hs] at h
      cases h
      have := Nat.eq_of_beq_eq_true hs
      subst this
      have hf := hb.1
      simp only [factsB, Bool.and_eq_true] at hf
      obtain ⟨⟨⟨⟨⟨f1, f2⟩, f3⟩, f4⟩, f5⟩, f6⟩ := hf
      refine ⟨?_, ?_, ?_, ?_, ?_, ?_, Nat.le_of_ble_eq_true f6⟩
      · cases hu : P.underlying t with
        | none => rw [hu] at f1; cases f1
        | some u => rw [hu] at f1; exact ⟨u, rfl, undB_ok f1⟩
      · cases hi : P.info? t with
        | none => rw [hi] at f2; cases f2
        | some i =>
          rw [hi] at f2
          simp only [Bool.and_eq_true] at f2
          cases hz : i.zero with
          | none => rw [hz] at f2; simp at f2
          | some z =>
            rw [hz] at f2
            simp only [Bool.and_eq_true] at f2
            obtain ⟨k1, k2⟩ := zeroB_ok _ _ _ f2.1.2
            exact ⟨i, z, rfl, hz, aggB_ok f2.1.1, k1, k2⟩
      · cases e <;> simp only [sizeB, Bool.and_eq_true] at f3 ⊢
        case st fs =>
          refine ⟨Nat.eq_of_beq_eq_true f3.1, fun f hf => ?_⟩
          have := List.all_eq_true.1 f3.2 f hf
          exact Option.isSome_iff_exists.1 this
        case ar n e' =>
          refine ⟨Nat.eq_of_beq_eq_true f3.1, ?_⟩
          cases he : find e' T with
          | none => rw [he] at f3; simp at f3
          | some x =>
            rw [he] at f3
            cases x <;> simp at f3
            exact ⟨_, rfl⟩
        case slice e' =>
          exact ⟨Nat.eq_of_beq_eq_true f3.1.1.1, Option.isSome_iff_exists.1 f3.1.1.2, Nat.le_of_ble_eq_true f3.1.2, Nat.le_of_ble_eq_true f3.2⟩
        case map k e' =>
          exact ⟨Nat.eq_of_beq_eq_true f3.1.1.1, Option.isSome_iff_exists.1 f3.1.1.2, Option.isSome_iff_exists.1 f3.1.2, keyTB_ok f3.2⟩
        all_goals exact Nat.eq_of_beq_eq_true f3
      · rintro ⟨fs, rfl⟩
        simpa using f4
      · intro hq
        simpa [hq] using f5
      · rintro ⟨k, rfl⟩
        cases hi : P.info? t with
        | none => rw [hi] at f2; cases f2
        | some i =>
          rw [hi] at f2
          simp only [Bool.and_eq_true] at f2
          exact ⟨i, rfl, f2.2⟩
theorem tab_ok (h : tabB P T T = true) : TabOk P T := fun t d hd => tabB_ok h t d hd
end
end Go.VM

namespace Go.VM
section
variable {P : Program} {T : Tab}

noncomputable def codeOf (fn : Func) : Code := match fn.body with | some c => c | none => .skip
def drawnB (plan : List (Nat × Plan)) : List (Nat × Array Oper) → Bool
  | [] => true
  | q :: l => (match find q.1 plan with | some p => regOk q.2.toList p | none => true) && drawnB plan l
theorem drawnB_ok {plan : List (Nat × Plan)} : ∀ {l : List (Nat × Array Oper)}, drawnB plan l = true → ∀ q ∈ l, ∀ p, find q.1 plan = some p → regOk q.2.toList p = true
  | [], _, q, h, _, _ => by cases h
  | x :: l, hb, q, h, p, hp => by
    simp only [drawnB, Bool.and_eq_true] at hb
    rcases List.mem_cons.1 h with rfl | h
    · rw [hp] at hb; exact hb.1
    · exact drawnB_ok hb.2 q h p hp
def FnsL (P : Program) (T : Tab) (l : List (Nat × Entry)) : Prop := ∀ g e, find g l = some e → EntryOK P T g e
theorem fnsL_nil : FnsL P T [] := fun g e h => by cases h
theorem fnsL_cons {n : Nat} {e : Entry} {l : List (Nat × Entry)} (h : EntryOK P T n e) (hl : FnsL P T l) : FnsL P T ((n, e) :: l) := by
  intro g e' hf
  simp only [find] at hf
  cases hb : Nat.beq g n with
  | true => rw [hb] at hf; cases hf; rw [Nat.eq_of_beq_eq_true hb]; exact h
  | false => rw [hb] at hf; exact hl g e' hf
def LoopsL (c : Ctx) (nt : Nat) (l : List (Nat × Code)) : Prop := ∀ q ∈ l, LoopOK c nt q.1 q.2
theorem loops_none {c : Ctx} {nt : Nat} {l : List (Nat × Code)} (h : c.loops = []) : LoopsL c nt l := fun q _ => loopOK_none (by rw [h]; rfl)

/-- a loop's body, by its block -/
noncomputable def loopBody (fn : Func) (k : Nat) : Code := match find k (loopsIn (codeOf fn) 0) with | some c => c | none => .skip
/-- what is done behind a round -/
def roundK {β : Type} (c : Ctx) (k : Nat) (NX : St → R β) (K : Ex → St → R β) : Ex → St → R β := fun e st => match e with
  | .normal => canonK c k st NX
  | .exit j => K (.exit j) st
  | .ret => K .ret st
theorem loopN_succ {β : Type} (c : Ctx) (b : Code) (k n : Nat) (st : St) (K : Ex → St → R β) : loopN (exec c b k) (canonK c k) (n + 1) st K = exec c b k st (roundK c k (fun st => loopN (exec c b k) (canonK c k) n st K) K) := rfl
theorem loops_one {c : Ctx} {nt k : Nat} {b : Code} (h : LoopOK c nt k b) : LoopsL c nt [(k, b)] := by
  intro q hq
  rcases List.mem_cons.1 hq with rfl | hq
  · exact h
  · cases hq
theorem loops_two {c : Ctx} {nt k : Nat} {b : Code} {l : List (Nat × Code)} (h : LoopOK c nt k b) (hl : LoopsL c nt l) : LoopsL c nt ((k, b) :: l) := by
  intro q hq
  rcases List.mem_cons.1 hq with rfl | hq
  · exact h
  · exact hl q hq

def JoinsL (c : Ctx) (nt : Nat) (l : List (Code × Nat)) : Prop := ∀ q ∈ l, JoinOK c nt q.1 q.2
theorem joins_none {c : Ctx} {nt : Nat} {l : List (Code × Nat)} (h : c.joins = []) : JoinsL c nt l := fun q _ q' hq => by
  unfold joinOf at hq
  rw [h] at hq
  cases hq
/-- what follows a choice, by its first region -/
noncomputable def joinBody (fn : Func) (id : Nat) : Code × Nat := match (joinsIn (codeOf fn) 0).filter (fun q => match codeId q.1 with | some i => Nat.beq i id | none => false) with | q :: _ => q | [] => (.skip, 0)
/-- what is to be shown of what is told behind a choice -/
def JoinTold (c : Ctx) (nt : Nat) (b : Code) (k : Nat) (lo : List Nat) (L : LoopE) : Prop :=
  ∀ {β : Type} {PP : β → Prop} (m : Nat) (st : St) (K : Ex → St → R β) (alt : R β), (All PP alt → All PP (exec { c with m := m, nt := nt } b k st (endK c.keep lo K))) → All PP (L.run m st K alt) → All PP (exec { c with m := m, nt := nt } b k st (endK c.keep lo K))
theorem joinE_none {c : Ctx} {nt : Nat} {b : Code} {k : Nat} {lo : List Nat} : JoinTold c nt b k lo ⟨fun _ _ _ alt => alt⟩ := fun _ _ _ _ h hr => h hr
theorem joinE_told {c : Ctx} {nt k : Nat} {b : Code} {lo : List Nat} {m0 : Nat} {l : List Sh} {g : List RSh} {run : {β : Type} → St → (Ex → St → R β) → R β}
    (h : ∀ {β : Type} {PP : β → Prop} (st : St) (K : Ex → St → R β), All PP (run st K) → All PP (exec { c with m := m0, nt := nt } b k (mkSt l g st) (endK c.keep lo K))) : JoinTold c nt b k lo (loopE m0 l g run) := by
  intro β PP m st K alt ha hr
  have hr2 : All PP (match Nat.beq m m0 && shSt l g st with | true => run st K | false => alt) := hr
  cases hs : Nat.beq m m0 && shSt l g st with
  | false => rw [hs] at hr2; exact ha hr2
  | true =>
    rw [hs] at hr2
    simp only [Bool.and_eq_true] at hs
    have hm := Nat.eq_of_beq_eq_true hs.1
    subst hm
    have := h st K hr2
    rw [mkSt_eq hs.2] at this
    exact this
theorem joinO_told {c : Ctx} {nt k : Nat} {b : Code} {lo : List Nat} {x y : LoopE} (hx : JoinTold c nt b k lo x) (hy : JoinTold c nt b k lo y) : JoinTold c nt b k lo (loopO x y) :=
  fun m st K alt ha hr => hx m st K _ (fun h => hy m st K alt ha h) hr
def idIs (i : Nat) (q : Code × Nat) : Bool := match codeId q.1 with | some j => Nat.beq j i | none => false
noncomputable def oneJoin (fn : Func) (i : Nat) : Bool := match (joinsIn (codeOf fn) 0).filter (idIs i) with | [_] => true | _ => false
def JoinsT (c : Ctx) (nt : Nat) (fn : Func) (l : List (Nat × (List Nat × List Nat) × LoopE)) : Prop := ∀ i q, find i l = some q → oneJoin fn i = true ∧ JoinTold c nt (joinBody fn i).1 (joinBody fn i).2 q.1.2 q.2
theorem joinsB_nil {c : Ctx} {nt : Nat} {fn : Func} : JoinsT c nt fn [] := fun i q h => by cases h
theorem joinsB_cons {c : Ctx} {nt : Nat} {fn : Func} {i : Nat} {lv : List Nat × List Nat} {L : LoopE} {l : List (Nat × (List Nat × List Nat) × LoopE)} (h1 : oneJoin fn i = true) (h2 : JoinTold c nt (joinBody fn i).1 (joinBody fn i).2 lv.2 L) (hl : JoinsT c nt fn l) : JoinsT c nt fn ((i, lv, L) :: l) := by
  intro j q hf
  simp only [find] at hf
  cases hb : Nat.beq j i with
  | true => rw [hb] at hf; cases hf; rw [Nat.eq_of_beq_eq_true hb]; exact ⟨h1, h2⟩
  | false => rw [hb] at hf; exact hl j q hf
theorem joins_all {c : Ctx} {nt : Nat} {fn : Func} (h : JoinsT c nt fn c.joins) : JoinsL c nt (joinsIn (codeOf fn) 0) := by
  intro p hp q hq β PP m st K hr
  unfold joinOf at hq
  obtain ⟨l0, hj⟩ : ∃ l0, c.joins = l0 := ⟨_, rfl⟩
  rw [hj] at hq
  cases l0 with
  | nil => cases hq
  | cons x l =>
    simp only at hq
    cases hi : codeId p.1 with
    | none => rw [hi] at hq; cases hq
    | some i =>
      rw [hi] at hq
      simp only at hq
      rw [← hj] at hq
      obtain ⟨h1, h2⟩ := h i q hq
      have hmem : p ∈ (joinsIn (codeOf fn) 0).filter (idIs i) := List.mem_filter.2 ⟨hp, by unfold idIs; rw [hi]; exact Nat.beq_refl i⟩
      unfold oneJoin at h1
      have hb : joinBody fn i = p := by
        unfold joinBody
        show (match (joinsIn (codeOf fn) 0).filter (idIs i) with | q :: _ => q | [] => (.skip, 0)) = p
        cases hl : (joinsIn (codeOf fn) 0).filter (idIs i) with
        | nil => rw [hl] at hmem; cases hmem
        | cons y t =>
          rw [hl] at h1 hmem
          cases t with
          | nil => exact (List.mem_singleton.1 hmem).symm
          | cons z t => simp at h1
      rw [hb] at h2
      exact h2 m st K _ (fun h => h) hr
/-- A FUNCTION IS AS ITS WALK SAYS. -/
theorem ok_of (hT : TabOk P T) (hm : P.follows .mixedOrders = true) {c : Ctx} (hc : c.T = T) (hF : FnsL P T c.fns) {n : Nat} {fn : Func} (hf : P.funcs[n]? = some fn) (hb : fn.body.isSome = true) (hname : (fn.name == "runtime.NumGoroutine") = false)
    (hD : drawnB c.plan (drawnIn (codeOf fn)) = true) (hL : LoopsL c fn.ntmps (loopsIn (codeOf fn) 0)) (own : List Nat) (hJ : JoinsL c fn.ntmps (joinsIn (codeOf fn) 0) := by exact joins_none rfl) : EntryOK P T n ⟨own, fun args G K => runFn c fn args G K⟩ := by
  obtain ⟨code, hcode⟩ := Option.isSome_iff_exists.1 hb
  have e : codeOf fn = code := by unfold codeOf; rw [hcode]
  rw [e] at hD hL hJ
  intro β PP X args xs K h1 h2 h3
  exact runFn_ok hT hc hF hf hcode hname (fun q hq => drawn_ok hT hc hF hm (drawnB_ok hD q hq)) hL hJ own h1 h2 h3

/-- what is told, but for what stands behind rows' elements -/
def ToldV {β : Type} (PP : β → Prop) (K : V → List Reg → R β) (r : R (V × List Reg)) : Prop := All (fun p => ∃ G', RowsSame p.2 G' ∧ All PP (K p.1 G')) r
theorem told_ret {β : Type} {PP : β → Prop} {K : V → List Reg → R β} {v : V} {G : List Reg} (h : All PP (K v G)) : ToldV PP K (.ret (v, G)) := ⟨G, RowsSame.refl G, h⟩
theorem entryE_rows {n : Nat} {own : List Nat} {B : Entry} (h0 : EntryOK P T n B) {l : List Sh} {g : List RSh} {run : {β : Type} → List V → List Reg → (V → List Reg → R β) → R β}
    (h : ∀ {β : Type} {PP : β → Prop} (args : List V) (G : List Reg) (K : V → List Reg → R β), All PP (run args G K) → ToldV PP K (B.run (mkVs l (locAt args) 0) (mkG g (regAt G) 0) fun v G => .ret (v, G))) : EntryOK P T n (entryE own l g run B) := by
  intro β PP X args xs K hX hA hr Q hQ
  have hr2 : All PP (match shVs l args && shG g X.G with | true => run args X.G K | false => B.run args X.G K) := hr
  cases hs : shVs l args && shG g X.G with
  | false => rw [hs] at hr2; exact h0 hX hA hr2 Q hQ
  | true =>
    rw [hs] at hr2
    simp only [Bool.and_eq_true] at hs
    have ht := h args X.G K hr2
    rw [mkVs_eq hs.1, mkG_eq hs.2] at ht
    refine h0 hX hA ht Q ?_
    intro v y Y hk hI hS hR
    obtain ⟨G', hsame, hk⟩ := hk
    obtain ⟨r1, r2, r3⟩ := rows_ok hI hsame
    exact hQ v y { Y with G := G' } hk r1 (r3 X hS) (rel_mono r2 hR)

/-- nothing is told of a function that isn't run -/
theorem extFail_ok {n : Nat} {own : List Nat} : EntryOK P T n ⟨own, extFail⟩ := by
  intro β PP X args xs K _ _ h3
  exact (all_fail h3).elim
/-- where a function's 'true' isn't awaited -/
def noTrue (e : Entry) : Entry := ⟨e.own, fun a G K => e.run a G fun v G' => match v with | .bool b => iteR b .fail (K (.bool false) G') | _ => .fail⟩
theorem noTrue_ok {n : Nat} {B : Entry} (h0 : EntryOK P T n B) : EntryOK P T n (noTrue B) := by
  intro β PP X args xs K hX hA h Q hQ
  refine h0 hX hA (K := fun v G' => match v with | .bool b => iteR b .fail (K (.bool false) G') | _ => .fail) h Q ?_
  intro v y Y hk hI hS hR
  cases v with
  | bool b =>
    cases b with
    | false => exact hQ _ y Y hk hI hS hR
    | true => exact (all_fail hk).elim
  | _ => exact (all_fail hk).elim
theorem all_iteR {β : Type} {PP : β → Prop} {b : Bool} {x y : R β} (h1 : b = true → All PP x) (h2 : b = false → All PP y) : All PP (iteR b x y) := by
  cases b
  · exact h2 rfl
  · exact h1 rfl
theorem all_bothR {β : Type} {PP : β → Prop} {x y : R β} (h1 : All PP x) (h2 : All PP y) : All PP (bothR x y) := by
  refine ⟨fun v hv => ?_, fun h => ?_⟩
  · cases v <;> simp [isBoolV] at hv
    rename_i b
    cases b
    · exact h2
    · exact h1
  · have := h (.bool true); simp [isBoolV] at this

def cloneTail {β : Type} (T : Tab) (e m : Nat) (f : Nat → V) (K : V → List Reg → R β) : R β :=
  iteR (leN (addN 0 m) 1073741824) (K (.sub 0 0 (addN 0 m)) [.row e (addN 0 m) (joinF (litF (T.zero e) []) f 0)]) .fail
/-- slices.Clone, of a slice by value -/
theorem clone_ok {n e : Nat} {run0 : {β : Type} → List V → List Reg → (V → List Reg → R β) → R β} (h0 : EntryOK P T n ⟨[], fun a G K => run0 a G K⟩)
    (hn : ∀ {β : Type} (K : V → List Reg → R β), run0 [.nils] [] K = K (.sub 0 0 0) [.row e 0 (constF .junk)])
    (hv : ∀ {β : Type} (K : V → List Reg → R β) (m : Nat) (f : Nat → V), run0 [.view e m f] [] K =
      iteR (notB (ltN 0 m)) (bothR (K (.sub 0 0 0) [.row e 0 (constF .junk)]) (cloneTail T e m f K)) (iteR (ltN 0 m) (cloneTail T e m f K) .fail)) : EntryOK P T n ⟨[], extClone T e⟩ := by
  refine @entry_rows P T n [] [] run0 (fun a G K => extClone T e a G K) @h0 ?_
  intro β PP args G K h
  have h : All PP (extClone T e args G K) := h
  unfold extClone at h
  split at h
  · rename_i x
    unfold contentV at h
    split at h
    · rw [hn]
      obtain ⟨_, h2⟩ := all_must.1 h
      exact ⟨[.row e 0 (constF (T.zero e))], RowsSame.cons (show RowSame (.row e 0 _) (.row e 0 _) from ⟨rfl, rfl, fun i hi => absurd hi (by omega)⟩) RowsSame.nil, h2⟩
    · rename_i e' m f
      obtain ⟨he, h1⟩ := all_must.1 h
      obtain ⟨hr, h2⟩ := all_must.1 h1
      have := Nat.eq_of_beq_eq_true he
      subst this
      rw [hv]
      have hr' : leN (addN 0 m) 1073741824 = true := by
        have hr : m ≤ 1073741824 := of_decide_eq_true hr
        simpa [leN, addN] using hr
      have tail : All (fun p : V × List Reg => ∃ G', RowsSame p.2 G' ∧ All PP (K p.1 G')) (cloneTail T e m f fun v G => .ret (v, G)) := by
        unfold cloneTail
        rw [hr']
        refine ⟨[.row e m f], RowsSame.cons ⟨rfl, by simp [addN], fun i hi => ?_⟩ RowsSame.nil, by simpa [addN] using h2⟩
        simp [joinF, ltN, subN]
      refine all_iteR (fun hm => all_bothR ?_ tail) (fun hm => all_iteR (fun _ => tail) fun h' => ?_)
      · have hm0 : m = 0 := by simpa [notB, ltN] using hm
        subst hm0
        exact ⟨[.row e 0 f], RowsSame.cons (show RowSame (.row e 0 _) (.row e 0 _) from ⟨rfl, rfl, fun i hi => absurd hi (by omega)⟩) RowsSame.nil, h2⟩
      · rw [h'] at hm; simp [notB] at hm
    · simp at h
      exact h.elim
    · exact (all_fail h).elim
  · exact (all_fail h).elim
end
end Go.VM

namespace Go.VM
section
variable {P : Program} {T : Tab}

/-- A VALUE THAT COMES FROM OUTSIDE, spelled out: numbers in their range, slices as rows by value. -/
inductive In (T : Tab) : Nat → V → Prop
  | int {t : Nat} {k : IntKind} {n : Int} (h : find t T = some (.int k)) (h1 : k.min ≤ n) (h2 : n ≤ k.max) : In T t (.int k n)
  | bool {t : Nat} {b : Bool} (h : find t T = some .bool) : In T t (.bool b)
  | str {t : Nat} {s : ByteArray} (h : find t T = some .str) (h1 : s.size ≤ maxLen) : In T t (.str s)
  | slice {t e n : Nat} {f : Nat → V} (h : find t T = some (.slice e)) (h1 : n ≤ 140737488351232) (h2 : ∀ i, i < n → In T e (f i)) : In T t (.view e n f)
  | st {t : Nat} {fs : List Nat} {l : List V} (h : find t T = some (.st fs)) (h1 : l.length = fs.length) (h2 : ∀ (i f : Nat) (v : V), fs[i]? = some f → l[i]? = some v → In T f v) : In T t (.nd t l)
  | ar {t n e : Nat} {f : Nat → V} (h : find t T = some (.ar n e)) (h2 : ∀ i, i < n → In T e (f i)) : In T t (.arr t n f)

mutual
/-- types whose values come in so -/
def inB (T : Tab) : Nat → Nat → Bool
  | 0, _ => false
  | d + 1, t => match find t T with
    | some (.int _) => true
    | some .bool => true
    | some .str => true
    | some (.slice e) => inB T d e
    | some (.ar _ e) => inB T d e
    | some (.st fs) => inBs T d fs
    | _ => false
def inBs (T : Tab) : Nat → List Nat → Bool
  | _, [] => true
  | 0, _ :: _ => false
  | d + 1, t :: l => inB T d t && inBs T d l
end

/-- the regions: none; every block stays as it is -/
def inX (W : World) : Rx := ⟨W, [], [], fun b => b < W.heap.size⟩
theorem inX_inv (W : World) : RInv P T (inX W) :=
  ⟨rfl, fun r hr => absurd hr (by simp [inX]), fun r s b _ h => by simp [inX, Rx.blk] at h, fun b hb => ⟨hb, fun r h => by simp [inX, Rx.blk] at h⟩⟩

section
variable {H : Type} {enc : TypeId × Value → H} {W : World} {spare : Nat → Bool} {held : Bool}

/-- what is known of a value that is read -/
def Got (P : Program) (T : Tab) (W : World) (t : Nat) (cs : List Value) : Prop := ∃ v, In T t v ∧ fitV T v t = true ∧ RelF P T (inX W) v cs

theorem weights_all {e : Nat} : ∀ {ds : List (DataW H)} {i : Nat} {d : DataW H}, ds[i]? = some d → (∀ k ∈ DataW.weightsAll P e ds, k ≤ reachBytes) → ∀ k ∈ d.weights P e, k ≤ reachBytes
  | [], _, _, h, _ => by simp at h
  | d :: ds, 0, _, h, hk => by
    simp at h
    subst h
    intro k hm
    exact hk k (by simp [DataW.weightsAll, hm])
  | d :: ds, i + 1, _, h, hk => weights_all (ds := ds) (i := i) (by simpa using h) fun k hm => hk k (by simp [DataW.weightsAll, hm])
theorem got_fields {fuel : Nat} (cs : List Value) : ∀ (L : List Field) (fs : List Nat) (o : Nat) (xs : List (DataW H × List MemPlace)), L.map (·.type) = fs → (∀ i f, L[i]? = some f → f.offset = o + foff P fs i) → cs.length = o + (fs.map (sz P)).sum →
    (L.mapM fun f => DataW.trod enc P W 0 spare held fuel f.type ((cs.drop f.offset).take (P.cellsOf f.type))) = some xs →
    (∀ k ∈ DataW.weightsEach P fs (xs.map (·.1)), k ≤ reachBytes) →
    (∀ t ∈ fs, ∀ cs' x, (∀ k ∈ x.1.weights P t, k ≤ reachBytes) → DataW.trod enc P W 0 spare held fuel t cs' = some x → Got P T W t cs') →
    ∃ l : List V, l.length = fs.length ∧ (∀ (i f : Nat) (v : V), fs[i]? = some f → l[i]? = some v → In T f v) ∧ fitVs T l fs = true ∧ RelFs P T (inX W) l fs (cs.drop o)
  | [], fs, o, xs, hm, ho, hl, hx, hw, ih => by
    simp at hm
    subst hm
    simp at hl
    exact ⟨[], rfl, by simp, rfl, by simp [RelFs, hl]⟩
  | f :: L, fs, o, xs, hm, ho, hl, hx, hw, ih => by
    cases fs with
    | nil => simp at hm
    | cons t fs =>
      simp only [List.map_cons, List.cons.injEq] at hm
      obtain ⟨rfl, hm⟩ := hm
      have h0 : f.offset = o := by have := ho 0 f rfl; simpa [foff] using this
      simp only [List.mapM_cons, Option.pure_def, Option.bind_eq_bind, Option.bind_eq_some_iff] at hx
      obtain ⟨x, hx1, ys, hx2, hxy⟩ := hx
      have hxy : x :: ys = xs := by simpa using hxy
      subst hxy
      obtain ⟨v, v1, v2, v3⟩ := ih f.type (by simp) _ _ (fun k hk => hw k (by simp [DataW.weightsEach, hk])) hx1
      have hl' : cs.length = (o + sz P f.type) + (fs.map (sz P)).sum := by simp at hl; omega
      obtain ⟨l, l1, l2, l3, l4⟩ := got_fields cs L fs (o + sz P f.type) ys hm (fun i g hg => by
        have := ho (i + 1) g (by simpa using hg)
        rw [this]; simp [foff]; omega) hl' hx2 (fun k hk => hw k (by simp [DataW.weightsEach, hk])) (fun t ht => ih t (by simp [ht]))
      rw [h0] at v3
      refine ⟨v :: l, by simp [l1], fun i g w hg hw => ?_, by simp [fitVs, v2, l3], ?_⟩
      · cases i with
        | zero => simp at hg hw; subst hg hw; exact v1
        | succ i => exact l2 i g w (by simpa using hg) (by simpa using hw)
      · simp only [RelFs]
        refine ⟨f.type, fs, (cs.drop o).take (sz P f.type), (cs.drop o).drop (sz P f.type), rfl, (List.take_append_drop _ _).symm, fits_shape v2, ?_, v3, ?_⟩
        · simp; omega
        · rw [List.drop_drop]; exact l4

theorem chunks {α : Type} (k : Nat) : ∀ (n : Nat) (cs : List α), cs.length = n * k → cs = (List.range n).flatMap fun i => (cs.drop (i * k)).take k
  | 0, cs, h => by
    simp at h
    simp [h]
  | n + 1, cs, h => by
    rw [List.range_succ_eq_map, List.flatMap_cons, List.flatMap_map]
    have ih := chunks k n (cs.drop k) (by rw [List.length_drop, h, Nat.succ_mul]; omega)
    have e : ((List.range n).flatMap fun i => (cs.drop (Nat.succ i * k)).take k) = cs.drop k := by
      refine Eq.trans ?_ ih.symm
      congr 1
      funext i
      rw [List.drop_drop]
      congr 2
      rw [Nat.succ_mul]; omega
    rw [e, Nat.zero_mul, List.drop_zero, List.take_append_drop]
theorem trod_in (hT : TabOk P T) (hby : ∀ t e, find t T = some (.slice e) → 1 ≤ P.bytesOf e) : ∀ (d fuel t : Nat) (cs : List Value) (x : DataW H × List MemPlace), (∀ k ∈ x.1.weights P t, k ≤ reachBytes) → inB T d t = true → DataW.trod enc P W 0 spare held fuel t cs = some x → Got P T W t cs
  | 0, _, _, _, _, _, h, _ => by simp [inB] at h
  | d + 1, 0, _, _, _, _, _, hx => by simp [DataW.trod] at hx
  | d + 1, fuel + 1, t, cs, x, hwt, h, hx => by
    unfold inB at h
    cases hd : find t T with
    | none => rw [hd] at h; cases h
    | some ty =>
      rw [hd] at h
      obtain ⟨u, hu, hud⟩ := (hT t ty hd).und
      cases ty with
      | int k =>
        cases u <;> simp only [Und] at hud
        subst hud
        obtain ⟨n, rfl, _, h1⟩ := DataW.trod_int hu hx
        simp only [Lit.wf, Bool.and_eq_true, decide_eq_true_eq] at h1
        exact ⟨.int k n, .int hd h1.1 h1.2, by simp [fitV, kindIs, hd]; cases k <;> rfl, by simp [RelF]⟩
      | bool =>
        cases u <;> simp only [Und] at hud
        obtain ⟨b, rfl, _⟩ := DataW.trod_bool hu hx
        exact ⟨.bool b, .bool hd, by simp [fitV, hd], by simp [RelF]⟩
      | str =>
        cases u <;> simp only [Und] at hud
        obtain ⟨s, rfl, _, h1⟩ := DataW.trod_string hu hx
        exact ⟨.str s, .str hd h1, by simp [fitV, hd], by simp [RelF]⟩
      | slice e =>
        cases u <;> simp only [Und] at hud
        subst hud
        have hb : Nat.beq e e = true := Nat.beq_refl e
        obtain ⟨_, ⟨de, hde⟩, _⟩ := (hT t _ hd).size
        have hpos := (hT e de hde).pos
        have h : inB T d e = true := h
        rcases DataW.trod_slice hu hx with ⟨rfl, _⟩ | ⟨a, len, cap, elems, rest, n, hn, rfl, rfl, _, hlc, hcm, hlen, hel, _⟩
        · refine ⟨.view e 0 fun _ => .junk, .slice hd (Nat.zero_le _) (fun i hi => absurd hi (by omega)), by simp [fitV, hd], ?_⟩
          simp only [RelF]
          exact ⟨none, 0, rfl, Nat.le_refl _, fun i hi => absurd hi (by omega), fun h => absurd h (by omega)⟩
        · have hn : n = fuel := by omega
          subst hn
          simp only [DataW.weights, hu] at hwt
          have hlr : len ≤ 140737488351232 := by
            have h1 := hwt _ (List.mem_cons_self ..)
            simp only [List.length_map] at h1
            have h2 := hby t e hd
            have h3 : len * 1 ≤ (elems.length + rest.length) * P.bytesOf e := Nat.mul_le_mul (by omega) h2
            have h4 : reachBytes = 140737488351232 := rfl
            omega
          have hwe : ∀ i (hi : i < elems.length), ∀ k ∈ (elems[i]).1.weights P e, k ≤ reachBytes := fun i hi =>
            weights_all (ds := elems.map (·.1)) (i := i) (by simp [hi]) fun k hk => hwt k (by simp [hk])
          have hi : ∀ i, i < len → ∃ cs', W.cells? 0 (a.add (i * sz P e)) (sz P e) = some cs' ∧ Got P T W e cs' := by
            intro i hi
            have := hel i hi
            rw [List.getElem?_eq_getElem (by omega)] at this
            simp only [Option.bind_eq_some_iff] at this
            obtain ⟨cs', h1, h2⟩ := this
            exact ⟨cs', h1, trod_in hT hby d n e cs' _ (hwe i (by omega)) h h2⟩
          have hex : ∀ i, ∃ v, i < len → ∃ cs', W.cells? 0 (a.add (i * sz P e)) (sz P e) = some cs' ∧ In T e v ∧ fitV T v e = true ∧ RelF P T (inX W) v cs' := by
            intro i
            by_cases h' : i < len
            · obtain ⟨cs', h1, v, h2, h3, h4⟩ := hi i h'
              exact ⟨v, fun _ => ⟨cs', h1, h2, h3, h4⟩⟩
            · exact ⟨.junk, fun h => absurd h h'⟩
          obtain ⟨f, hf⟩ := Classical.axiomOfChoice hex
          refine ⟨.view e len f, .slice hd hlr (fun i hi => by obtain ⟨_, _, h2, _⟩ := hf i hi; exact h2), by simp [fitV, hd], ?_⟩
          simp only [RelF]
          refine ⟨some a, cap, rfl, hlc, fun i hi => by obtain ⟨_, _, _, h3, _⟩ := hf i hi; exact h3, fun h0 => ?_⟩
          have hspot : a.spot = none ∧ a.block < W.heap.size := by
            obtain ⟨cs', h1, _⟩ := hf 0 h0
            obtain ⟨_, hl, hc⟩ := World.cells?_some h1
            have := hc 0 hpos
            rw [List.getElem?_eq_getElem (by omega)] at this
            simp only [Nat.zero_mul, Addr.add, if_true] at this
            unfold World.cell? at this
            split at this
            · rename_i c _ _ hh
              refine ⟨?_, ?_⟩
              · cases hsp : a.spot with
                | none => rfl
                | some s => rw [hsp] at this; simp at this
              · have := (Array.getElem?_eq_some_iff.1 hh).1; exact this
            · cases this
          obtain ⟨b, o, sp⟩ := a
          obtain ⟨hs1, hs2⟩ := hspot
          simp only at hs1 hs2
          subst hs1
          refine ⟨b, o, rfl, hs2, fun i hi => ?_⟩
          obtain ⟨cs', h1, _, h3, h4⟩ := hf i hi
          obtain ⟨_, hl, hc⟩ := World.cells?_some h1
          refine ⟨cs', fun j y hj => ?_, hl, h4⟩
          have hjl : j < sz P e := by
            rcases Nat.lt_or_ge j cs'.length with h' | h'
            · omega
            · rw [List.getElem?_eq_none h'] at hj; cases hj
          have := hc j hjl
          rw [hj] at this
          rw [add_plain', add_plain'] at this
          exact this
      | ar n e =>
        cases u <;> simp only [Und] at hud
        obtain ⟨rfl, rfl⟩ := hud
        have h : inB T d e = true := h
        obtain ⟨xs, m, hm, rfl, hlen, hxl, hel⟩ := DataW.trod_array hu hx
        simp only [DataW.weights, hu] at hwt
        have hwe : ∀ i (hi : i < xs.length), ∀ k ∈ (xs[i]).1.weights P e, k ≤ reachBytes := fun i hi =>
          weights_all (ds := xs.map (·.1)) (i := i) (by simp [hi]) hwt
        have hm : m = fuel := by omega
        subst hm
        have hlen : cs.length = n * sz P e := hlen.trans ((hT t _ hd).size).1
        have hi : ∀ i, i < n → Got P T W e ((cs.drop (i * sz P e)).take (sz P e)) := fun i hi => by
          have := hel i hi
          rw [List.getElem?_eq_getElem (by omega)] at this
          exact trod_in hT hby d m e _ _ (hwe i (by omega)) h this
        have hex : ∀ i, ∃ v, i < n → In T e v ∧ fitV T v e = true ∧ RelF P T (inX W) v ((cs.drop (i * sz P e)).take (sz P e)) := by
          intro i
          by_cases h' : i < n
          · obtain ⟨v, hv⟩ := hi i h'
            exact ⟨v, fun _ => hv⟩
          · exact ⟨.junk, fun h => absurd h h'⟩
        obtain ⟨f, hf⟩ := Classical.axiomOfChoice hex
        refine ⟨.arr t n f, .ar hd (fun i hi => (hf i hi).1), by simp [fitV, hd], ?_⟩
        simp only [RelF]
        refine ⟨e, hd, fun i => (cs.drop (i * sz P e)).take (sz P e), chunks (sz P e) n cs hlen, fun i hi => ⟨(hf i hi).2.1, ?_, (hf i hi).2.2⟩⟩
        rw [List.length_take, List.length_drop, hlen]
        have : (i + 1) * sz P e ≤ n * sz P e := Nat.mul_le_mul_right _ hi
        rw [Nat.succ_mul] at this
        omega
      | st fs =>
        cases u <;> simp only [Und] at hud
        rename_i fields
        obtain ⟨hty, hoff⟩ := hud
        unfold DataW.trod at hx
        rw [hu] at hx
        simp only at hx h
        have hsz := ((hT t _ hd).size).1
        split at hx
        · rename_i hlen
          simp only [Option.map_eq_some_iff] at hx
          obtain ⟨xs, hxs, hxx⟩ := hx
          subst hxx
          simp only [DataW.weights, hu, hty] at hwt
          have hins : ∀ (d : Nat) (fs : List Nat), inBs T d fs = true → ∀ t ∈ fs, ∃ d', d' < d ∧ inB T d' t = true := by
            intro d
            induction d with
            | zero =>
              intro fs hb t ht
              cases fs with
              | nil => cases ht
              | cons => simp [inBs] at hb
            | succ d ih =>
              intro fs hb t ht
              cases fs with
              | nil => cases ht
              | cons s fs =>
                simp only [inBs, Bool.and_eq_true] at hb
                rcases List.mem_cons.1 ht with rfl | ht
                · exact ⟨d, by omega, hb.1⟩
                · obtain ⟨d', h1, h2⟩ := ih fs hb.2 t ht
                  exact ⟨d', by omega, h2⟩
          obtain ⟨l, l1, l2, l3, l4⟩ := got_fields cs fields.toList fs 0 xs hty (fun i f hf => by
            have := (hoff i f (by simpa using hf)).1
            omega) (by rw [Nat.zero_add]; exact hlen.trans hsz) hxs hwt (fun t' ht' cs' x' hw' hx' => by
              obtain ⟨d', hd', hb'⟩ := hins d fs h t' ht'
              exact trod_in hT hby d' fuel t' cs' x' hw' hb' hx')
          exact ⟨.nd t l, .st hd l1 l2, by simp [fitV, hd, l3], by simp only [RelF]; exact ⟨fs, hd, by simpa using l4⟩⟩
        · cases hx
      | _ => cases h
termination_by d => d
end
end
end Go.VM

namespace Go.VM
open Go.RowKit Go.ChangeShapes Go.WideShapes
section
variable {P : Program} {T : Tab} {H : Type} {enc : TypeId × Value → H}

theorem outer_ok (hT : TabOk P T) {W : World} {base t : Nat} {v : V} {x : Value} (hok : Value.okWide P W .any base t x) (hv : In T t v) : aggOk v x := by
  cases hv with
  | int h _ _ =>
    obtain ⟨u, hu, hud⟩ := (hT _ _ h).und
    cases u <;> simp only [Und] at hud
    intro cs hc; subst hc
    simp [Value.okWide, Cell.okWide, Cell.ok, hu] at hok
  | bool h =>
    obtain ⟨u, hu, hud⟩ := (hT _ _ h).und
    cases u <;> simp only [Und] at hud
    intro cs hc; subst hc
    simp [Value.okWide, Cell.okWide, Cell.ok, hu] at hok
  | str h _ =>
    obtain ⟨u, hu, hud⟩ := (hT _ _ h).und
    cases u <;> simp only [Und] at hud
    intro cs hc; subst hc
    simp [Value.okWide, Cell.okWide, Cell.ok, hu] at hok
  | slice h _ _ =>
    obtain ⟨u, hu, hud⟩ := (hT _ _ h).und
    cases u <;> simp only [Und] at hud
    intro cs hc; subst hc
    simp [Value.okWide, Cell.okWide, Cell.ok, hu] at hok
  | st h _ _ =>
    obtain ⟨u, hu, hud⟩ := (hT _ _ h).und
    cases u <;> simp only [Und] at hud
    simp only [Value.okWide, hu] at hok
    obtain ⟨cs, rfl, _⟩ := hok
    exact ⟨cs, rfl⟩
  | ar h _ =>
    obtain ⟨u, hu, hud⟩ := (hT _ _ h).und
    cases u <;> simp only [Und] at hud
    simp only [Value.okWide, hu] at hok
    obtain ⟨cs, rfl, _⟩ := hok
    exact ⟨cs, rfl⟩

/-- arguments that come from outside -/
inductive Ins (T : Tab) : List Nat → List V → Prop
  | nil : Ins T [] []
  | cons {t : Nat} {v : V} {ts : List Nat} {l : List V} (h : In T t v) (hl : Ins T ts l) : Ins T (t :: ts) (v :: l)

theorem Ins.none {T : Tab} {l : List V} (h : Ins T [] l) : l = [] := by cases h; rfl
theorem Ins.one {T : Tab} {t : Nat} {ts : List Nat} {l : List V} (h : Ins T (t :: ts) l) : ∃ v l', l = v :: l' ∧ In T t v ∧ Ins T ts l' := by
  cases h with | cons h hl => exact ⟨_, _, rfl, h, hl⟩
theorem In.int' {T : Tab} {t : Nat} {v : V} {k : IntKind} (h : In T t v) (ht : find t T = some (.int k)) : ∃ n, v = .int k n ∧ k.min ≤ n ∧ n ≤ k.max := by
  cases h with
  | int h h1 h2 => rw [ht] at h; cases h; exact ⟨_, rfl, h1, h2⟩
  | bool h => rw [ht] at h; cases h
  | str h => rw [ht] at h; cases h
  | slice h => rw [ht] at h; cases h
  | st h => rw [ht] at h; cases h
  | ar h => rw [ht] at h; cases h
theorem In.bool' {T : Tab} {t : Nat} {v : V} (h : In T t v) (ht : find t T = some .bool) : ∃ b, v = .bool b := by
  cases h with
  | int h => rw [ht] at h; cases h
  | bool h => exact ⟨_, rfl⟩
  | str h => rw [ht] at h; cases h
  | slice h => rw [ht] at h; cases h
  | st h => rw [ht] at h; cases h
  | ar h => rw [ht] at h; cases h
theorem In.slice'' {T : Tab} {t e : Nat} {v : V} (h : In T t v) (ht : find t T = some (.slice e)) : ∃ n f, v = .view e n f ∧ n ≤ 140737488351232 ∧ ∀ i, i < n → In T e (f i) := by
  cases h with
  | int h => rw [ht] at h; cases h
  | bool h => rw [ht] at h; cases h
  | str h => rw [ht] at h; cases h
  | slice h h1 h2 => rw [ht] at h; cases h; exact ⟨_, _, rfl, h1, h2⟩
  | st h => rw [ht] at h; cases h
  | ar h => rw [ht] at h; cases h
theorem In.slice' {T : Tab} {t e : Nat} {v : V} (h : In T t v) (ht : find t T = some (.slice e)) : ∃ n f, v = .view e n f ∧ n ≤ maxLen ∧ ∀ i, i < n → In T e (f i) := by
  obtain ⟨n, f, h1, h2, h3⟩ := In.slice'' h ht
  exact ⟨n, f, h1, by unfold maxLen; omega, h3⟩
theorem ins_of {T : Tab} : ∀ {fs : List Nat} {l : List V}, l.length = fs.length → (∀ (i f : Nat) (v : V), fs[i]? = some f → l[i]? = some v → In T f v) → Ins T fs l
  | [], [], _, _ => .nil
  | [], _ :: _, h, _ => by simp at h
  | _ :: _, [], h, _ => by simp at h
  | f :: fs, v :: l, h, hh => .cons (hh 0 f v rfl rfl) (ins_of (by simpa using h) fun i g w h1 h2 => hh (i + 1) g w (by simpa using h1) (by simpa using h2))
theorem In.st' {T : Tab} {t : Nat} {v : V} {fs : List Nat} (h : In T t v) (ht : find t T = some (.st fs)) : ∃ l, v = .nd t l ∧ Ins T fs l := by
  cases h with
  | int h => rw [ht] at h; cases h
  | bool h => rw [ht] at h; cases h
  | str h => rw [ht] at h; cases h
  | slice h => rw [ht] at h; cases h
  | st h h1 h2 => rw [ht] at h; cases h; exact ⟨_, rfl, ins_of h1 h2⟩
  | ar h => rw [ht] at h; cases h

theorem args_in (hT : TabOk P T) (hby : ∀ t e, find t T = some (.slice e) → 1 ≤ P.bytesOf e) {W : World} {base : Nat} : ∀ (ts : List TypeId) (vs : List Value) (ds : List (DataW H)) (ps : List MemPlace), (∀ k ∈ DataW.weightsEach P ts ds, k ≤ reachBytes) → DataW.TrodAll enc P W 0 (fun _ => true) true ts vs ds ps →
    (∀ t ∈ ts, inB T 60 t = true) → (∀ (j : Nat) t v, ts[j]? = some t → vs[j]? = some v → Value.okWide P W .any base t v) → ∃ Vs, RelVs P T (inX W) Vs vs ∧ Ins T ts Vs
  | [], vs, ds, ps, _, h, _, _ => by
    obtain ⟨rfl, _, _⟩ := trodAll_nil h
    exact ⟨[], relVs_nil.2 rfl, .nil⟩
  | t :: ts, vs, ds, ps, hw, h, hb, hok => by
    obtain ⟨v, vs', d, ds', p, q, rfl, rfl, rfl, ⟨fuel, h1⟩, h2⟩ := trodAll_cons h
    obtain ⟨V, v1, v2, v3⟩ := trod_in hT hby 60 fuel t _ _ (fun k hk => hw k (by simp [DataW.weightsEach, hk])) (hb t (by simp)) h1
    obtain ⟨Vs, k1, k2⟩ := args_in hT hby ts vs' ds' q (fun k hk => hw k (by simp [DataW.weightsEach, hk])) h2 (fun t ht => hb t (by simp [ht])) (fun j t' v' h h' => hok (j + 1) t' v' (by simpa using h) (by simpa using h'))
    rw [cells_cellsL] at v3
    exact ⟨V :: Vs, relVs_cons.2 ⟨v, vs', rfl, .inr ⟨outer_ok hT (hok 0 t v rfl rfl) v1, v3⟩, k1⟩, .cons v1 k2⟩

theorem step_below {W : World} {Y : Rx} (h : Step (inX W) Y) : Below W.heap.size W Y.w :=
  ⟨h.os, h.tape, h.output, h.size, fun k hk => h.keep k hk fun r hr => by simp [inX, Rx.blk] at hr⟩

theorem trodAll_below (hl : laidOutB P = true) {W W' : World} (hb : Below W.heap.size W W') : ∀ (ts : List TypeId) (vs : List Value) (ds : List (DataW H)) (ps : List MemPlace), DataW.TrodAll enc P W 0 (fun _ => true) true ts vs ds ps →
    (∀ t ∈ ts, P.readableRec t = true ∧ t < P.types.size) → (∀ x ∈ ps, x.block < W.heap.size) → DataW.TrodAll enc P W' 0 (fun b => decide (b < W.heap.size)) true ts vs ds ps
  | [], vs, ds, ps, h, _, _ => by
    obtain ⟨rfl, rfl, rfl⟩ := trodAll_nil h
    exact trodAll_mk0
  | t :: ts, vs, ds, ps, h, hr, hlt => by
    obtain ⟨v, vs', d, ds', p, q, rfl, rfl, rfl, h1, h2⟩ := trodAll_cons h
    exact ⟨p, q, Below.trod hl (hr t (by simp)).1 (hr t (by simp)).2 h1 hb (fun x hx => hlt x (by simp [hx])), trodAll_below hl hb ts vs' ds' q h2 (fun t ht => hr t (by simp [ht])) (fun x hx => hlt x (by simp [hx])), rfl⟩

theorem below_kept {W W' : World} (hb : Below W.heap.size W W') (may : MemPlace → Prop) : W.keptBut W' may := by
  refine ⟨hb.os, hb.output, fun i hi => ?_⟩
  rw [hb.block i hi]
  cases W.heap[i]? with
  | none => rfl
  | some o => cases o <;> first | exact ⟨rfl, rfl, rfl, fun _ _ => rfl⟩ | exact .inr ⟨rfl, rfl⟩ | rfl

/-- every type whose slices come in takes a byte at least -/
def byteB (P : Program) (T : Tab) : Bool := T.all fun q => match q.2 with | .slice e => Nat.ble 1 (P.bytesOf e) | _ => true
theorem find_mem {α : Type} {t : Nat} {d : α} : ∀ {l : List (Nat × α)}, find t l = some d → (t, d) ∈ l
  | [], h => by cases h
  | (s, d') :: l, h => by
    unfold find at h
    split at h
    · rename_i hb
      cases h
      rw [Nat.eq_of_beq_eq_true hb]
      exact List.mem_cons_self ..
    · exact List.mem_cons_of_mem _ (find_mem h)
theorem byteB_ok (h : byteB P T = true) (t e : Nat) (hf : find t T = some (.slice e)) : 1 ≤ P.bytesOf e := by
  have := List.all_eq_true.1 h _ (find_mem hf)
  simpa [Nat.ble_eq] using this
/-- A LAW: its walk says true at all arguments that come from outside; then the call returns true and leaves all as it was. -/
theorem law_calls (hT : TabOk P T) (hby : byteB P T = true) {n : Nat} {e : Entry} (he : EntryOK P T n e) {fn : Func} (hf : P.funcs[n]? = some fn) (hbody : fn.body.isSome = true) (hname : (fn.name == "runtime.NumGoroutine") = false)
    (hin : fn.params.toList.all (inB T 60) = true) (hread : fn.params.toList.all (fun t => P.readableRec t && Nat.blt t P.types.size) = true) (hl : laidOutB P = true) {tb : TypeId} (hres : fn.resultTypes = #[tb]) (htb : P.underlying tb = some .bool)
    {s : ChangeSpec} (hvars : s.vars = []) (hspec : ∀ ds : List (DataW H), ds.length = fn.params.size → s.fn H ds = { results := [.lit (.bool true)], args := ds })
    (hlaw : ∀ Vs, Ins T fn.params.toList Vs → All (fun v => v = V.bool true) (e.run Vs [] fun v _ => .ret v))
    (W : World) (base : Nat) (args : Array Value) (ds gs : List (DataW H)) (before : List MemPlace)
    (hval : ∀ (j : Nat) t v, fn.params[j]? = some t → args[j]? = some v → Value.okWide P W .any base t v) (hW : DataW.Whole enc P fn.params.toList s.vars false W args.toList ds gs before)
    (hwt : (DataW.weightsEach P (fn.params.toList ++ s.plain.varTypes P) (ds ++ gs)).all (· ≤ reachBytes) = true) :
    Calls P n args W fun e W' => ∃ v, e = .returned v ∧ s.post enc P fn false true false false W args v W' := by
  have hW' := hW
  obtain ⟨p, q, hA, hV, rfl, hfz, hnd⟩ := hW
  have hgs : gs = [] ∧ q = [] := by rw [hvars] at hV; exact trodVars_none hV
  obtain ⟨rfl, rfl⟩ := hgs
  have hlen : ∀ (ts : List TypeId) (vs : List Value) (ds : List (DataW H)) (ps : List MemPlace), DataW.TrodAll enc P W 0 (fun _ => true) true ts vs ds ps → ds.length = ts.length := by
    intro ts
    induction ts with
    | nil => intro vs ds ps h; obtain ⟨_, rfl, _⟩ := trodAll_nil h; rfl
    | cons t ts ih => intro vs ds ps h; obtain ⟨v, vs', d, ds', p, q, rfl, rfl, rfl, _, h2⟩ := trodAll_cons h; simp [ih vs' ds' q h2]
  have hwt' : ∀ k ∈ DataW.weightsEach P fn.params.toList ds, k ≤ reachBytes := by
    intro k hk
    have hap : ∀ (ts us : List TypeId) (ds : List (DataW H)), k ∈ DataW.weightsEach P ts ds → k ∈ DataW.weightsEach P (ts ++ us) (ds ++ []) := by
      intro ts us
      induction ts with
      | nil => intro ds h; simp [DataW.weightsEach] at h
      | cons t ts ih =>
        intro ds h
        cases ds with
        | nil => simp [DataW.weightsEach] at h
        | cons d ds =>
          simp only [DataW.weightsEach, List.mem_append, List.cons_append] at h ⊢
          exact h.imp id (ih ds)
    have := List.all_eq_true.1 hwt k (hap _ _ _ hk)
    simpa using this
  obtain ⟨Vs, r1, r2⟩ := args_in hT (byteB_ok hby) _ _ _ _ hwt' hA (fun t ht => List.all_eq_true.1 hin t ht) (fun j t v h h' => hval j t v (by simpa using h) (by simpa using h'))
  have hrun := @he V (fun v => v = V.bool true) (inX W) Vs args.toList (fun v _ => .ret v) (inX_inv W) r1 (hlaw Vs r2) (fun e W' => ∃ v, e = .returned v ∧ s.post enc P fn false true false false W args v W') ?_
  · have hcall : (callFunc n args.toList.toArray).run P W = .ok (.enter n args.toList.toArray) W := by
      have hname' : ¬ fn.name = "runtime.NumGoroutine" := by simpa using hname
      obtain ⟨code, hc⟩ := Option.isSome_iff_exists.1 hbody
      simp [callFunc, hf, hname', hc]
    unfold Runs at hrun
    have hcall : (callFunc n args.toList.toArray).run P (inX W).w = .ok (.enter n args.toList.toArray) W := hcall
    rw [hcall] at hrun
    simpa using hrun
  · intro v y Y hv hI hS hR
    have hv : v = .bool true := hv
    subst hv
    rw [rel_bool] at hR
    subst hR
    have hb := step_below hS
    refine ⟨.bool true, rfl, ds, [], p ++ [], [], p, [], hW', ?_, ?_, ?_, ?_, fun h => by cases h⟩
    · rw [List.append_nil, hspec ds (by rw [hlen _ _ _ _ hA]; simp), hres]
      exact trodAll_mk1 ⟨1, by simp [DataW.trod, htb, Value.cells]⟩
    · rw [List.append_nil, hspec ds (by rw [hlen _ _ _ _ hA]; simp)]
      refine trodAll_below hl hb _ _ _ _ hA (fun t ht => ?_) (fun x hx => hW'.lt x (by simp [hx]))
      have := List.all_eq_true.1 hread t ht
      simp only [Bool.and_eq_true] at this
      exact ⟨this.1, by have := this.2; rwa [Nat.blt_eq] at this⟩
    · rw [hvars, List.append_nil, hspec ds (by rw [hlen _ _ _ _ hA]; simp)]
      rfl
    · exact below_kept hb _
end
end Go.VM

namespace Go.VM
/-! ### Numbers in their range -/
theorem wrap_in {n : Int} (h1 : -9223372036854775808 ≤ n) (h2 : n ≤ 9223372036854775807) : wrapI .i64 n = n := IntWalk.i64_in n ⟨h1, by omega⟩
theorem wrap_succ {i : Nat} (h : i < 4611686018427387904) : wrapI .i64 (addI (ofN i) 1) = ofN (i + 1) := by
  have : addI (ofN i) 1 = ofN (i + 1) := by simp [addI, ofN]
  rw [this]
  exact wrap_in (by simp [ofN]; omega) (by simp [ofN]; omega)
theorem natI_ofN (i : Nat) : natI (ofN i) = i := by simp [natI, ofN]
theorem ofN_natI {i : Int} (h : leI 0 i = true) : ofN (natI i) = i := by
  have : 0 ≤ i := of_decide_eq_true h
  simp [natI, ofN]; omega
theorem ltI_ofN (i n : Nat) : ltI (ofN i) (ofN n) = decide (i < n) := by simp [ltI, ofN]
theorem leI_ofN (i n : Nat) : leI (ofN i) (ofN n) = decide (i ≤ n) := by simp [leI, ofN]
theorem leI_zero (i : Nat) : leI 0 (ofN i) = true := by simp [leI, ofN]
theorem eqI_refl (i : Int) : eqI i i = true := by simp [eqI]
theorem eqI_iff {a b : Int} : eqI a b = true ↔ a = b := by simp [eqI]
theorem leN_iff {a b : Nat} : leN a b = true ↔ a ≤ b := by simp [leN]
theorem ltN_iff {a b : Nat} : ltN a b = true ↔ a < b := by simp [ltN]
theorem eqN_iff {a b : Nat} : eqN a b = true ↔ a = b := by simp [eqN]
theorem ltI_iff {a b : Int} : ltI a b = true ↔ a < b := by simp [ltI]
theorem leI_iff {a b : Int} : leI a b = true ↔ a ≤ b := by simp [leI]
theorem ltI_no {a b : Int} : ltI a b = false ↔ ¬ a < b := by simp [ltI]
theorem eqI_no {a b : Int} : eqI a b = false ↔ a ≠ b := by simp [eqI]
theorem leN_no {a b : Nat} : leN a b = false ↔ ¬ a ≤ b := by simp [leN]
theorem notB_iff {a : Bool} : notB a = true ↔ a = false := by cases a <;> simp [notB]
theorem notB_no {a : Bool} : notB a = false ↔ a = true := by cases a <;> simp [notB]
theorem addN_eq (a b : Nat) : addN a b = a + b := rfl
theorem subN_eq (a b : Nat) : subN a b = a - b := rfl
end Go.VM
