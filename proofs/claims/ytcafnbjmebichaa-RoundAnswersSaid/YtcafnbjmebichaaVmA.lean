/- A machine over the model's code that carries values, by value, and regions of memory; and that its operations that leave memory alone are as the model's. No conditions. -/
import GoSem.Core.View
import GoSem.Core.Code
import Derived.Calls
import Derived.Laws.Sem
import Derived.Maps.Keyed
import Derived.Laws.Cells
import Derived.Laws.StructEq
import Derived.Laws.Cover3
import Derived.ChangeKeysEq
import Derived.Laws.Tables
namespace Go.VM

/-! ### The numbers' operations, by name -/
--PRIM
def wrapI (k : IntKind) (n : Int) : Int := k.wrap n
def addI (a b : Int) : Int := a + b
def subI (a b : Int) : Int := a - b
def mulI (a b : Int) : Int := a * b
def tdivI (a b : Int) : Int := a.tdiv b
def tmodI (a b : Int) : Int := a.tmod b
def bandI (k : IntKind) (a b : Int) : Int := k.wrap ((BitVec.ofInt k.bits a &&& BitVec.ofInt k.bits b).toNat)
def borI (k : IntKind) (a b : Int) : Int := k.wrap ((BitVec.ofInt k.bits a ||| BitVec.ofInt k.bits b).toNat)
def bxorI (k : IntKind) (a b : Int) : Int := k.wrap ((BitVec.ofInt k.bits a ^^^ BitVec.ofInt k.bits b).toNat)
def bandnI (k : IntKind) (a b : Int) : Int := k.wrap ((BitVec.ofInt k.bits a &&& ~~~ (BitVec.ofInt k.bits b)).toNat)
def shlI (k : IntKind) (x y : Int) : Int := k.wrap (x * 2 ^ (min y.toNat k.bits))
def shrI (k : IntKind) (x y : Int) : Int := x.fdiv (2 ^ (min y.toNat k.bits))
def minI (a b : Int) : Int := if b < a then b else a
def maxI (a b : Int) : Int := if b > a then b else a
def ltI (a b : Int) : Bool := decide (a < b)
def leI (a b : Int) : Bool := decide (a ≤ b)
def eqI (a b : Int) : Bool := decide (a = b)
def ltN (a b : Nat) : Bool := decide (a < b)
def leN (a b : Nat) : Bool := decide (a ≤ b)
def eqN (a b : Nat) : Bool := decide (a = b)
def addN (a b : Nat) : Nat := a + b
def subN (a b : Nat) : Nat := a - b
def ofN (n : Nat) : Int := (n : Int)
def natI (i : Int) : Nat := i.toNat
def notB (a : Bool) : Bool := !a
def andB (a b : Bool) : Bool := a && b
def orB (a b : Bool) : Bool := a || b
def eqB (a b : Bool) : Bool := a == b
def iteI (b : Bool) (x y : Int) : Int := if b then x else y
def iteN (b : Bool) (x y : Nat) : Nat := if b then x else y
def eqS (a b : ByteArray) : Bool := a == b
def catS (a b : ByteArray) : ByteArray := a ++ b
def lenS (a : ByteArray) : Nat := a.size
def byteS (a : ByteArray) (i : Nat) : Int := ((a.data.toList.getD i 0).toNat : Int)
def cutS (a : ByteArray) (i j : Nat) : ByteArray := a.extract i j
--END

/-- Values by value. -/
inductive V where
  | junk
  | undef
  | bool (b : Bool)
  | int (k : IntKind) (n : Int)
  | str (s : ByteArray)
  | nilp
  | ptr (r : Nat) (p : List Nat) (t : Nat)
  | ref (t : Nat) (v : V)
  | it (r : Nat)
  | nils
  | sub (r off n : Nat)
  | view (e n : Nat) (f : Nat → V)
  | nilm
  | mp (r : Nat)
  | nilf
  | fn (f : Nat) (cap : List V)
  | ei (b : Bool) (t : Nat) (n : Int)
  | nd (t : Nat) (l : List V)
  | arr (t n : Nat) (f : Nat → V)
  | tup (l : List V)
  deriving Inhabited

/-- Regions: what a call may write. -/
inductive Reg where
  | gone
  | box (t : Nat) (v : V)
  | row (e n : Nat) (f : Nat → V)
  | frz (e n : Nat) (f : Nat → V)
  | map (t c : Nat) (l : List (Nat × V × V))  -- its type, how many entries were ever put in, its entries with when they came in
  | iter (m : V) (since last : Nat) (seen : List Nat)  -- of which map; the numbers that it has handed out, the last one ahead
  deriving Inhabited

inductive TyD where
  | int (k : IntKind) | bool | str | ptr (e : Nat) | slice (e : Nat) | map (k e : Nat) | func | iface | st (fs : List Nat) | ar (n e : Nat)
  deriving Inhabited

abbrev Tab := List (Nat × TyD)

inductive R (α : Type) where
  | ret (a : α)
  | fail
  | next (p : V → Bool) (k : V → R α) (o : R α)

universe u
def find {α : Type u} (t : Nat) : List (Nat × α) → Option α
  | [] => none
  | (s, d) :: l => match Nat.beq t s with | true => some d | false => find t l

def Tab.has (T : Tab) (t : Nat) : Bool := match find t T with | some _ => true | none => false
def Tab.agg (T : Tab) (t : Nat) : Bool := match find t T with | some (.st _) => true | some (.ar _ _) => true | _ => false

mutual
def zeroV (T : Tab) : Nat → Nat → V
  | 0, _ => .junk
  | d + 1, t => match find t T with
    | some (.int k) => .int k 0
    | some .bool => .bool false
    | some .str => .str ByteArray.empty
    | some (.ptr _) => .nilp
    | some (.slice _) => .nils
    | some (.map _ _) => .nilm
    | some .func => .nilf
    | some .iface => .ei false 0 0
    | some (.st fs) => .nd t (zeroVs T d fs)
    | some (.ar n e) => .arr t n fun _ => zeroV T d e
    | none => .junk
def zeroVs (T : Tab) : Nat → List Nat → List V
  | _, [] => []
  | 0, _ => []
  | d + 1, t :: l => zeroV T d t :: zeroVs T d l
end
def Tab.zero (T : Tab) (t : Nat) : V := zeroV T 60 t

mutual
/-- No reference of any kind inside values of this type. -/
def flatT (T : Tab) : Nat → Nat → Bool
  | 0, _ => false
  | d + 1, t => match find t T with
    | some (.int _) => true
    | some .bool => true
    | some .str => true
    | some (.st fs) => flatTs T d fs
    | some (.ar _ e) => flatT T d e
    | _ => false
def flatTs (T : Tab) : Nat → List Nat → Bool
  | _, [] => true
  | 0, _ => false
  | d + 1, t :: l => (flatT T d t) && flatTs T d l
end
def Tab.flat (T : Tab) (t : Nat) : Bool := flatT T 60 t
mutual
/-- values of this type are held against each other part by part -/
def eqT (T : Tab) : Nat → Nat → Bool
  | 0, _ => false
  | d + 1, t => match find t T with
    | some (.int _) => true
    | some .bool => true
    | some .str => true
    | some (.st fs) => eqTs T d fs
    | some (.ar _ _) => (match d with | 0 => false | _ + 1 => true)
    | _ => false
def eqTs (T : Tab) : Nat → List Nat → Bool
  | _, [] => true
  | 0, _ => false
  | d + 1, t :: l => (eqT T d t) && eqTs T d l
end

/-- shallow shape test against a type -/
def tagOk (T : Tab) (t : Nat) (v : V) : Bool := match v with | .nd u _ => Nat.beq u t | .arr u _ _ => Nat.beq u t | .tup _ => false | .undef => false | .junk => false | _ => !T.agg t

def sameK : IntKind → IntKind → Bool
  | .i64, .i64 => true | .u64, .u64 => true | .i32, .i32 => true | .u32, .u32 => true
  | .i16, .i16 => true | .u16, .u16 => true | .i8, .i8 => true | .u8, .u8 => true | _, _ => false

def kindIs (k : IntKind) (d : Option TyD) : Bool := match d with
  | some (.int j) => sameK k j
  | _ => false
mutual
/-- what may stand in a row, or in a map, of elements of type t: its shape, and no name of a region -/
def fitV (T : Tab) : V → Nat → Bool
  | .int k _, t => kindIs k (find t T)
  | .bool _, t => match find t T with | some .bool => true | _ => false
  | .str _, t => match find t T with | some .str => true | _ => false
  | .view e _ _, t => match find t T with | some (.slice e') => Nat.beq e e' | _ => false
  | .nils, t => match find t T with | some (.slice _) => true | _ => false
  | .ei _ _ _, t => match find t T with | some .iface => true | _ => false
  | .nilp, t => match find t T with | some (.ptr _) => true | _ => false
  | .nilm, t => match find t T with | some (.map _ _) => true | _ => false
  | .nilf, t => match find t T with | some .func => true | _ => false
  | .nd u l, t => match Nat.beq u t, find t T with | true, some (.st fs) => fitVs T l fs | _, _ => false
  | .arr u n _, t => match Nat.beq u t, find t T with | true, some (.ar m _) => Nat.beq n m | _, _ => false
  | _, _ => false
def fitVs (T : Tab) : List V → List Nat → Bool
  | [], [] => true
  | v :: l, t :: fs => match fitV T v t with | true => fitVs T l fs | false => false
  | _, _ => false
end
def Tab.fits (T : Tab) (t : Nat) (v : V) : Bool := fitV T v t

/-! ### a row's element, spelled out by its type -/
def intV : V → Int | .int _ n => n | _ => 0
def boolV : V → Bool | .bool b => b | _ => false
def strV : V → ByteArray | .str s => s | _ => ByteArray.empty
def eiB : V → Bool | .ei b _ _ => b | _ => false
def eiT : V → Nat | .ei _ t _ => t | _ => 0
def eiN : V → Int | .ei _ _ n => n | _ => 0
def viewN : V → Nat | .view _ n _ => n | _ => 0
def viewF : V → Nat → V | .view _ _ f => f | _ => fun _ => .junk
def arrF : V → Nat → V | .arr _ _ f => f | _ => fun _ => .junk
def partV : V → Nat → V
  | .nd _ l, i => l.getD i .junk
  | _, _ => .junk
def mapI (g : Nat → V → V) (v : V) : List Nat → Nat → List V
  | [], _ => []
  | t :: l, i => g t (partV v i) :: mapI g v l (i + 1)
/-- a table without the type 1: empty slices within rows are kept apart (nothing of a row's slices may be unknown then) -/
def strictE (T : Tab) : Bool := match find 1 T with | none => true | some _ => false
def etaV (T : Tab) : Nat → Nat → V → V
  | 0, _, v => v
  | d + 1, t, v => match find t T with
    | some (.int k) => .int k (intV v)
    | some .bool => .bool (boolV v)
    | some .str => .str (strV v)
    | some .iface => .ei (eiB v) (eiT v) (eiN v)
    | some (.slice e) => match strictE T with | true => (match v with | .nils => .nils | _ => .view e (viewN v) (viewF v)) | false => .view e (viewN v) (viewF v)
    | some (.st fs) => .nd t (mapI (etaV T d) v fs 0)
    | some (.ar n _) => .arr t n (arrF v)
    | _ => v
def Tab.eta (T : Tab) (t : Nat) (v : V) : V := etaV T 60 t v
def Tab.elem (T : Tab) (t : Nat) (v : V) : V := match find t T with | some (.ar _ e) => T.eta e v | _ => v
/-- what may be stored in a variable of type t -/
def Tab.takes (T : Tab) (t : Nat) (v : V) : Bool := match T.flat t with | true => fitV T v t | false => tagOk T t v

mutual
/-- region numbers met, in order of first meeting (pointers, maps, closures; slices too if b) -/
def visit (b : Bool) : V → List Nat → List Nat
  | .ptr r _ _, o => addTo r o
  | .it r, o => addTo r o
  | .mp r, o => addTo r o
  | .sub r _ _, o => match b with | true => addTo r o | false => o
  | .fn _ l, o => visits b l o
  | .nd _ l, o => visits b l o
  | .tup l, o => visits b l o
  | _, o => o
def visits (b : Bool) : List V → List Nat → List Nat
  | [], o => o
  | v :: l, o => visits b l (visit b v o)
def addTo (r : Nat) : List Nat → List Nat
  | [] => [r]
  | s :: o => match Nat.beq r s with | true => s :: o | false => s :: addTo r o
end
mutual
def ren (f : Nat → Option Nat) : V → V
  | .ptr r p t => match f r with | some r => .ptr r p t | none => .junk
  | .it r => match f r with | some r => .it r | none => .junk
  | .mp r => match f r with | some r => .mp r | none => .junk
  | .sub r off n => match f r with | some r => .sub r off n | none => .junk
  | .fn g l => .fn g (rens f l)
  | .nd t l => .nd t (rens f l)
  | .tup l => .tup (rens f l)
  | v => v
def rens (f : Nat → Option Nat) : List V → List V
  | [] => []
  | v :: l => ren f v :: rens f l
end
def Reg.ren (f : Nat → Option Nat) : Reg → Reg
  | .box t v => .box t (VM.ren f v)
  | .iter m a b s => .iter (VM.ren f m) a b s
  | r => r
def Reg.visit (o : List Nat) : Reg → List Nat
  | .box _ v => VM.visit true v o
  | .iter m _ _ _ => VM.visit true m o
  | _ => o
def memN (r : Nat) : List Nat → Bool
  | [] => false
  | s :: o => match Nat.beq r s with | true => true | false => memN r o

def getP : V → List Nat → V
  | v, [] => v
  | .nd _ l, i :: p => getP (l.getD i .junk) p
  | .arr _ _ f, i :: p => getP (f i) p
  | _, _ :: _ => .junk
/-- the same, an array's elements spelled out -/
def getE (T : Tab) : V → List Nat → V
  | v, [] => v
  | .nd _ l, i :: p => getE T (l.getD i .junk) p
  | .arr t _ f, i :: p => getE T (T.elem t (f i)) p
  | _, _ :: _ => .junk
def setP : V → List Nat → V → V
  | _, [], x => x
  | .nd t l, i :: p, x => .nd t (l.set i (setP (l.getD i .junk) p x))
  | .arr t n f, i :: p, x => .arr t n fun j => match eqN j i with | true => setP (f i) p x | false => f j
  | _, _ :: _, _ => .junk

def childV : V → Nat → V
  | .nd _ l, i => l.getD i .junk
  | _, _ => .junk

mutual
/-- a map's key: whole numbers, bools, strings, and structs of these -/
def keyOk : V → Bool
  | .bool _ => true
  | .int .. => true
  | .str _ => true
  | .nd _ l => keyOks l
  | _ => false
def keyOks : List V → Bool
  | [] => true
  | v :: l => keyOk v && keyOks l
end
mutual
/-- the very same key -/
def same : V → V → Bool
  | .bool a, .bool b => eqB a b
  | .int j a, .int k b => match sameK j k with | true => eqI a b | false => false
  | .str a, .str b => eqS a b
  | .nd t l, .nd u m => match Nat.beq t u with | true => sames l m | false => false
  | _, _ => false
def sames : List V → List V → Bool
  | [], [] => true
  | [x], [y] => same x y
  | x :: l, y :: m => andB (same x y) (sames l m)
  | _, _ => false
end
/-- all of n elements are the same whole numbers -/
def allEq (n : Nat) (f g : Nat → V) : Bool := (List.range n).all fun i => eqI (intV (f i)) (intV (g i))

/-- can Go's '==' be asked here, at type t? -/
def eqOk (T : Tab) (t : Nat) (x y : V) : Bool := match find t T with
  | some .bool => (match x, y with | .bool _, .bool _ => true | _, _ => false)
  | some (.ptr _) => (match x, y with
    | .nilp, .nilp => true
    | .nilp, .ptr .. => true
    | .ptr .., .nilp => true
    | .ref .., .nilp => true
    | .nilp, .ref .. => true
    | _, _ => false)
  | some (.map _ _) => (match x, y with | .nilm, .nilm => true | .mp _, .nilm => true | _, _ => false)
  | some .iface => (match x, y with | .ei a _ _, .ei b _ _ => orB a b | _, _ => false)
  | some (.st _) => eqT T 60 t && (fitV T x t && fitV T y t)
  | _ => false
def listBeq : List Nat → List Nat → Bool
  | [], [] => true
  | a :: l, b :: m => match Nat.beq a b with | true => listBeq l m | false => false
  | _, _ => false
mutual
/-- Go's '==' -/
def eqV : V → V → Bool
  | .bool a, .bool b => eqB a b
  | .int _ a, .int _ b => eqI a b
  | .str a, .str b => eqS a b
  | .nilp, .nilp => true
  | .nils, .nils => true
  | .nilm, .nilm => true
  | .nilf, .nilf => true
  | .ei a t m, .ei b u n => match Nat.beq t u with
    | true => andB (eqB a b) (orB (notB a) (eqI m n))
    | false => andB (notB a) (notB b)
  | .nd _ l, .nd _ m => eqVs l m
  | .arr _ n f, .arr _ _ g => allEq n f g
  | _, _ => false
def eqVs : List V → List V → Bool
  | [], [] => true
  | [x], [y] => eqV x y
  | x :: l, y :: m => andB (eqV x y) (eqVs l m)
  | _, _ => false
end
/-- b, or its contrary -/
def xorB (neg b : Bool) : Bool := match neg with | true => notB b | false => b
def isNil : V → Bool
  | .ei b _ _ => match b with | true => false | false => true
  | _ => false

def posIn (o : List Nat) (r : Nat) : Option Nat := match o with
  | [] => none
  | s :: l => match Nat.beq r s with | true => some 0 | false => match posIn l r with | some i => some (i + 1) | none => none

def opnd (keep : List Nat) (env : List (Nat × V)) (loc : List V) : Operand → V
  | .tmp t => match find t env with
    | some v => v
    | none => match posIn keep t with | some i => loc.getD i .junk | none => .junk
  | .const v => match v with
    | .bool b => .bool b
    | .int k n => .int k n
    | .string s => .str s
    | .pointer none => .nilp
    | .slice none 0 0 => .nils
    | .map none => .nilm
    | .nilFunc => .nilf
    | .nilIface => .ei false 0 0
    | _ => .junk
  | .func f => .fn f []
  | .global _ => .junk

def isConst : Operand → Bool | .const _ => true | _ => false

/-! Values carried out before they are handed on. -/
section
universe v
variable {γ : Type v}
mutual
def forceV : V → (V → γ) → γ
  | .nd t l, K => forceVs l fun l => K (.nd t l)
  | .tup l, K => forceVs l fun l => K (.tup l)
  | .fn f l, K => forceVs l fun l => K (.fn f l)
  | .ref t v, K => forceV v fun v => K (.ref t v)
  | v, K => K v
def forceVs : List V → (List V → γ) → γ
  | [], K => K []
  | v :: l, K => forceV v fun v => forceVs l fun l => K (v :: l)
end
def forceR : Reg → (Reg → γ) → γ
  | .box t v, K => forceV v fun v => K (.box t v)
  | g, K => K g
def forceG : List Reg → (List Reg → γ) → γ
  | [], K => K []
  | g :: l, K => forceR g fun g => forceG l fun l => K (g :: l)
def forceS (loc : List V) (G : List Reg) (K : List V → List Reg → γ) : γ := forceVs loc fun loc => forceG G fun G => K loc G
def forceB (v : V) (G : List Reg) (K : V → List Reg → γ) : γ := forceV v fun v => forceG G fun G => K v G
end

section
variable {β : Type}

def must (b : Bool) (k : R β) : R β := match b with | true => k | false => .fail

def intBin (op : BinOp) (k : IntKind) (a b : Int) (K : V → R β) : R β := match op with
  | .add => K (.int k (wrapI k (addI a b)))
  | .sub => K (.int k (wrapI k (subI a b)))
  | .mul => K (.int k (wrapI k (mulI a b)))
  | .quo => must (notB (eqI b 0)) (K (.int k (wrapI k (tdivI a b))))
  | .rem => must (notB (eqI b 0)) (K (.int k (tmodI a b)))
  | .and => K (.int k (bandI k a b))
  | .or => K (.int k (borI k a b))
  | .xor => K (.int k (bxorI k a b))
  | .andNot => K (.int k (bandnI k a b))
  | .eql => K (.bool (eqI a b))
  | .neq => K (.bool (notB (eqI a b)))
  | .lss => K (.bool (ltI a b))
  | .leq => K (.bool (leI a b))
  | .gtr => K (.bool (ltI b a))
  | .geq => K (.bool (leI b a))
  | .shl => .fail
  | .shr => .fail
def shiftV (op : BinOp) (k : IntKind) (x y : Int) (K : V → R β) : R β := match op with
  | .shl => must (leI 0 y) (K (.int k (shlI k x y)))
  | .shr => must (leI 0 y) (K (.int k (shrI k x y)))
  | _ => .fail
def isShift : BinOp → Bool | .shl => true | .shr => true | _ => false
/-- a slice held against nil -/
def nilCmp (T : Tab) (t : Nat) (x : V) (neg : Bool) (K : V → R β) : R β := match find t T, x with
  | some (.slice _), .nils => K (.bool (!neg))
  | some (.slice _), .sub _ _ n => must (ltN 0 n) (K (.bool neg))
  | some (.slice _), .view _ n _ => must (ltN 0 n) (K (.bool neg))
  | _, _ => .fail
def eqAsk (T : Tab) (t : Nat) (cst : Bool) (x y : V) (neg : Bool) (K : V → R β) : R β :=
  match cst, isNil y || isNil x with
  | true, true => match find t T, x, y with
    | some .iface, .ei a _ _, .ei b _ _ => K (.bool (xorB neg (notB (orB a b))))
    | _, _, _ => .fail
  | _, _ => must (eqOk T t x y) (K (.bool (xorB neg (eqV x y))))
def binV (T : Tab) (t : Nat) (op : BinOp) (cst : Bool) (x y : V) (K : V → R β) : R β := match x with
  | .int k a => match y with
    | .int j b => match isShift op with
      | true => shiftV op k a b K
      | false => must (sameK k j) (intBin op k a b K)
    | _ => .fail
  | _ => match op with
    | .eql => match y with
      | .nils => nilCmp T t x false K
      | _ => eqAsk T t cst x y false K
    | .neq => match y with
      | .nils => nilCmp T t x true K
      | _ => eqAsk T t cst x y true K
    | _ => .fail
def unV (op : UnOp) (x : V) (K : V → R β) : R β := match x with
  | .int k n => match op with
    | .neg => K (.int k (wrapI k (subI 0 n)))
    | .xor => K (.int k (bxorI k (match k.signed with | true => -1 | false => k.max) n))
    | _ => .fail
  | .bool b => match op with | .not => K (.bool (notB b)) | _ => .fail
  | _ => .fail

def loadR (T : Tab) (G : List Reg) (r : Nat) (p : List Nat) (K : V → R β) : R β := match G.getD r .gone with
  | .box _ v => K (getE T v p)
  | .row e _ f => match p with | i :: p => K (getE T (T.eta e (f i)) p) | [] => .fail
  | .frz e _ f => match p with | i :: p => K (getE T (T.eta e (f i)) p) | [] => .fail
  | _ => .fail
/-- rows: one element written, some cleared, all alike -/
def setF (f : Nat → V) (i : Nat) (x : V) : Nat → V := fun j => match eqN j i with | true => x | false => f j
def clearF (z : V) (f : Nat → V) (lo n : Nat) : Nat → V := fun i => match andB (leN lo i) (ltN i (addN lo n)) with | true => z | false => f i
def constF (z : V) : Nat → V := fun _ => z
def storeR (T : Tab) (G : List Reg) (r : Nat) (p : List Nat) (x : V) (K : List Reg → R β) : R β := match G.getD r .gone with
  | .box t v => K (G.set r (.box t (setP v p x)))
  | .row e n f => match p with
    | i :: p => must (T.fits e (setP (T.eta e (f i)) p x)) (K (G.set r (.row e n (setF f i (setP (T.eta e (f i)) p x)))))
    | [] => .fail
  | _ => .fail

/-- the region's elements are of this type -/
def rowIs (G : List Reg) (r e : Nat) : Bool := match G.getD r .gone with
  | .row e' _ _ => Nat.beq e e'
  | .frz e' _ _ => Nat.beq e e'
  | _ => false
def lenV (T : Tab) (t : Nat) (x : V) (K : Nat → R β) : R β := match find t T with
  | some (.slice _) => match x with
    | .nils => K 0
    | .view _ n _ => K n
    | .sub _ _ n => K n
    | _ => .fail
  | some .str => match x with | .str s => K (lenS s) | _ => .fail
  | some (.ar n _) => K n
  | some (.ptr e) => match find e T with | some (.ar n _) => K n | _ => .fail
  | _ => .fail

/-- 'off + i', plain where nothing is added -/
def plusN (off i : Nat) : Nat := match off with | 0 => i | o => addN o i

def indexAddrV (T : Tab) (G : List Reg) (t : Nat) (x ix : V) (K : V → R β) : R β := match ix with
  | .int _ i => match find t T with
    | some (.slice e) => match x with
      | .view e' n f => must (andB (leI 0 i) (ltI i (ofN n))) (must (Nat.beq e e') (K (.ref e (T.eta e (f (natI i))))))
      | .sub r off n => must (andB (leI 0 i) (ltI i (ofN n))) (must (rowIs G r e) (K (.ptr r [plusN off (natI i)] e)))
      | _ => .fail
    | some (.ar n e) => match x with
      | .ptr r p u => must (Nat.beq u t) (must (andB (leI 0 i) (ltI i (ofN n))) (K (.ptr r (p ++ [natI i]) e)))
      | .ref u v => match v with | .arr _ n f => must (Nat.beq u t) (must (andB (leI 0 i) (ltI i (ofN n))) (K (.ref e (T.eta e (f (natI i)))))) | _ => .fail
      | _ => .fail
    | _ => .fail
  | _ => .fail

/-- the elements from lo on -/
def shiftF (f : Nat → V) (lo : Nat) : Nat → V := match lo with | 0 => f | lo + 1 => fun i => f (addN (lo + 1) i)

def sliceGo (T : Tab) (G : List Reg) (t : Nat) (x : V) (l h : Nat) (K : V → R β) : R β := match find t T with
  | some (.slice e) => match x with
    | .nils => K .nils
    | .view e' _ f => must (Nat.beq e e') (K (.view e (subN h l) (shiftF f l)))
    | .sub r off _ => must (rowIs G r e) (K (.sub r (plusN off l) (subN h l)))
    | _ => .fail
  | _ => .fail
def sliceHi (n : Nat) (hi mx : Option V) (K : Nat → R β) : R β := match mx with
  | some m => match m, hi with
    | .int _ m, some (.int _ h) => must (andB (andB (leI 0 h) (leI h m)) (leI m (ofN n))) (K (natI h))
    | _, _ => .fail
  | none => match hi with
    | some h => match h with | .int _ h => must (andB (leI 0 h) (leI h (ofN n))) (K (natI h)) | _ => .fail
    | none => K n
def sliceV (T : Tab) (t : Nat) (G : List Reg) (x : V) (lo hi mx : Option V) (K : V → R β) : R β :=
  lenV T t x fun n => sliceHi n hi mx fun h => match lo with
    | some l => match l with | .int _ l => must (andB (leI 0 l) (leI l (ofN h))) (sliceGo T G t x (natI l) h K) | _ => .fail
    | none => sliceGo T G t x 0 h K

/-- a length, a map's among them -/
def mlenV (T : Tab) (t : Nat) (G : List Reg) (x : V) (K : Nat → R β) : R β := match x with
  | .mp r => (match find t T with
    | some (.map _ _) => (match G.getD r .gone with | .map u _ l => must (Nat.beq u t) (K l.length) | _ => .fail)
    | _ => .fail)
  | .nilm => (match find t T with | some (.map _ _) => K 0 | _ => .fail)
  | x => lenV T t x K
def detCall (T : Tab) (σ : Operand → V) (G : List Reg) (b : Builtin) (xs : List Operand) (ts : List Nat) (K : V → R β) : R β := match b with
  | .len => match xs, ts with
    | [x], [t] => mlenV T t G (σ x) fun n => K (.int .i64 (ofN n))
    | _, _ => .fail
  | .min => match xs with
    | [x, y] => match σ x, σ y with | .int k a, .int _ b => K (.int k (minI a b)) | _, _ => .fail
    | _ => .fail
  | .max => match xs with
    | [x, y] => match σ x, σ y with | .int k a, .int _ b => K (.int k (maxI a b)) | _, _ => .fail
    | _ => .fail
  | _ => .fail

/-- parts into a struct's zero value -/
def buildV (T : Tab) (fs : List Nat) (σ : Operand → V) : List (Nat × Operand) → List V → (List V → R β) → R β
  | [], z, K => K z
  | (i, x) :: l, z, K => match fs[i]? with
    | some f => must (T.takes f (σ x)) (buildV T fs σ l (z.set i (σ x)) K)
    | none => .fail
/-- the type of a struct's field -/
def fieldT (T : Tab) (s f : Nat) : Option Nat := match find s T with | some (.st fs) => fs[f]? | _ => none

/-- operations that leave the regions alone -/
def detOp (T : Tab) (σ : Operand → V) (G : List Reg) (op : Op) (K : V → R β) : R β := match op with
  | .move x => K (σ x)
  | .assign x => K (σ x)
  | .pick c a b => match σ c with | .bool c => (match c with | true => K (σ a) | false => K (σ b)) | _ => .fail
  | .load t a => match σ a with | .ptr r p u => must (Nat.beq u t) (loadR T G r p K) | .ref u v => must (Nat.beq u t) (must (T.has u) (K v)) | _ => .fail
  | .nilCheck x => match σ x with | .ptr r p t => K (.ptr r p t) | .ref t v => K (.ref t v) | .fn f l => K (.fn f l) | _ => .fail
  | .binOp op t x y _ => binV T t op (isConst x || isConst y) (σ x) (σ y) K
  | .unOp op _ x => unV op (σ x) K
  | .convert s d x => match find s T, find d T with
    | some _, some (.int k) => match σ x with | .int _ n => K (.int k (wrapI k n)) | _ => .fail
    | some _, some .str => match σ x with | .str s => K (.str s) | _ => .fail
    | _, _ => .fail
  | .makeInterface t x => match find t T with
    | some (.int .i64) => match σ x with | .int .i64 n => K (.ei true t n) | _ => .fail
    | _ => .fail
  | .makeFunc fn first cap => match fn with
    | .func f => match first.toList with | [] => K (.fn f (cap.toList.map σ)) | _ => .fail
    | _ => .fail
  | .slice t x lo hi mx => sliceV T t G (σ x) (lo.map σ) (hi.map σ) (mx.map σ) K
  | .fieldAddr s x f => match fieldT T s f with
    | some ft => match σ x with
      | .ptr r p u => must (Nat.beq u s) (K (.ptr r (p ++ [f]) ft))
      | .ref u v => must (Nat.beq u s) (K (.ref ft (childV v f)))
      | _ => .fail
    | none => .fail
  | .field s x f => match fieldT T s f, σ x with
    | some _, .nd u l => must (Nat.beq u s) (K (l.getD f .junk))
    | _, _ => .fail
  | .indexAddr t x ix => indexAddrV T G t (σ x) (σ ix) K
  | .index t x ix => match σ ix with
    | .int _ i => match σ x, find t T with
      | .arr u n f, some (.ar _ e) => must (Nat.beq u t) (must (andB (leI 0 i) (ltI i (ofN n))) (K (T.eta e (f (natI i)))))
      | .str s, some .str => must (andB (leI 0 i) (ltI i (ofN (lenS s)))) (K (.int .u8 (byteS s (natI i))))
      | _, _ => .fail
    | _ => .fail
  | .typeAssert x _ t ok => match ok with
    | true => match find t T with
      | some (.int .i64) => match σ x with
        | .ei b u n => match Nat.beq u t with
          | true => K (.tup [.int .i64 (iteI b n 0), .bool b])
          | false => K (.tup [.int .i64 0, .bool false])
        | _ => .fail
      | _ => .fail
    | false => .fail
  | .extract x i => match σ x with | .tup l => (match l[i]? with | some v => K v | none => .fail) | _ => .fail
  | .build t parts => match find t T, T.zero t with
    | some (.st fs), .nd _ l => buildV T fs σ parts.toList l fun l => K (.nd t l)
    | some (.ar n e), .arr _ _ f => match n with
      | 5 => match T.flat e with
        | true => buildV T [e, e, e, e, e] σ parts.toList [f 0, f 1, f 2, f 3, f 4] fun l => K (.arr t 5 fun i => l.getD i (T.zero e))
        | false => .fail
      | _ => match parts.toList with | [] => K (.arr t n f) | _ => .fail
    | _, _ => .fail
  | .call c => match c.callee with
    | .builtin b => detCall T σ G b c.args.toList c.argTypes.toList K
    | _ => .fail
  | _ => .fail

def Op.isDet : Op → Bool
  | .move _ => true | .assign _ => true | .pick .. => true | .load .. => true | .nilCheck _ => true | .binOp .. => true | .unOp .. => true | .convert .. => true
  | .makeInterface .. => true | .makeFunc .. => true | .slice .. => true | .fieldAddr .. => true | .field .. => true | .indexAddr .. => true | .index .. => true
  | .typeAssert .. => true | .extract .. => true | .build .. => true
  | .call c => match c.callee with
    | .builtin b => match b with | .len => true | .min => true | .max => true | _ => false
    | _ => false
  | _ => false
end

/-- A state within a function: what the slots that outlive a statement hold; the regions. -/
structure St where
  loc : List V
  G : List Reg

inductive Ex where
  | normal | exit (j : Nat) | ret

/-- What a function does: its arguments, the regions handed over, what is done with the result and the regions behind it. -/
structure Entry where
  own : List Nat
  run : {β : Type} → List V → List Reg → (V → List Reg → R β) → R β

/-- the order in which a region that draws its order is carried out; behind a step: what must still say the same -/
inductive Plan where
  | nil
  | cons (i : Nat) (re : List Nat) (rest : Plan)
  /-- this one next, or as the other says -/
  | alt (i : Nat) (re : List Nat) (rest other : Plan)
  deriving Inhabited

/-- What a loop does: how many regions the caller owns, the state at its head, what is done behind it; its rounds, where it is at none of the shapes that are told. -/
structure LoopE where
  run : {β : Type} → Nat → St → (Ex → St → R β) → R β → R β

structure Ctx where
  T : Tab
  keep : List Nat
  fns : List (Nat × Entry)
  live : List (Nat × List Nat)     -- by a loop's block: which slots live at its head
  plan : List (Nat × Plan)  -- by a region's number
  N : Nat
  tys : List (Nat × Nat)  -- slots that hold slices: their types
  loops : List (Nat × LoopE)  -- loops that are told by what they do
  m : Nat := 0
  nt : Nat := 0
  vnil : List Nat := []  -- structs whose slices without elements are views at heads of loops (rows of their own elsewhere)
  any : Bool := true  -- may it be left open whether a slice without elements is nil?
  out : List (Nat × List Nat) := []  -- by a block: which slots live behind it
  ret : Option (List Nat) := none  -- which slots live where a function returns
  joins : List (Nat × (List Nat × List Nat) × LoopE) := []  -- what follows a choice, told by what it does, by its first region: which slots live there, and behind it

/-- the regions that are reached from what is met, in order -/
def reach (G : List Reg) : Nat → Nat → List Nat → List Nat
  | 0, _, o => o
  | k + 1, i, o => match o[i]? with
    | none => o
    | some r => reach G k (i + 1) ((G.getD r .gone).visit o)

mutual
/-- an argument: slices of rows that aren't handed over are handed by value -/
def lend (T : Tab) (G : List Reg) (o : List Nat) : V → V
  | .ptr r p t => match posIn o r with | some r => .ptr r p t | none => .junk
  | .it r => match posIn o r with | some r => .it r | none => .junk
  | .mp r => match posIn o r with | some r => .mp r | none => .junk
  | .sub r off n => match posIn o r with
    | some r => .sub r off n
    | none => match G.getD r .gone with
      | .row e _ f => .view e n (shiftF f off)
      | .frz e _ f => .view e n (shiftF f off)
      | _ => .junk
  | .fn g l => .fn g (lends T G o l)
  | .nd t l => .nd t (lends T G o l)
  | .tup l => .tup (lends T G o l)
  | v => v
def lends (T : Tab) (G : List Reg) (o : List Nat) : List V → List V
  | [] => []
  | v :: l => lend T G o v :: lends T G o l
end
mutual
/-- the rows that are lent by value -/
def lent (o : List Nat) : V → List Nat → List Nat
  | .sub r _ _, a => match memN r o with | true => a | false => addTo r a
  | .fn _ l, a => lentL o l a
  | .nd _ l, a => lentL o l a
  | .tup l, a => lentL o l a
  | _, a => a
def lentL (o : List Nat) : List V → List Nat → List Nat
  | [], a => a
  | v :: l, a => lentL o l (lent o v a)
end
mutual
/-- may there be a view inside? -/
def views : V → Bool
  | .ref .. => true
  | .view .. => true
  | .fn _ l => viewsL l
  | .nd _ l => viewsL l
  | .tup l => viewsL l
  | _ => false
def viewsL : List V → Bool
  | [] => false
  | v :: l => match views v with | true => true | false => viewsL l
end
def Reg.views (T : Tab) : Reg → Bool
  | .box _ v => VM.views v
  | .row e _ _ => !T.flat e
  | .frz e _ _ => !T.flat e
  | .map t _ _ => match find t T with | some (.map k e) => !(T.flat k && T.flat e) | _ => true
  | .iter m _ _ _ => VM.views m
  | .gone => false
def anyViews (T : Tab) : List Reg → Bool
  | [] => false
  | g :: l => match g.views T with | true => true | false => anyViews T l

def Reg.freeze : Reg → Reg
  | .row e n f => .frz e n f
  | g => g
def freezeAll (G : List Reg) : List Nat → List Reg
  | [] => G
  | r :: l => freezeAll (G.set r (G.getD r .gone).freeze) l

def setAll (G : List Reg) : List Nat → List Reg → List Reg
  | r :: o, g :: l => setAll (G.set r g) o l
  | _, _ => G
def regsOf (G : List Reg) (p : Nat → Option Nat) : List Nat → List Reg
  | [] => []
  | r :: o => (G.getD r .gone).ren p :: regsOf G p o
def renAll (f : Nat → Option Nat) : List Reg → List Reg
  | [] => []
  | g :: l => g.ren f :: renAll f l
def dropN : Nat → List Reg → List Reg
  | 0, l => l
  | _ + 1, [] => []
  | n + 1, _ :: l => dropN n l
def ownRoots (args : List V) : List Nat → List Nat → List Nat
  | [], o => o
  | i :: l, o => ownRoots args l (visit true (args.getD i .junk) o)
def handed (e : Entry) (args : List V) (G : List Reg) : List Nat :=
  reach G G.length 0 (ownRoots args e.own (visits false args []))
def backTo (o : List Nat) (n j : Nat) : Option Nat := match Nat.ble o.length j with
  | true => some (n + (j - o.length))
  | false => o[j]?
def afterCall (T : Tab) (o frozen : List Nat) (G : List Reg) (v : V) (G2 : List Reg) : List Reg :=
  setAll (match frozen with | [] => G | _ => match views v || anyViews T G2 with | true => freezeAll G frozen | false => G) o (renAll (backTo o G.length) G2)
    ++ dropN o.length (renAll (backTo o G.length) G2)

/-- names of regions, each once -/
def chkO (n : Nat) : List Nat → Bool
  | [] => true
  | r :: o => match Nat.ble n r with | true => false | false => match memN r o with | true => false | false => chkO n o

section
variable {β : Type}
def callE (T : Tab) (e : Entry) (args : List V) (G : List Reg) (K : V → List Reg → R β) : R β :=
  must (chkO G.length (handed e args G)) <| forceS (lends T G (handed e args G) args) (regsOf G (posIn (handed e args G)) (handed e args G)) fun a g => e.run a g fun v G2 =>
    forceB (ren (backTo (handed e args G) G.length) v) (afterCall T (handed e args G) (lentL (handed e args G) args []) G v G2) K

/-- a value that goes into a row or a map: its rows are frozen -/
def escV (T : Tab) (G : List Reg) (v : V) : V := lend T G [] v
def escG (G : List Reg) (v : V) : List Reg := freezeAll G (lent [] v [])

def room : Nat := 1073741824

def joinF (f g : Nat → V) (n : Nat) : Nat → V := fun i => match ltN i n with | true => f i | false => g (subN i n)
/-- what a slice holds: element type, length, elements -/
def contentV (T : Tab) (G : List Reg) (e : Nat) (x : V) (K : Nat → (Nat → V) → R β) : R β := match x with
  | .nils => K 0 (constF (T.zero e))
  | .view e' n f => must (Nat.beq e e') (K n f)
  | .sub r off n => match G.getD r .gone with
    | .row e' _ f => must (Nat.beq e e') (K n (shiftF f off))
    | .frz e' _ f => must (Nat.beq e e') (K n (shiftF f off))
    | _ => .fail
  | _ => .fail
def appendE (T : Tab) (t : Nat) (s x : V) (G : List Reg) (K : V → List Reg → R β) : R β :=
  match find t T with
  | some (.slice e) => contentV T G e x fun m g => match s with
    | .nils => must (leN m room) (K (.sub G.length 0 m) (G ++ [.row e m g]))
    | .sub r off n => match off, G.getD r .gone with
      | 0, .row e' _ f => must (Nat.beq e e') (must (leN (addN n m) room) (K (.sub G.length 0 (addN n m)) (G.set r .gone ++ [.row e (addN n m) (joinF f g n)])))
      | _, _ => .fail
    | _ => .fail
  | _ => .fail

/-- a slice's literal elements: place by place -/
def litF (z : V) : List V → Nat → V
  | [], _ => z
  | v :: l, i => match i with | 0 => v | i + 1 => litF z l i
def litParts (σ : Operand → V) (T : Tab) (G : List Reg) (e : Nat) : List (Nat × Operand) → List V → (List V → R β) → R β
  | [], es, K => K es
  | (i, x) :: l, es, K => must (andB (ltN i es.length) (T.fits e (escV T G (σ x)))) (litParts σ T G e l (es.set i (escV T G (σ x))) K)
def litG (σ : Operand → V) : List (Nat × Operand) → List Nat → List Nat
  | [], o => o
  | (_, x) :: l, o => litG σ l (lent [] (σ x) o)
def repl (z : V) : Nat → List V
  | 0 => []
  | n + 1 => z :: repl z n

mutual
/-- a map's key: a whole number within its kind, a bool, a struct of such -/
def keyI : V → Bool
  | .int k n => andB (leI k.min n) (leI n k.max)
  | .bool _ => true
  | .nd _ l => keyIs l
  | _ => false
def keyIs : List V → Bool
  | [] => true
  | [v] => keyI v
  | v :: l => andB (keyI v) (keyIs l)
end
def isBoolV : V → Bool | .bool _ => true | _ => false
/-- has a map a key? -/
def hasK (k : V) : List (Nat × V × V) → Bool
  | [] => false
  | e :: l => match same e.2.1 k with | true => true | false => hasK k l
def getK (k : V) : List (Nat × V × V) → V
  | [] => .junk
  | e :: l => match same e.2.1 k with | true => e.2.2 | false => getK k l
def putC (c : Nat) (k : V) (l : List (Nat × V × V)) : Nat := match hasK k l with | true => c | false => addN c 1
def putL (c : Nat) (k x : V) : List (Nat × V × V) → List (Nat × V × V)
  | [] => [(c, k, x)]
  | e :: l => match same e.2.1 k with | true => (e.1, e.2.1, x) :: l | false => e :: putL c k x l
def delL (k : V) : List (Nat × V × V) → List (Nat × V × V)
  | [] => []
  | e :: l => match same e.2.1 k with | true => l | false => e :: delL k l
def lookK (k : V) (S : V → R β) (N : R β) (l : List (Nat × V × V)) : R β := match hasK k l with | true => S (getK k l) | false => N
def putK (c : Nat) (k x : V) (l : List (Nat × V × V)) (K : Nat → List (Nat × V × V) → R β) : R β := K (putC c k l) (putL c k x l)
def delK (k : V) (l : List (Nat × V × V)) (K : List (Nat × V × V) → R β) : R β := K (delL k l)
/-- the entries that an iterator has not handed out: those that were there when it began, and those that came later -/
def leftL (since : Nat) (young : Bool) (seen : List Nat) : List (Nat × V × V) → List (Nat × V × V)
  | [] => []
  | (n, a, b) :: l => match memN n seen with
    | true => leftL since young seen l
    | false => match eqB (ltN n since) young with
      | true => leftL since young seen l
      | false => (n, a, b) :: leftL since young seen l
/-- any one of them -/
def pickK (S : Nat → V → V → R β) (N : R β) : List (Nat × V × V) → R β
  | [] => N
  | (n, a, b) :: l => match l with
    | [] => S n a b
    | _ :: _ => .next isBoolV (fun v => match v with | .bool x => (match x with | true => S n a b | false => pickK S N l) | _ => .fail) .fail
def nextK (since : Nat) (seen : List Nat) (l : List (Nat × V × V)) (S : Nat → V → V → R β) (N : R β) : R β := match leftL since false seen l with
  | x :: o => pickK S N (x :: o ++ leftL since true seen l)
  | [] => match leftL since true seen l with
    | [] => N
    | x :: o => .next isBoolV (fun v => match v with | .bool b => (match b with | true => N | false => pickK S N (x :: o)) | _ => .fail) .fail
def entryK (i : Nat) : List (Nat × V × V) → (V → V → R β) → R β
  | [], _ => .fail
  | (n, a, b) :: l, K => match Nat.beq n i with | true => K a b | false => entryK i l K
/-- is there none, or one that was there at the last step? -/
def stepB (last : Nat) : List (Nat × V × V) → Bool
  | [] => false
  | (n, _, _) :: l => match ltN n last with | true => true | false => stepB last l
def goesOn (last : Nat) (seen : List Nat) (l : List (Nat × V × V)) : Bool := match seen, l with
  | [], _ => true
  | _, [] => true
  | _, l => stepB last l
def copyF (f g : Nat → V) (off c : Nat) : Nat → V := fun i => match andB (leN off i) (ltN i (addN off c)) with | true => g (subN i off) | false => f i
def lookV (ok : Bool) (v : V) (b : Bool) : V := match ok with | true => .tup [v, .bool b] | false => v
def effCall (c : Ctx) (σ : Operand → V) (G : List Reg) (b : Builtin) (xs : List Operand) (ts : List Nat) (K : V → List Reg → R β) : R β := match b with
  | .append => match xs, ts with
    | [s, x], [t, u] => must (Nat.beq t u) (appendE c.T t (σ s) (σ x) G K)
    | _, _ => .fail
  | .clear => match xs, ts with
    | [s], [t] => must (c.T.has t) <| match σ s, find t c.T with
      | .sub r off n, some (.slice e) => match G.getD r .gone with
        | .row e' k f => must (Nat.beq e e') <| must (c.T.fits e (c.T.zero e)) (K .undef (G.set r (.row e k (clearF (c.T.zero e) f off n))))
        | _ => .fail
      | .nils, _ => K .undef G
      | _, _ => .fail
    | _, _ => .fail
  | .copy => match xs, ts with
    | [d, s], t :: _ => (match find t c.T with
      | some (.slice e) => contentV c.T G e (σ s) fun m g => (match σ d with
        | .nils => K (.int .i64 0) G
        | .sub r off n => (match G.getD r .gone with
          | .row e' k f => must (Nat.beq e e') (K (.int .i64 (ofN (iteN (leN m n) m n))) (G.set r (.row e k (copyF f g off (iteN (leN m n) m n)))))
          | _ => .fail)
        | _ => .fail)
      | _ => .fail)
    | _, _ => .fail
  | .delete => match xs, ts with
    | [m, k], t :: _ => (match find t c.T with
      | some (.map kt _) => must (andB (keyI (σ k)) (c.T.fits kt (σ k))) (match σ m with
        | .nilm => K .undef G
        | .mp r => (match G.getD r .gone with
          | .map u n l => must (Nat.beq u t) (delK (σ k) l fun l => K .undef (G.set r (.map u n l)))
          | _ => .fail)
        | _ => .fail)
      | _ => .fail)
    | _, _ => .fail
  | _ => .fail

/-- operations that make, write or call -/
def effOp (c : Ctx) (σ : Operand → V) (G : List Reg) (op : Op) (K : V → List Reg → R β) : R β := match op with
  | .store t a x => match σ a with
    | .ptr r p u => must (Nat.beq u t && c.T.takes t (σ x)) (match G.getD r .gone with
      | .box _ _ => storeR c.T G r p (σ x) (K .undef)
      | _ => storeR c.T (escG G (σ x)) r p (escV c.T G (σ x)) (K .undef))
    | _ => .fail
  | .box t x => must (andB (c.T.has t) (c.T.takes t (σ x))) (K (.ptr G.length [] t) (G ++ [.box t (σ x)]))
  | .alloc t => match find t c.T with | some _ => K (.ptr G.length [] t) (G ++ [.box t (c.T.zero t)]) | none => .fail
  | .buildSlice t n parts => match find t c.T with
    | some (.slice e) => must (leN n 512) <| must (c.T.fits e (c.T.zero e)) <| litParts σ c.T G e parts.toList (repl (c.T.zero e) n) fun es => forceVs es fun es =>
        K (.sub G.length 0 n) (freezeAll G (litG σ parts.toList []) ++ [.row e n (litF (c.T.zero e) es)])
    | _ => .fail
  | .makeSlice t l cap => match find t c.T, σ l, σ cap with
    | some (.slice e), .int _ n, .int _ m => must (c.T.fits e (c.T.zero e)) <| must (andB (andB (leI 0 n) (leI n m)) (leI m (ofN room))) (K (.sub G.length 0 (natI n)) (G ++ [.row e (natI n) (constF (c.T.zero e))]))
    | _, _, _ => .fail
  | .makeMap t res => match find t c.T with
    | some (.map _ _) => (match res with
      | none => K (.mp G.length) (G ++ [.map t 0 []])
      | some h => match σ h with | .int _ _ => K (.mp G.length) (G ++ [.map t 0 []]) | _ => .fail)
    | _ => .fail
  | .lookup t x ix ok => match find t c.T with
    | some (.map kt e) => must (andB (keyI (σ ix)) (c.T.fits kt (σ ix))) (match σ x with
      | .nilm => K (lookV ok (c.T.zero e) false) G
      | .mp r => (match G.getD r .gone with
        | .map u _ l => must (Nat.beq u t) (lookK (σ ix) (fun v => K (lookV ok (c.T.eta e v) true) G) (K (lookV ok (c.T.zero e) false) G) l)
        | _ => .fail)
      | _ => .fail)
    | _ => .fail
  | .mapUpdate t m k x => match find t c.T with
    | some (.map kt e) => must (andB (keyI (σ k)) (andB (c.T.fits kt (σ k)) (c.T.fits e (escV c.T G (σ x))))) (match σ m with
      | .mp r => (match (escG G (σ x)).getD r .gone with
        | .map u n l => must (Nat.beq u t) (putK n (σ k) (escV c.T G (σ x)) l fun n l => K .undef ((escG G (σ x)).set r (.map u n l)))
        | _ => .fail)
      | _ => .fail)
    | _ => .fail
  | .range t x => match find t c.T with
    | some (.map _ _) => (match σ x with
      | .nilm => K (.it G.length) (G ++ [.iter .nilm 0 0 []])
      | .mp r => (match G.getD r .gone with
        | .map u n _ => must (Nat.beq u t) (K (.it G.length) (G ++ [.iter (.mp r) n n []]))
        | _ => .fail)
      | _ => .fail)
    | _ => .fail
  | .next x str => match str with
    | true => .fail
    | false => match σ x with
      | .it r => (match G.getD r .gone with
        | .iter m since last seen => (match m with
          | .nilm => K (.tup [.bool false]) G
          | .mp q => (match G.getD q .gone with
            | .map t n l => (match find t c.T with
              | some (.map kt e) => must (goesOn last seen l) (nextK since seen l (fun i a b => K (.tup [.bool true, c.T.eta kt a, c.T.eta e b]) (G.set r (.iter m since n (i :: seen)))) (K (.tup [.bool false]) G))
              | _ => .fail)
            | _ => .fail)
          | _ => .fail)
        | _ => .fail)
      | _ => .fail
  | .entry x => match σ x with
    | .it r => (match G.getD r .gone with
      | .iter m _ last seen => (match m with
        | .mp q => (match G.getD q .gone with
          | .map t n l => (match find t c.T with
            | some (.map kt e) => must (Nat.beq n last) (match seen with
              | [] => .fail
              | i :: _ => entryK i l fun a b => K (.tup [c.T.eta kt a, c.T.eta e b]) G)
            | _ => .fail)
          | _ => .fail)
        | _ => .fail)
      | _ => .fail)
    | _ => .fail
  | .call cl => match cl.callee with
    | .builtin b => effCall c σ G b cl.args.toList cl.argTypes.toList K
    | .value f => match σ f with
      | .fn g cap => match find g c.fns with
        | some e => callE c.T e (cl.args.toList.map σ ++ cap) G K
        | none => .fail
      | _ => .fail
    | _ => .fail
  | _ => .fail

def putE (env : List (Nat × V)) : Option Nat → V → List (Nat × V)
  | some d, v => (d, v) :: env
  | none, _ => env

/-- is a slice held against nil that has no elements? -/
def nilAsk1 (T : Tab) (t : Nat) (x y : V) : Bool := match y with
  | .nils => match find t T with
    | some (.slice _) => (match x with | .sub _ _ n => notB (ltN 0 n) | .view _ n _ => notB (ltN 0 n) | _ => false)
    | _ => false
  | _ => false
def nilAsk (T : Tab) (σ : Operand → V) : Op → Bool
  | .binOp op t x y _ => (match op with | .eql => nilAsk1 T t (σ x) (σ y) | .neq => nilAsk1 T t (σ x) (σ y) | _ => false)
  | _ => false
def nilAskK1 (T : Tab) (t : Nat) (x y : V) (K : Bool → R β) : R β := match y with
  | .nils => match find t T with
    | some (.slice _) => (match x with | .sub _ _ n => K (notB (ltN 0 n)) | .view _ n _ => K (notB (ltN 0 n)) | _ => K false)
    | _ => K false
  | _ => K false
def nilAskK (T : Tab) (σ : Operand → V) (op : Op) (K : Bool → R β) : R β := match op with
  | .binOp op t x y _ => (match op with | .eql => nilAskK1 T t (σ x) (σ y) K | .neq => nilAskK1 T t (σ x) (σ y) K | _ => K false)
  | _ => K false
/-- either answer -/
def anyBool (K : Bool → R β) : R β := .next isBoolV (fun v => match v with | .bool b => K b | _ => .fail) .fail

/-- how many entries a map has, where that is asked -/
def mapLen (T : Tab) (σ : Operand → V) (G : List Reg) : Op → Option Nat
  | .call c => match c.callee with
    | .builtin b => (match b with
      | .len => (match c.args.toList, c.argTypes.toList with
        | [x], [t] => (match find t T with
          | some (.map _ _) => (match σ x with
            | .mp r => (match G.getD r .gone with | .map u _ l => (match Nat.beq u t with | true => some l.length | false => none) | _ => none)
            | .nilm => some 0
            | _ => none)
          | _ => none)
        | _, _ => none)
      | _ => none)
    | _ => none
  | _ => none
def lenAsk (any : Bool) (T : Tab) (σ : Operand → V) (G : List Reg) (op : Op) : Option Nat := match any with | true => mapLen T σ G op | false => none
def stepOp (c : Ctx) (loc : List V) (o : Oper) (env : List (Nat × V)) (G : List Reg) (K : List (Nat × V) → List Reg → R β) : R β :=
  match Op.isDet o.op with
  | true => (match lenAsk c.any c.T (opnd c.keep env loc) G o.op with
    | some n => K (putE env o.dst (.int .i64 (ofN n))) G
    | none => nilAskK c.T (opnd c.keep env loc) o.op fun b => match b with
      | true => (match c.any with
        | true => anyBool fun b => K (putE env o.dst (.bool b)) G
        | false => detOp c.T (opnd c.keep env loc) G o.op fun v => forceV v fun v => K (putE env o.dst v) G)
      | false => detOp c.T (opnd c.keep env loc) G o.op fun v => forceV v fun v => K (putE env o.dst v) G)
  | false => effOp c (opnd c.keep env loc) G o.op fun v G => K (putE env o.dst v) G

def dstOf (ops : List Oper) (j : Nat) : Option Nat := match ops[j]? with | some o => o.dst | none => none

def dstOk (n : Nat) : Option Nat → Bool
  | none => true
  | some d => ltN d n
/-- one operation; a guard is decided first -/
def guardOp (c : Ctx) (ops : List Oper) (loc : List V) (o : Oper) (env : List (Nat × V)) (G : List Reg) (K : List (Nat × V) → List Reg → R β) : R β :=
  must (dstOk c.nt o.dst) <| match o.guard with
  | none => stepOp c loc o env G K
  | some (j, want) => match dstOf ops j with
    | none => .fail
    | some d => match find d env with
      | some (.bool b) => match b with
        | true => (match want with
          | true => stepOp c loc o ((d, .bool true) :: env) G K
          | false => K (putE ((d, .bool true) :: env) o.dst .undef) G)
        | false => (match want with
          | true => K (putE ((d, .bool false) :: env) o.dst .undef) G
          | false => stepOp c loc o ((d, .bool false) :: env) G K)
      | some .undef => K (putE env o.dst .undef) G
      | _ => .fail

def execOps (c : Ctx) (ops : List Oper) (loc : List V) : List Oper → List (Nat × V) → List Reg → (List (Nat × V) → List Reg → R β) → R β
  | [], env, G, K => K env G
  | o :: l, env, G, K => guardOp c ops loc o env G fun env G => execOps c ops loc l env G K

/-- the regions that an operation may write -/
def touches (c : Ctx) (σ : Operand → V) (G : List Reg) : Op → List Nat
  | .store _ a _ => visit true (σ a) []
  | .mapUpdate _ m _ _ => visit true (σ m) []
  | .next it _ => visit true (σ it) []
  | .call cl => match cl.callee with
    | .builtin _ => visits true (cl.args.toList.map σ) []
    | .value f => match σ f with
      | .fn g cap => match find g c.fns with
        | some e => handed e (cl.args.toList.map σ ++ cap) G
        | none => []
      | _ => []
    | _ => []
  | _ => []
/-- the regions that a load reads -/
def readsOf (σ : Operand → V) : Op → List Nat
  | .load _ a => visit true (σ a) []
  | .call cl => (match cl.callee with
    | .builtin b => (match b with
      | .len => (match cl.args.toList with | [x] => (match σ x with | .mp r => [r] | _ => []) | _ => [])
      | _ => [])
    | _ => [])
  | _ => []
/-- a slice's region is still of the same kind -/
def subKept (T : Tab) (G G' : List Reg) (t : Nat) (x : V) : Bool := match x, find t T with
  | .sub r _ _, some (.slice e) => eqB (rowIs G r e) (rowIs G' r e)
  | _, _ => true
def kindKept (T : Tab) (σ : Operand → V) (G G' : List Reg) : Op → Bool
  | .indexAddr t x _ => subKept T G G' t (σ x)
  | .slice t x _ _ _ => subKept T G G' t (σ x)
  | _ => true
def disj : List Nat → List Nat → Bool
  | [], _ => true
  | r :: l, o => match memN r o with | true => false | false => disj l o
/-- values that are told by their text -/
def rigid : V → V → Bool
  | .ptr r p t, .ptr s q u => Nat.beq r s && listBeq p q && Nat.beq t u
  | .nilp, .nilp => true
  | .mp r, .mp s => Nat.beq r s
  | .nilm, .nilm => true
  | .int j a, .int k b => match sameK j k with | true => eqI a b | false => false
  | .bool a, .bool b => eqB a b
  | .ei a t n, .ei b u m => eqB a b && (Nat.beq t u && eqI n m)
  | .nils, .nils => true
  | _, _ => false
/-- operation j, carried out before, says the same behind an operation that touched these regions -/
def stillOk (c : Ctx) (ops : List Oper) (loc : List V) (ts : List Nat) (env : List (Nat × V)) (G G' : List Reg) (j : Nat) : Bool :=
  match ops[j]? with
  | some o => match kindKept c.T (opnd c.keep env loc) G G' o.op with
    | false => false
    | true => match disj (readsOf (opnd c.keep env loc) o.op) ts with
      | true => true
      | false => match o.dst with
        | some d => match find d env with
          | some v => match detOp (β := V) c.T (opnd c.keep env loc) G' o.op (.ret ·) with
            | .ret w => rigid v w
            | _ => false
          | none => false
        | none => false
  | none => false
def allStill (c : Ctx) (ops : List Oper) (loc : List V) (ts : List Nat) (env : List (Nat × V)) (G G' : List Reg) : List Nat → Bool
  | [] => true
  | j :: l => match stillOk c ops loc ts env G G' j with | true => allStill c ops loc ts env G G' l | false => false

def execPlan (c : Ctx) (ops : List Oper) (loc : List V) : Plan → List (Nat × V) → List Reg → (List (Nat × V) → List Reg → R β) → R β
  | .nil, env, G, K => K env G
  | .cons i re rest, env, G, K => match ops[i]? with
    | none => .fail
    | some o => match re with
      | [] => guardOp c ops loc o env G fun env G => execPlan c ops loc rest env G K
      | re => guardOp c ops loc o env G fun env' G' =>
        match allStill c ops loc (touches c (opnd c.keep env loc) G o.op) env' G G' re with
        | true => execPlan c ops loc rest env' G' K
        | false => .fail
  | .alt i re rest other, env, G, K => anyBool fun b => match b with
    | true => (match ops[i]? with
      | none => .fail
      | some o => match re with
        | [] => guardOp c ops loc o env G fun env G => execPlan c ops loc rest env G K
        | re => guardOp c ops loc o env G fun env' G' =>
          match allStill c ops loc (touches c (opnd c.keep env loc) G o.op) env' G G' re with
          | true => execPlan c ops loc rest env' G' K
          | false => .fail)
    | false => execPlan c ops loc other env G K

def persist (keep : List Nat) (env : List (Nat × V)) (loc : List V) : List V :=
  match keep, loc with
  | t :: keep, v :: loc => (match find t env with | some w => w | none => v) :: persist keep env loc
  | _, _ => []

def upto : Nat → List Nat
  | 0 => []
  | n + 1 => upto n ++ [n]
def canonO (m : Nat) (loc : List V) (G : List Reg) : List Nat := reach G G.length 0 (visits true loc (upto m))
def canonL (m : Nat) (loc : List V) (G : List Reg) : St :=
  ⟨rens (posIn (canonO m loc G)) loc, regsOf G (posIn (canonO m loc G)) (canonO m loc G)⟩
def mask (keep : List Nat) (live : List Nat) (loc : List V) : List V :=
  match keep, loc with
  | t :: keep, v :: loc => (match memN t live with | true => v | false => .junk) :: mask keep live loc
  | _, _ => []
/-- the first m names stay -/
def headN (i : Nat) : Nat → List Nat → Bool
  | 0, _ => true
  | _ + 1, [] => false
  | m + 1, r :: o => match Nat.beq r i with | true => headN (i + 1) m o | false => false
def nameOk (m n : Nat) (o : List Nat) : Bool := match headN 0 m o with | true => chkO n o | false => false
/-! Slices without elements become rows of their own. -/
section
universe v
variable {γ : Type v}
mutual
def denilV (w : List Nat) (b : Bool) (T : Tab) : V → Nat → List Reg → (V → List Reg → γ) → γ
  | .nils, t, G, K => match find t T with
    | some (.slice e) => (match find e T with | some _ => (match b with | true => K (.view e 0 (constF .junk)) G | false => K (.sub G.length 0 0) (G ++ [.row e 0 (constF .junk)])) | none => K .nils G)
    | _ => K .nils G
  | .nd u l, _, G, K => match find u T with
    | some (.st fs) => denilVs w (memN u w) T l fs G fun l G => K (.nd u l) G
    | _ => K (.nd u l) G
  | v, _, G, K => K v G
def denilVs (w : List Nat) (b : Bool) (T : Tab) : List V → List Nat → List Reg → (List V → List Reg → γ) → γ
  | [], _, G, K => K [] G
  | v :: l, fs, G, K => match fs with
    | [] => K (v :: l) G
    | t :: fs => denilV w b T v t G fun v G => denilVs w b T l fs G fun l G => K (v :: l) G
end
def typesOf (tys : List (Nat × Nat)) : List Nat → List Nat
  | [] => []
  | t :: keep => (match find t tys with | some u => u | none => 0) :: typesOf tys keep
def denilG (w : List Nat) (T : Tab) : Nat → Nat → List Reg → (List Reg → γ) → γ
  | 0, _, G, K => K G
  | n + 1, i, G, K => match G.getD i .gone with
    | .box t v => denilV w false T v t G fun v G => denilG w T n (i + 1) (G.set i (.box t v)) K
    | _ => denilG w T n (i + 1) G K
end
/-- a loop's head: what lives, under names of its own -/
def canonK (c : Ctx) (blk : Nat) (st : St) (K : St → R β) : R β :=
  denilVs c.vnil false c.T (mask c.keep (match find blk c.live with | some l => l | none => []) st.loc) (typesOf c.tys c.keep) st.G fun loc G =>
    denilG c.vnil c.T G.length 0 G fun G => must (nameOk c.m G.length (canonO c.m loc G)) (forceS (canonL c.m loc G).loc (canonL c.m loc G).G fun loc G => K ⟨loc, G⟩)
def loopN (body : St → (Ex → St → R β) → R β) (can : St → (St → R β) → R β) : Nat → St → (Ex → St → R β) → R β
  | 0, _, _ => .fail
  | n + 1, st, K => body st fun e st => match e with
    | .normal => can st fun st => loopN body can n st K
    | .exit j => K (.exit j) st
    | .ret => K .ret st

/-- a code's first region -/
def codeId : Code → Option Nat
  | .region id _ _ => some id
  | .seq a _ => codeId a
  | .block _ b => codeId b
  | .scope b => codeId b
  | .loop b => codeId b
  | _ => none
def joinOf (c : Ctx) (b : Code) : Option ((List Nat × List Nat) × LoopE) := match c.joins with
  | [] => none
  | l => match codeId b with | some i => find i l | none => none
/-- where a block is left, or a function: what lives -/
def leaveK (keep : List Nat) (l : Option (List Nat)) (st : St) : St := match l with
  | some l => ⟨mask keep l st.loc, st.G⟩
  | none => st
/-- a code's end: what lives -/
def endK (keep l : List Nat) (K : Ex → St → R β) : Ex → St → R β := fun e st => match e with
  | .normal => K .normal ⟨mask keep l st.loc, st.G⟩
  | .exit j => K (.exit j) st
  | .ret => K .ret st
/-- behind a choice: what lives, under names of its own -/
def canonJ (w : List Nat) (c : Ctx) (lv : List Nat) (st : St) (K : St → R β) : R β :=
  denilVs w false c.T (mask c.keep lv st.loc) (typesOf c.tys c.keep) st.G fun loc G =>
    denilG w c.T G.length 0 G fun G => must (nameOk c.m G.length (canonO c.m loc G)) (forceS (canonL c.m loc G).loc (canonL c.m loc G).G fun loc G => K ⟨loc, G⟩)

def exec (c : Ctx) : Code → Nat → St → (Ex → St → R β) → R β
  | .skip, _, st, K => K .normal st
  | .label _, _, st, K => K .normal st
  | .region id ops draw, _, st, K =>
    match draw with
    | true => match find id c.plan with
      | some p => execPlan { c with any := false } ops.toList st.loc p [] st.G fun env G => forceS (persist c.keep env st.loc) G fun loc G => K .normal ⟨loc, G⟩
      | none => .fail
    | false => execOps c ops.toList st.loc ops.toList [] st.G fun env G => forceS (persist c.keep env st.loc) G fun loc G => K .normal ⟨loc, G⟩
  | .seq a b, k, st, K => exec c a k st fun e st => match e with
    | .normal => (match joinOf c b with
      | some q => canonJ c.vnil c q.1.1 st fun st => q.2.run c.m st K (exec c b k st (endK c.keep q.1.2 K))
      | none => exec c b k st K)
    | .exit j => K (.exit j) st
    | .ret => K .ret st
  | .cond x a b, k, st, K => match opnd c.keep [] st.loc x with
    | .bool t => match t with
      | true => exec c a k st K
      | false => exec c b k st K
    | _ => .fail
  | .scope b, k, st, K => exec c b k st K
  | .block id b, _, st, K => exec c b id st fun e st => match e with
    | .exit j => (match Nat.beq j id with | true => K .normal st | false => K (.exit j) st)
    | .normal => K .normal st
    | .ret => K .ret st
  | .loop b, k, st, K => canonK c k st fun st => match find k c.loops with
    | some L => L.run c.m st K (loopN (exec c b k) (canonK c k) c.N st K)
    | none => loopN (exec c b k) (canonK c k) c.N st K
  | .exit j, _, st, K => K (.exit j) (leaveK c.keep (find j c.out) st)
  | .ret, _, st, K => K .ret (leaveK c.keep c.ret st)
  | _, _, _, _ => .fail

def resV (T : Tab) (keep : List Nat) (loc : List V) (G : List Reg) : List ResultVar → (List V → R β) → R β
  | [], K => K []
  | .tmp t :: l, K => resV T keep loc G l fun vs => K (opnd keep [] loc (.tmp t) :: vs)
  | .cell a t :: l, K => match opnd keep [] loc (.tmp a) with
    | .ptr r p u => must (Nat.beq u t) <| loadR T G r p fun v => resV T keep loc G l fun vs => K (v :: vs)
    | _ => .fail
def oneV : List V → V
  | [v] => v
  | vs => .tup vs
def leaveO (m : Nat) (v : V) (G : List Reg) : List Nat := reach G G.length 0 (visit true v (upto m))
def leave (c : Ctx) (fn : Func) (st : St) (K : V → List Reg → R β) : R β :=
  resV c.T c.keep st.loc st.G fn.results.toList fun vs => denilVs c.vnil false c.T vs fn.resultTypes.toList st.G fun vs G => denilG c.vnil c.T G.length 0 G fun G =>
    must (nameOk c.m G.length (leaveO c.m (oneV vs) G)) <| forceB (ren (posIn (leaveO c.m (oneV vs) G)) (oneV vs)) (regsOf G (posIn (leaveO c.m (oneV vs) G)) (leaveO c.m (oneV vs) G)) K
def initLoc (args : List V) : List Nat → List V
  | [] => []
  | t :: l => args.getD t .junk :: initLoc args l
def runFn (c : Ctx) (fn : Func) (args : List V) (G : List Reg) (K : V → List Reg → R β) : R β :=
  match fn.body with
  | none => .fail
  | some code => must (leN args.length fn.ntmps) <| exec { c with m := G.length, nt := fn.ntmps } code 0 ⟨initLoc args c.keep, G⟩ fun e st => match e with
    | .exit _ => .fail
    | .normal => leave { c with m := G.length } fn st K
    | .ret => leave { c with m := G.length } fn st K
end
end Go.VM

namespace Go.VM
variable {β : Type}
/-- whole functions by what they answer; each is held against the model in its own text -/
def extFail (_ : List V) (_ : List Reg) (_ : V → List Reg → R β) : R β := .fail
def addLo (x y c : Int) : Int := (x + y + c) % 18446744073709551616
def addHi (x y c : Int) : Int := (x + y + c) / 18446744073709551616
def extAdd64 (args : List V) (G : List Reg) (K : V → List Reg → R β) : R β := match args, G with
  | [.int .u64 x, .int .u64 y, .int .u64 c], [] => must (andB (leI 0 c) (leI c 1)) (K (.tup [.int .u64 (addLo x y c), .int .u64 (addHi x y c)]) [])
  | _, _ => .fail
def intOf : V → Int
  | .int _ n => n
  | _ => 0
/-- the last of n operations that is a mark, counted from 1; 0: none -/
def lastAt (f : Nat → V) : Nat → Nat
  | 0 => 0
  | n + 1 => if intOf (childV (f n) 1) = 2 then n + 1 else lastAt f n
def extLast (T : Tab) (e : Nat) (args : List V) (G : List Reg) (K : V → List Reg → R β) : R β := match args, G with
  | [x], [] => contentV T [] e x fun n f => K (.tup [.int .i64 (iteI (ltN 0 (lastAt f n)) (intOf (childV (f (lastAt f n - 1)) 2)) 0), .bool (ltN 0 (lastAt f n))]) []
  | _, _ => .fail
def extClone (T : Tab) (e : Nat) (args : List V) (G : List Reg) (K : V → List Reg → R β) : R β := match args, G with
  | [x], [] => contentV T [] e x fun n f => must (leN n room) (K (.sub 0 0 n) [.row e n f])
  | _, _ => .fail
def insF (f g : Nat → V) (i m : Nat) : Nat → V := fun j => if j < i then f j else if j < i + m then g (j - i) else f (j - m)
def extInsert (e : Nat) (args : List V) (G : List Reg) (K : V → List Reg → R β) : R β := match args, G with
  | [.sub 0 0 n, .int .i64 i, .sub 1 0 m], [.row e1 _ f, .row e2 k g] => must (Nat.beq e1 e) (must (Nat.beq e2 e) (must (ltN 0 m) (must (leI 0 i) (must (leI i (ofN n)) (must (leN (addN n m) room)
      (K (.sub 2 0 (addN n m)) [.gone, .row e2 k g, .row e (addN n m) (insF f g (natI i) m)]))))))
  | _, _ => .fail
/-- a map's keys that are whole numbers, sorted -/
def insI (x : Int) : List Int → List Int
  | [] => [x]
  | y :: l => match leI x y with | true => x :: y :: l | false => y :: insI x l
def sortI : List Int → List Int
  | [] => []
  | x :: l => insI x (sortI l)
def keysI : List (Nat × V × V) → List Int
  | [] => []
  | e :: l => intV e.2.1 :: keysI l
/-- the entries' numbers rise, and stay below the clock -/
def stampB (c : Nat) : Nat → List (Nat × V × V) → Bool
  | _, [] => true
  | lo, e :: l => match leN lo e.1, ltN e.1 c with | true, true => stampB c (e.1 + 1) l | _, _ => false
def rowI (l : List Int) : Nat → V := fun i => .int .i64 (l.getD i 0)
/-- slices.Sorted of maps.Keys's iterator: kf its function, kt the keys' type -/
def extSorted (T : Tab) (kf kt : Nat) (args : List V) (G : List Reg) (K : V → List Reg → R β) : R β := match args with
  | [.fn g [.ptr r [] _]] => must (Nat.beq g kf) (match G.getD r .gone with
    | .box _ v => (match v with
      | .nilm => K (.sub G.length 0 0) (G ++ [.row kt 0 (constF .junk)])
      | .mp q => (match G.getD q .gone with
        | .map u c l => (match find u T with
          | some (.map k _) => must (Nat.beq k kt) (must (stampB c 0 l) (must (leN l.length room) (K (.sub G.length 0 l.length) (G ++ [.row kt l.length (rowI (sortI (keysI l)))]))))
          | _ => .fail)
        | _ => .fail)
      | _ => .fail)
    | _ => .fail)
  | _ => .fail
end Go.VM

namespace Go.VM

/-- WHAT THE REGIONS AND NAMES STAND FOR: a world; the regions; the block of each ('none': a row that holds nothing and has no memory); the blocks that nobody writes. -/
structure Rx where
  w : World
  G : List Reg
  ρ : List (Option Nat)
  S : Nat → Prop

def Rx.reg (X : Rx) (r : Nat) : Reg := X.G.getD r .gone
def Rx.blk (X : Rx) (r : Nat) : Option Nat := X.ρ.getD r none
def Rx.dead (X : Rx) (r : Nat) : Prop := r < X.G.length ∧ X.reg r = .gone

section
variable (P : Program) (T : Tab)

def cellsIn (w : World) (b o : Nat) (cs : List Value) : Prop := ∀ j x, cs[j]? = some x → w.cell? ⟨b, o + j, none⟩ = some x
def bsize (w : World) (b : Nat) : Nat := match w.heap[b]? with | some (.cells c _ _) => c.size | _ => 0
def sz (t : Nat) : Nat := P.cellsOf t
def foff (fs : List Nat) (f : Nat) : Nat := ((fs.take f).map (sz P)).sum

/-- From a variable of type t the path p leads to a part of type u, so many cells on. -/
inductive PathAt : Nat → List Nat → Nat → Nat → Prop
  | nil (t : Nat) : PathAt t [] 0 t
  | fld {t f ft o u : Nat} {fs p : List Nat} (h : find t T = some (.st fs)) (hf : fs[f]? = some ft) (hp : PathAt ft p o u) : PathAt t (f :: p) (foff P fs f + o) u
  | idx {t i n e : Nat} (h : find t T = some (.ar n e)) (hi : i < n) : PathAt t [i] (i * sz P e) e

def tagShape (t : Nat) : V → Prop
  | .nd u _ => u = t
  | .arr u _ _ => u = t
  | .tup _ => False
  | .undef => False
  | _ => T.agg t = false

/-- Where a pointer leads: so many cells on in its region's block, a part of this type. -/
def PtrAt : Reg → List Nat → Nat → Nat → Prop
  | .box t0 _, p, t, off => PathAt P T t0 p off t
  | .row e n _, p, t, off => ∃ i q o, p = i :: q ∧ i < n ∧ PathAt P T e q o t ∧ off = i * sz P e + o
  | .frz e n _, p, t, off => ∃ i q o, p = i :: q ∧ i < n ∧ PathAt P T e q o t ∧ off = i * sz P e + o
  | _, _, _, _ => False

def rowLike : Reg → Nat → Nat → Prop
  | .row e n _, e', k => e = e' ∧ n = k
  | .frz e n _, e', k => e = e' ∧ n = k
  | _, _, _ => False
def mapLike : Reg → Prop | .map .. => True | _ => False
def iterLike : Reg → Prop | .iter .. => True | _ => False

def SubAt (X : Rx) (r off n : Nat) (a : Option Addr) (cap : Nat) : Prop :=
  ∃ e k, rowLike (X.reg r) e k ∧ off + n ≤ k ∧ match X.blk r with
    | none => a = none ∧ cap = 0
    | some b => (0 < cap → a = some ⟨b, off * sz P e, none⟩) ∧ (off + cap) * sz P e ≤ bsize X.w b

def cellsL : Value → List Value
  | .agg cs => cs.toList
  | x => [x]
/-- structs and arrays are rows of cells, the others are none -/
def aggOk : V → Value → Prop
  | .nd _ _, x => ∃ cs, x = .agg cs
  | .arr _ _ _, x => ∃ cs, x = .agg cs
  | _, x => ∀ cs, x ≠ .agg cs

mutual
/-- v as cells -/
def RelF (X : Rx) : V → List Value → Prop
  | .junk, cs => ∃ x, cs = [x] ∧ x.oneCell' = true
  | .undef, cs => cs = [.tuple #[]]
  | .bool b, cs => cs = [.bool b]
  | .int k n, cs => cs = [.int k n]
  | .str s, cs => cs = [.string s]
  | .nilp, cs => cs = [.pointer none]
  | .ptr r p t, cs => ∃ a, cs = [.pointer (some a)] ∧ (X.dead r ∨ ∃ b off, X.blk r = some b ∧ PtrAt P T (X.reg r) p t off ∧ a = ⟨b, off, none⟩)
  | .ref t v, cs => ∃ b o, cs = [.pointer (some ⟨b, o, none⟩)] ∧ X.S b ∧ T.fits t v = true ∧ ∃ cs', cellsIn X.w b o cs' ∧ cs'.length = sz P t ∧ RelF X v cs'
  | .it r, cs => ∃ a, cs = [.pointer (some a)] ∧ (X.dead r ∨ ∃ b, X.blk r = some b ∧ iterLike (X.reg r) ∧ a = ⟨b, 0, none⟩)
  | .nils, cs => cs = [.slice none 0 0]
  | .sub r off n, cs => ∃ a cap, cs = [.slice a n cap] ∧ n ≤ cap ∧ (0 < n → a.isSome = true) ∧ (X.dead r ∨ SubAt P X r off n a cap)
  | .view e n f, cs => ∃ a cap, cs = [.slice a n cap] ∧ n ≤ cap ∧ (∀ i, i < n → T.fits e (f i) = true) ∧
      (0 < n → ∃ b o, a = some ⟨b, o, none⟩ ∧ X.S b ∧ ∀ i, i < n → ∃ cs', cellsIn X.w b (o + i * sz P e) cs' ∧ cs'.length = sz P e ∧ RelF X (f i) cs')
  | .nilm, cs => cs = [.map none]
  | .mp r, cs => ∃ b, cs = [.map (some b)] ∧ (X.dead r ∨ X.blk r = some b ∧ mapLike (X.reg r))
  | .nilf, cs => cs = [.nilFunc]
  | .fn f l, cs => ∃ xs : Array Value, cs = [.func (.func f) #[] xs] ∧ RelVs X l xs.toList
  | .ei b t n, cs => cs = [if b then .iface t (.int .i64 n) else .nilIface] ∧ (b = true → find t T = some (.int .i64))
  | .nd t l, cs => ∃ fs, find t T = some (.st fs) ∧ RelFs X l fs cs
  | .arr t n f, cs => ∃ e, find t T = some (.ar n e) ∧ ∃ cf : Nat → List Value, cs = (List.range n).flatMap cf ∧ ∀ i, i < n → T.fits e (f i) = true ∧ (cf i).length = sz P e ∧ RelF X (f i) (cf i)
  | .tup l, cs => ∃ vs : Array Value, cs = [.tuple vs] ∧ RelVs X l vs.toList
/-- a struct's fields, one behind the other -/
def RelFs (X : Rx) : List V → List Nat → List Value → Prop
  | [], fs, cs => fs = [] ∧ cs = []
  | v :: l, fs, cs => ∃ t fs' c1 c2, fs = t :: fs' ∧ cs = c1 ++ c2 ∧ tagShape T t v ∧ c1.length = sz P t ∧ RelF X v c1 ∧ RelFs X l fs' c2
/-- values side by side -/
def RelVs (X : Rx) : List V → List Value → Prop
  | [], xs => xs = []
  | v :: l, xs => ∃ x xs', xs = x :: xs' ∧ (v = .junk ∨ aggOk v x ∧ RelF X v (cellsL x)) ∧ RelVs X l xs'
end

/-- v as a value -/
def Rel (X : Rx) (v : V) (x : Value) : Prop := v = .junk ∨ aggOk v x ∧ RelF P T X v (cellsL x)

def sameKind : Reg → Reg → Prop
  | .box t _, .box u _ => t = u
  | .row e n _, .row e' n' _ => e = e' ∧ n = n'
  | .row e n _, .frz e' n' _ => e = e' ∧ n = n'
  | .frz e n _, .frz e' n' _ => e = e' ∧ n = n'
  | .map t _ _, .map u _ _ => t = u
  | .iter .., .iter .. => True
  | _, _ => False

/-- The names mean in Y what they mean in X, or nothing any more. -/
structure Ext (X Y : Rx) : Prop where
  reg : ∀ r, r < X.G.length → Y.dead r ∨ (¬ X.dead r ∧ Y.blk r = X.blk r ∧ sameKind (X.reg r) (Y.reg r) ∧ ∀ b, X.blk r = some b → bsize X.w b ≤ bsize Y.w b)
  safe : ∀ b, X.S b → Y.S b ∧ Y.w.heap[b]? = X.w.heap[b]?
end

theorem cell?_of_heap {w w' : World} {b o : Nat} (h : w'.heap[b]? = w.heap[b]?) : w'.cell? ⟨b, o, none⟩ = w.cell? ⟨b, o, none⟩ := by
  simp only [World.cell?, h]
theorem cellsIn_of_heap {w w' : World} {b o : Nat} {cs : List Value} (h : w'.heap[b]? = w.heap[b]?) (hc : cellsIn w b o cs) : cellsIn w' b o cs :=
  fun j x hj => by rw [cell?_of_heap h]; exact hc j x hj

section
variable {P : Program} {T : Tab}

theorem sameKind_rowLike {g g' : Reg} {e k : Nat} (h : sameKind g g') (hr : rowLike g e k) : rowLike g' e k := by
  cases g <;> cases g' <;> simp_all [sameKind, rowLike]
theorem sameKind_mapLike {g g' : Reg} (h : sameKind g g') (hr : mapLike g) : mapLike g' := by
  cases g <;> cases g' <;> simp_all [sameKind, mapLike]
theorem sameKind_iterLike {g g' : Reg} (h : sameKind g g') (hr : iterLike g) : iterLike g' := by
  cases g <;> cases g' <;> simp_all [sameKind, iterLike]
theorem sameKind_ptrAt {g g' : Reg} {p : List Nat} {t off : Nat} (h : sameKind g g') (hr : PtrAt P T g p t off) : PtrAt P T g' p t off := by
  cases g <;> cases g' <;> simp_all [sameKind, PtrAt]
theorem rowLike_lt {X : Rx} {r e k : Nat} (h : rowLike (X.reg r) e k) : r < X.G.length := by
  rcases Nat.lt_or_ge r X.G.length with h' | h'
  · exact h'
  · simp [Rx.reg, List.getElem?_eq_none h', rowLike] at h
theorem mapLike_lt {X : Rx} {r : Nat} (h : mapLike (X.reg r)) : r < X.G.length := by
  rcases Nat.lt_or_ge r X.G.length with h' | h'
  · exact h'
  · simp [Rx.reg, List.getElem?_eq_none h', mapLike] at h
theorem iterLike_lt {X : Rx} {r : Nat} (h : iterLike (X.reg r)) : r < X.G.length := by
  rcases Nat.lt_or_ge r X.G.length with h' | h'
  · exact h'
  · simp [Rx.reg, List.getElem?_eq_none h', iterLike] at h
theorem ptrAt_lt {X : Rx} {r : Nat} {p : List Nat} {t off : Nat} (h : PtrAt P T (X.reg r) p t off) : r < X.G.length := by
  rcases Nat.lt_or_ge r X.G.length with h' | h'
  · exact h'
  · simp [Rx.reg, List.getElem?_eq_none h', PtrAt] at h

theorem Ext.subAt {X Y : Rx} (h : Ext X Y) {r off n : Nat} {a : Option Addr} {cap : Nat} (hs : SubAt P X r off n a cap) : Y.dead r ∨ SubAt P Y r off n a cap := by
  obtain ⟨e, k, hr, hle, hb⟩ := hs
  rcases h.reg r (rowLike_lt hr) with hd | ⟨_, hblk, hk, hsz⟩
  · exact .inl hd
  · refine .inr ⟨e, k, sameKind_rowLike hk hr, hle, ?_⟩
    rw [hblk]
    cases hX : X.blk r with
    | none => simpa [hX] using hb
    | some b =>
      simp only [hX] at hb ⊢
      exact ⟨hb.1, Nat.le_trans hb.2 (hsz b hX)⟩

theorem V.ind {M : V → Prop} {L : List V → Prop} (junk : M .junk) (undef : M .undef) (bool : ∀ b, M (.bool b)) (int : ∀ k n, M (.int k n)) (str : ∀ s, M (.str s)) (nilp : M .nilp)
    (ptr : ∀ r p t, M (.ptr r p t)) (ref : ∀ t v, M v → M (.ref t v)) (it : ∀ r, M (.it r)) (nils : M .nils) (sub : ∀ r o n, M (.sub r o n)) (view : ∀ e n f, (∀ i, M (f i)) → M (.view e n f))
    (nilm : M .nilm) (mp : ∀ r, M (.mp r)) (nilf : M .nilf) (fn : ∀ f l, L l → M (.fn f l)) (ei : ∀ b t n, M (.ei b t n)) (nd : ∀ t l, L l → M (.nd t l))
    (arr : ∀ t n f, (∀ i, M (f i)) → M (.arr t n f)) (tup : ∀ l, L l → M (.tup l)) (nil : L []) (cons : ∀ v l, M v → L l → L (v :: l)) : (∀ v, M v) ∧ (∀ l, L l) :=
  ⟨fun v => V.rec (motive_1 := M) (motive_2 := L) junk undef bool int str nilp ptr ref it nils sub view nilm mp nilf fn ei nd arr tup nil cons v,
   fun l => V.rec_1 (motive_1 := M) (motive_2 := L) junk undef bool int str nilp ptr ref it nils sub view nilm mp nilf fn ei nd arr tup nil cons l⟩

theorem relVs_nil {X : Rx} {xs : List Value} : RelVs P T X [] xs ↔ xs = [] := by simp only [RelVs]
theorem relVs_cons {X : Rx} {v : V} {l : List V} {xs : List Value} : RelVs P T X (v :: l) xs ↔ ∃ x xs', xs = x :: xs' ∧ Rel P T X v x ∧ RelVs P T X l xs' := by
  simp only [RelVs]
  exact Iff.rfl
theorem relFs_nil {X : Rx} {fs : List Nat} {xs : List Value} : RelFs P T X [] fs xs ↔ fs = [] ∧ xs = [] := by simp only [RelFs]
theorem relFs_cons {X : Rx} {v : V} {l : List V} {fs : List Nat} {cs : List Value} : RelFs P T X (v :: l) fs cs ↔
    ∃ t fs' c1 c2, fs = t :: fs' ∧ cs = c1 ++ c2 ∧ tagShape T t v ∧ c1.length = sz P t ∧ RelF P T X v c1 ∧ RelFs P T X l fs' c2 := by simp only [RelFs]

theorem rel_of_mono {X Y : Rx} {v : V} (h : ∀ cs, RelF P T X v cs → RelF P T Y v cs) {x : Value} (hr : Rel P T X v x) : Rel P T Y v x :=
  hr.imp id fun ⟨a, b⟩ => ⟨a, h _ b⟩

theorem mono_all {X Y : Rx} (h : Ext X Y) : (∀ v cs, RelF P T X v cs → RelF P T Y v cs) ∧
    (∀ l, (∀ fs cs, RelFs P T X l fs cs → RelFs P T Y l fs cs) ∧ (∀ xs, RelVs P T X l xs → RelVs P T Y l xs)) := by
  apply V.ind
  case junk => intro cs hr; simpa only [RelF] using hr
  case undef => intro cs hr; simpa only [RelF] using hr
  case bool => intro b cs hr; simpa only [RelF] using hr
  case int => intro k n cs hr; simpa only [RelF] using hr
  case str => intro s cs hr; simpa only [RelF] using hr
  case nilp => intro cs hr; simpa only [RelF] using hr
  case nils => intro cs hr; simpa only [RelF] using hr
  case nilm => intro cs hr; simpa only [RelF] using hr
  case nilf => intro cs hr; simpa only [RelF] using hr
  case ei => intro b t n cs hr; simpa only [RelF] using hr
  case ptr =>
    intro r p t cs hr
    simp only [RelF] at hr ⊢
    obtain ⟨x, hx, hr⟩ := hr
    refine ⟨x, hx, ?_⟩
    rcases hr with hd | ⟨b, off, hb, hp, he⟩
    · rcases h.reg r hd.1 with h1 | h1
      · exact .inl h1
      · exact absurd hd h1.1
    · rcases h.reg r (ptrAt_lt hp) with h1 | ⟨_, h1, h2, _⟩
      · exact .inl h1
      · exact .inr ⟨b, off, h1.trans hb, sameKind_ptrAt h2 hp, he⟩
  case ref =>
    intro t v ih cs hr
    simp only [RelF] at hr ⊢
    obtain ⟨b, o, he, hS, ht, cs', hc, hl, hv⟩ := hr
    obtain ⟨hS', hh⟩ := h.safe b hS
    exact ⟨b, o, he, hS', ht, cs', cellsIn_of_heap hh hc, hl, ih cs' hv⟩
  case it =>
    intro r cs hr
    simp only [RelF] at hr ⊢
    obtain ⟨x, hx, hr⟩ := hr
    refine ⟨x, hx, ?_⟩
    rcases hr with hd | ⟨b, hb, hp, he⟩
    · rcases h.reg r hd.1 with h1 | h1
      · exact .inl h1
      · exact absurd hd h1.1
    · rcases h.reg r (iterLike_lt hp) with h1 | ⟨_, h1, h2, _⟩
      · exact .inl h1
      · exact .inr ⟨b, h1.trans hb, sameKind_iterLike h2 hp, he⟩
  case sub =>
    intro r off n cs hr
    simp only [RelF] at hr ⊢
    obtain ⟨x, cap, hx, hcap, h1, hr⟩ := hr
    refine ⟨x, cap, hx, hcap, h1, ?_⟩
    rcases hr with hd | hs
    · rcases h.reg r hd.1 with h1 | h1
      · exact .inl h1
      · exact absurd hd h1.1
    · exact h.subAt hs
  case view =>
    intro e n f ih cs hr
    simp only [RelF] at hr ⊢
    obtain ⟨a, cap, he, hle, hfit, hn⟩ := hr
    refine ⟨a, cap, he, hle, hfit, fun h0 => ?_⟩
    obtain ⟨b, o, ha, hS, hi⟩ := hn h0
    obtain ⟨hS', hh⟩ := h.safe b hS
    refine ⟨b, o, ha, hS', fun i hin => ?_⟩
    obtain ⟨cs', hc, hl, hv⟩ := hi i hin
    exact ⟨cs', cellsIn_of_heap hh hc, hl, ih i cs' hv⟩
  case mp =>
    intro r cs hr
    simp only [RelF] at hr ⊢
    obtain ⟨x, hx, hr⟩ := hr
    refine ⟨x, hx, ?_⟩
    rcases hr with hd | ⟨hb, hp⟩
    · rcases h.reg r hd.1 with h1 | h1
      · exact .inl h1
      · exact absurd hd h1.1
    · rcases h.reg r (mapLike_lt hp) with h1 | ⟨_, h1, h2, _⟩
      · exact .inl h1
      · exact .inr ⟨h1.trans hb, sameKind_mapLike h2 hp⟩
  case fn =>
    intro f l ih cs hr
    simp only [RelF] at hr ⊢
    obtain ⟨xs, he, hl⟩ := hr
    exact ⟨xs, he, ih.2 _ hl⟩
  case nd =>
    intro t l ih cs hr
    simp only [RelF] at hr ⊢
    obtain ⟨fs, hf, hl⟩ := hr
    exact ⟨fs, hf, ih.1 fs cs hl⟩
  case arr =>
    intro t n f ih cs hr
    simp only [RelF] at hr ⊢
    obtain ⟨e, he, cf, hcf, hi⟩ := hr
    exact ⟨e, he, cf, hcf, fun i hin => ⟨(hi i hin).1, (hi i hin).2.1, ih i (cf i) (hi i hin).2.2⟩⟩
  case tup =>
    intro l ih cs hr
    simp only [RelF] at hr ⊢
    obtain ⟨xs, he, hl⟩ := hr
    exact ⟨xs, he, ih.2 _ hl⟩
  case nil => exact ⟨fun fs cs hr => relFs_nil.2 (relFs_nil.1 hr), fun xs hr => relVs_nil.2 (relVs_nil.1 hr)⟩
  case cons =>
    intro v l ihv ihl
    refine ⟨fun fs cs hr => ?_, fun xs hr => ?_⟩
    · obtain ⟨t, fs', c1, c2, h1, h2, h3, h4, h5, h6⟩ := relFs_cons.1 hr
      exact relFs_cons.2 ⟨t, fs', c1, c2, h1, h2, h3, h4, ihv c1 h5, ihl.1 fs' c2 h6⟩
    · obtain ⟨x, xs', h1, h2, h3⟩ := relVs_cons.1 hr
      exact relVs_cons.2 ⟨x, xs', h1, rel_of_mono ihv h2, ihl.2 xs' h3⟩
theorem relF_mono {X Y : Rx} (h : Ext X Y) {v : V} {cs : List Value} (hr : RelF P T X v cs) : RelF P T Y v cs := (mono_all h).1 v cs hr
theorem relVs_mono {X Y : Rx} (h : Ext X Y) {l : List V} {xs : List Value} (hr : RelVs P T X l xs) : RelVs P T Y l xs := ((mono_all h).2 l).2 xs hr
theorem rel_mono {X Y : Rx} (h : Ext X Y) {v : V} {x : Value} (hr : Rel P T X v x) : Rel P T Y v x := rel_of_mono (fun _ => relF_mono h) hr
end
end Go.VM

namespace Go.VM
section
universe v
variable {γ : Type v}
theorem force_all : (∀ (v : V) (K : V → γ), forceV v K = K v) ∧ (∀ (l : List V) (K : List V → γ), forceVs l K = K l) := by
  apply V.ind (M := fun v => ∀ (K : V → γ), forceV v K = K v) (L := fun l => ∀ (K : List V → γ), forceVs l K = K l)
  case nd => intro t l ih K; simp only [forceV, ih]
  case tup => intro l ih K; simp only [forceV, ih]
  case fn => intro f l ih K; simp only [forceV, ih]
  case ref => intro t v ih K; simp only [forceV, ih]
  case cons => intro v l h1 h2 K; simp only [forceVs, h1, h2]
  all_goals (intros; simp only [forceV, forceVs])
theorem forceV_eq (v : V) (K : V → γ) : forceV v K = K v := force_all.1 v K
theorem forceVs_eq (v : List V) (K : List V → γ) : forceVs v K = K v := force_all.2 v K
theorem forceR_eq (g : Reg) (K : Reg → γ) : forceR g K = K g := by cases g <;> simp only [forceR, forceV_eq]
theorem forceG_eq : ∀ (G : List Reg) (K : List Reg → γ), forceG G K = K G
  | [], K => rfl
  | g :: l, K => by simp only [forceG, forceR_eq, forceG_eq l]
theorem forceS_eq (l : List V) (G : List Reg) (K : List V → List Reg → γ) : forceS l G K = K l G := by simp only [forceS, forceVs_eq, forceG_eq]
theorem forceB_eq (v : V) (G : List Reg) (K : V → List Reg → γ) : forceB v G K = K v G := by simp only [forceB, forceV_eq, forceG_eq]
end
end Go.VM

namespace Go.VM
section
variable (P : Program) (T : Tab)

/-- what the model's table says of a type -/
def Und : TyD → TypeDesc → Prop
  | .int k, .int j => k = j
  | .bool, .bool => True
  | .str, .string => True
  | .ptr e, .pointer e' => e = e'
  | .slice e, .slice e' => e = e'
  | .map k e, .map k' e' => k = k' ∧ e = e'
  | .func, .func .. => True
  | .iface, .interface _ => True
  | .st fs, .struct fields => fields.toList.map (·.type) = fs ∧ (∀ i f, fields[i]? = some f → f.offset = foff P fs i ∧ f.name ≠ "_")
  | .ar n e, .array n' e' => n = n' ∧ e = e'
  | _, _ => False
def noX : Rx := ⟨default, [], [], fun _ => False⟩
structure TyFacts (t : Nat) (d : TyD) : Prop where
  und : ∃ u, P.underlying t = some u ∧ Und P d u
  info : ∃ i z, P.info? t = some i ∧ i.zero = some z ∧ aggOk (T.zero t) z ∧ RelF P T noX (T.zero t) (cellsL z) ∧ tagShape T t (T.zero t)
  size : match d with
    | .st fs => sz P t = (fs.map (sz P)).sum ∧ ∀ f ∈ fs, ∃ d', find f T = some d'
    | .ar n e => sz P t = n * sz P e ∧ ∃ k, find e T = some (.int k)
    | .slice e => sz P t = 1 ∧ (∃ d', find e T = some d') ∧ P.bytesOf e ≤ 32768 ∧ sz P e ≤ 32768
    | .map k e => sz P t = 1 ∧ (∃ d', find k T = some d') ∧ (∃ d', find e T = some d') ∧ Maps.Keyed P k ∧ P.keyType k = true
    | _ => sz P t = 1
  held : (∃ fs, d = .st fs) → P.stoodInHeld t = false
  guard : eqT T 60 t = true → P.eqGuardType P.depth t = false
  comp : (∃ k, d = .int k) → ∃ i, P.info? t = some i ∧ i.comparable = true
  pos : 0 < sz P t
def TabOk : Prop := ∀ t d, find t T = some d → TyFacts P T t d

def writable : Reg → Prop
  | .box .. => True
  | .row .. => True
  | .map .. => True
  | .iter .. => True
  | _ => False

def RowOk (X : Rx) (r e n : Nat) (f : Nat → V) (frz : Bool) : Prop :=
  (∃ d, find e T = some d) ∧ (∀ i, i < n → T.fits e (f i) = true) ∧
  ((X.blk r = none ∧ n = 0) ∨ ∃ b cs el fz cap, X.blk r = some b ∧ X.w.heap[b]? = some (.cells cs el fz) ∧ (frz = false → fz = (0, 0) ∧ el = e) ∧ (frz = true → X.S b) ∧
    cs.size = cap * sz P e ∧ n ≤ cap ∧ ∀ i, i < n → RelF P T X (f i) ((cs.toList.drop (i * sz P e)).take (sz P e)))

/-- a map's entries, in the order in which they came in -/
def MapOk (X : Rx) (r t clock : Nat) (l : List (Nat × V × V)) : Prop := ∃ k e, find t T = some (.map k e) ∧ ∃ b es, X.blk r = some b ∧ X.w.heap[b]? = some (.map es clock) ∧ es.size = l.length ∧ (∀ (i j : Nat) (a b : MapEntry), es[i]? = some a → es[j]? = some b → a.key = b.key → i = j) ∧
  ∀ (i : Nat) kv, l[i]? = some kv → keyI kv.2.1 = true ∧ T.fits k kv.2.1 = true ∧ T.fits e kv.2.2 = true ∧ ∃ en : MapEntry, es[i]? = some en ∧ Rel P T X kv.2.1 en.key ∧ Rel P T X kv.2.2 en.val ∧ en.born = kv.1 ∧ ∃ lit, keyOf P k en.key = some lit
/-- an iterator: of which map, and what it has handed out -/
def IterOk (X : Rx) (r : Nat) (m : V) (a c : Nat) (s : List Nat) : Prop := ∃ b bm seen, X.blk r = some b ∧ X.w.heap[b]? = some (.mapIter bm a seen c) ∧ seen.toList = s.reverse ∧ RelF P T X m [.map bm]
def RegOk (X : Rx) (r : Nat) : Prop := match X.reg r with
  | .gone => True
  | .box t v => (∃ d, find t T = some d) ∧ tagShape T t v ∧ ∃ b cs el, X.blk r = some b ∧ X.w.heap[b]? = some (.cells cs el (0, 0)) ∧ cs.size = sz P t ∧ RelF P T X v cs.toList
  | .row e n f => RowOk P T X r e n f false
  | .frz e n f => RowOk P T X r e n f true
  | .map t c l => MapOk P T X r t c l
  | .iter m a c s => IterOk P T X r m a c s

structure RInv (X : Rx) : Prop where
  len : X.ρ.length = X.G.length
  reg : ∀ r, r < X.G.length → RegOk P T X r
  inj : ∀ r s b, r ≠ s → X.blk r = some b → X.blk s = some b → X.reg r = .gone ∨ X.reg s = .gone
  safe : ∀ b, X.S b → b < X.w.heap.size ∧ ∀ r, X.blk r = some b → ¬ writable (X.reg r)
end

section
variable {P : Program} {T : Tab}

theorem sum_repl (n a : Nat) : (List.replicate n a).sum = n * a := by
  induction n with
  | zero => simp
  | succ n ih => rw [List.replicate_succ, List.sum_cons, ih, Nat.succ_mul, Nat.add_comm]

theorem Und.agg {t : Nat} {d : TyD} {u : TypeDesc} (h : Und P d u) (hf : find t T = some d) : T.agg t = true ↔ (∃ fs, u = .struct fs) ∨ ∃ n e, u = .array n e := by
  unfold Tab.agg
  rw [hf]
  cases d <;> cases u <;> simp_all [Und]

theorem relF_len_all (hT : TabOk P T) {X : Rx} : (∀ v cs t d, find t T = some d → tagShape T t v → RelF P T X v cs → cs.length = sz P t) ∧
    (∀ l fs cs, RelFs P T X l fs cs → cs.length = (fs.map (sz P)).sum) := by
  have hone : ∀ {t d}, find t T = some d → T.agg t = false → sz P t = 1 := by
    intro t d hf ha
    have hs := (hT t d hf).size
    unfold Tab.agg at ha
    rw [hf] at ha
    cases d <;> simp_all
  apply V.ind (L := fun l => ∀ fs cs, RelFs P T X l fs cs → cs.length = (fs.map (sz P)).sum)
  case nd =>
    intro t l ih cs u d hf ht hr
    simp only [RelF] at hr
    obtain ⟨fs, hfs, hl⟩ := hr
    simp only [tagShape] at ht
    subst ht
    rw [hf] at hfs
    have hs := (hT _ _ hf).size
    cases hfs
    rw [ih fs cs hl]
    exact hs.1.symm
  case arr =>
    intro t n f ih cs u d hf ht hr
    simp only [RelF] at hr
    obtain ⟨e, he, cf, hcs, hi⟩ := hr
    simp only [tagShape] at ht
    subst ht
    rw [hf] at he
    cases he
    have hs := (hT _ _ hf).size
    subst hcs
    rw [hs.1, List.length_flatMap]
    have : (List.map (fun i => (cf i).length) (List.range n)) = List.replicate n (sz P e) := by
      apply List.ext_getElem (by simp)
      intro i h1 h2
      simp at h1
      simp [(hi i h1).2.1]
    rw [this, sum_repl]
  case nil => intro fs cs hr; obtain ⟨rfl, rfl⟩ := relFs_nil.1 hr; rfl
  case cons =>
    intro v l _ ihl fs cs hr
    obtain ⟨t, fs', c1, c2, rfl, rfl, h3, h4, h5, h6⟩ := relFs_cons.1 hr
    simp [h4, ihl fs' c2 h6]
  case junk => intro cs t d hf ht hr; simp only [RelF] at hr; obtain ⟨x, rfl, _⟩ := hr; simp only [tagShape] at ht; simp [hone hf ht]
  case undef => intro cs t d hf ht hr; exact ht.elim
  case tup => intro l _ cs t d hf ht hr; exact ht.elim
  case bool => intro b cs t d hf ht hr; simp only [RelF] at hr; subst hr; simp only [tagShape] at ht; simp [hone hf ht]
  case int => intro k n cs t d hf ht hr; simp only [RelF] at hr; subst hr; simp only [tagShape] at ht; simp [hone hf ht]
  case str => intro s cs t d hf ht hr; simp only [RelF] at hr; subst hr; simp only [tagShape] at ht; simp [hone hf ht]
  case nilp => intro cs t d hf ht hr; simp only [RelF] at hr; subst hr; simp only [tagShape] at ht; simp [hone hf ht]
  case nils => intro cs t d hf ht hr; simp only [RelF] at hr; subst hr; simp only [tagShape] at ht; simp [hone hf ht]
  case nilm => intro cs t d hf ht hr; simp only [RelF] at hr; subst hr; simp only [tagShape] at ht; simp [hone hf ht]
  case nilf => intro cs t d hf ht hr; simp only [RelF] at hr; subst hr; simp only [tagShape] at ht; simp [hone hf ht]
  case ei => intro b u n cs t d hf ht hr; simp only [RelF] at hr; obtain ⟨rfl, _⟩ := hr; simp only [tagShape] at ht; simp [hone hf ht]
  case ptr => intro r p u cs t d hf ht hr; simp only [RelF] at hr; obtain ⟨x, rfl, _⟩ := hr; simp only [tagShape] at ht; simp [hone hf ht]
  case it => intro r cs t d hf ht hr; simp only [RelF] at hr; obtain ⟨x, rfl, _⟩ := hr; simp only [tagShape] at ht; simp [hone hf ht]
  case mp => intro r cs t d hf ht hr; simp only [RelF] at hr; obtain ⟨x, rfl, _⟩ := hr; simp only [tagShape] at ht; simp [hone hf ht]
  case sub => intro r o n cs t d hf ht hr; simp only [RelF] at hr; obtain ⟨x, c, rfl, _⟩ := hr; simp only [tagShape] at ht; simp [hone hf ht]
  case ref => intro u v _ cs t d hf ht hr; simp only [RelF] at hr; obtain ⟨b, o, rfl, _⟩ := hr; simp only [tagShape] at ht; simp [hone hf ht]
  case view => intro e n f _ cs t d hf ht hr; simp only [RelF] at hr; obtain ⟨a, cap, rfl, _⟩ := hr; simp only [tagShape] at ht; simp [hone hf ht]
  case fn => intro g l _ cs t d hf ht hr; simp only [RelF] at hr; obtain ⟨xs, rfl, _⟩ := hr; simp only [tagShape] at ht; simp [hone hf ht]
theorem relF_len (hT : TabOk P T) {X : Rx} {v : V} {cs : List Value} {t : Nat} {d : TyD} (hf : find t T = some d) (ht : tagShape T t v) (hr : RelF P T X v cs) : cs.length = sz P t :=
  (relF_len_all hT).1 v cs t d hf ht hr

theorem sameK_eq {j k : IntKind} (h : sameK j k = true) : j = k := by cases j <;> cases k <;> first | rfl | cases h
theorem fits_shape {t : Nat} {v : V} (h : T.fits t v = true) : tagShape T t v := by
  unfold Tab.fits at h
  cases v <;> simp only [fitV, kindIs] at h
  all_goals first
    | (cases h; done)
    | (split at h <;> first | (cases h; done) | (rename_i hf; simp [tagShape, Tab.agg, hf]; done) | (rename_i hb hf; simp [tagShape, Nat.eq_of_beq_eq_true hb]; done))

theorem fitVs_at : ∀ (l : List V) (fs : List Nat) (i ft : Nat), fitVs T l fs = true → fs[i]? = some ft → fitV T (l.getD i .junk) ft = true ∧ ∀ x, fitV T x ft = true → fitVs T (l.set i x) fs = true
  | [], fs, i, ft, h, hi => by cases fs <;> simp [fitVs] at h hi
  | v :: l, fs, i, ft, h, hi => by
    cases fs with
    | nil => simp at hi
    | cons t fs =>
      simp only [fitVs] at h
      split at h
      · rename_i hv
        cases i with
        | zero => simp at hi; subst hi; exact ⟨by simpa using hv, fun x hx => by simp [fitVs, hx, h]⟩
        | succ i =>
          simp at hi
          obtain ⟨h1, h2⟩ := fitVs_at l fs i ft h hi
          exact ⟨by simpa using h1, fun x hx => by simp [fitVs, hv, h2 x hx]⟩
      · cases h

/-- every cell holds one cell's value -/
theorem relF_one_all {X : Rx} : (∀ v cs t, tagShape T t v → RelF P T X v cs → ∀ x ∈ cs, x.oneCell' = true) ∧ (∀ l fs cs, RelFs P T X l fs cs → ∀ x ∈ cs, x.oneCell' = true) := by
  apply V.ind (L := fun l => ∀ fs cs, RelFs P T X l fs cs → ∀ x ∈ cs, x.oneCell' = true)
  case nd =>
    intro t l ih cs u ht hr
    simp only [RelF] at hr
    obtain ⟨fs, hfs, hl⟩ := hr
    exact ih fs cs hl
  case arr =>
    intro t n f ih cs u ht hr x hx
    simp only [RelF] at hr
    obtain ⟨e, he, cf, rfl, hi⟩ := hr
    obtain ⟨i, hi1, hi2⟩ := List.mem_flatMap.1 hx
    have := hi i (by simpa using hi1)
    exact ih i (cf i) e (fits_shape this.1) this.2.2 x hi2
  case nil => intro fs cs hr x hx; obtain ⟨rfl, rfl⟩ := relFs_nil.1 hr; cases hx
  case cons =>
    intro v l ihv ihl fs cs hr x hx
    obtain ⟨t, fs', c1, c2, rfl, rfl, h3, h4, h5, h6⟩ := relFs_cons.1 hr
    rcases List.mem_append.1 hx with hx | hx
    · exact ihv c1 t h3 h5 x hx
    · exact ihl fs' c2 h6 x hx
  case undef => intro cs t ht; exact ht.elim
  case tup => intro l _ cs t ht; exact ht.elim
  case junk => intro cs t ht hr x hx; simp only [RelF] at hr; obtain ⟨y, rfl, hy⟩ := hr; simp at hx; subst hx; exact hy
  case ptr => intro r p u cs t ht hr x hx; simp only [RelF] at hr; obtain ⟨y, rfl, _⟩ := hr; simp at hx; subst hx; rfl
  case it => intro r cs t ht hr x hx; simp only [RelF] at hr; obtain ⟨y, rfl, _⟩ := hr; simp at hx; subst hx; rfl
  case mp => intro r cs t ht hr x hx; simp only [RelF] at hr; obtain ⟨y, rfl, _⟩ := hr; simp at hx; subst hx; rfl
  case sub => intro r o n cs t ht hr x hx; simp only [RelF] at hr; obtain ⟨y, c, rfl, _⟩ := hr; simp at hx; subst hx; rfl
  case bool => intro b cs t ht hr x hx; simp only [RelF] at hr; subst hr; simp at hx; subst hx; rfl
  case int => intro b k cs t ht hr x hx; simp only [RelF] at hr; subst hr; simp at hx; subst hx; rfl
  case str => intro b cs t ht hr x hx; simp only [RelF] at hr; subst hr; simp at hx; subst hx; rfl
  case nilp => intro cs t ht hr x hx; simp only [RelF] at hr; subst hr; simp at hx; subst hx; rfl
  case nils => intro cs t ht hr x hx; simp only [RelF] at hr; subst hr; simp at hx; subst hx; rfl
  case nilm => intro cs t ht hr x hx; simp only [RelF] at hr; subst hr; simp at hx; subst hx; rfl
  case nilf => intro cs t ht hr x hx; simp only [RelF] at hr; subst hr; simp at hx; subst hx; rfl
  case ei => intro b u n cs t ht hr x hx; simp only [RelF] at hr; obtain ⟨rfl, _⟩ := hr; simp at hx; subst hx; cases b <;> rfl
  case ref => intro u v _ cs t ht hr x hx; simp only [RelF] at hr; obtain ⟨b, o, rfl, _⟩ := hr; simp at hx; subst hx; rfl
  case view => intro e n f _ cs t ht hr x hx; simp only [RelF] at hr; obtain ⟨a, cap, rfl, _⟩ := hr; simp at hx; subst hx; rfl
  case fn => intro g l _ cs t ht hr x hx; simp only [RelF] at hr; obtain ⟨xs, rfl, _⟩ := hr; simp at hx; subst hx; rfl
theorem relF_one {X : Rx} {v : V} {cs : List Value} {t : Nat} (ht : tagShape T t v) (hr : RelF P T X v cs) : ∀ x ∈ cs, x.oneCell' = true := relF_one_all.1 v cs t ht hr

theorem relFs_at {X : Rx} : ∀ (l : List V) (fs : List Nat) (cs : List Value) (i ft : Nat), RelFs P T X l fs cs → fs[i]? = some ft →
    ∃ c1 c2 c3, cs = c1 ++ c2 ++ c3 ∧ c1.length = foff P fs i ∧ c2.length = sz P ft ∧ tagShape T ft (l.getD i .junk) ∧ RelF P T X (l.getD i .junk) c2 ∧
      ∀ x cx, cx.length = sz P ft → tagShape T ft x → RelF P T X x cx → RelFs P T X (l.set i x) fs (c1 ++ cx ++ c3)
  | [], fs, cs, i, ft, hr, hi => by
    obtain ⟨rfl, rfl⟩ := relFs_nil.1 hr
    simp at hi
  | v :: l, fs, cs, i, ft, hr, hi => by
    obtain ⟨t, fs', c1, c2, rfl, rfl, h3, h4, h5, h6⟩ := relFs_cons.1 hr
    cases i with
    | zero =>
      simp at hi
      subst hi
      refine ⟨[], c1, c2, by simp, by simp [foff], h4, by simpa using h3, by simpa using h5, fun x cx hx hs hrx => ?_⟩
      simp only [List.set_cons_zero, List.nil_append]
      exact relFs_cons.2 ⟨t, fs', cx, c2, rfl, rfl, hs, hx, hrx, h6⟩
    | succ i =>
      simp at hi
      obtain ⟨d1, d2, d3, e1, e2, e3, e4, e5, e6⟩ := relFs_at l fs' c2 i ft h6 hi
      refine ⟨c1 ++ d1, d2, d3, by simp [e1], ?_, e3, by simpa using e4, by simpa using e5, fun x cx hx hs hrx => ?_⟩
      · simp [foff, h4, e2]
      · simp only [List.set_cons_succ]
        exact relFs_cons.2 ⟨t, fs', c1, d1 ++ cx ++ d3, rfl, by simp, h3, h4, h5, e6 x cx hx hs hrx⟩

theorem flatMap_at {α : Type} (cf : Nat → List α) (k : Nat) : ∀ (n i : Nat), i < n → (∀ j, j < n → (cf j).length = k) →
    ∃ c1 c3, (List.range n).flatMap cf = c1 ++ cf i ++ c3 ∧ c1.length = i * k ∧
      ∀ g : Nat → List α, (∀ j, j < n → j ≠ i → g j = cf j) → (List.range n).flatMap g = c1 ++ g i ++ c3
  | 0, i, h, _ => absurd h (by omega)
  | n + 1, i, h, hk => by
    simp only [List.range_succ, List.flatMap_append, List.flatMap_cons, List.flatMap_nil, List.append_nil]
    have hlen : ∀ m, m ≤ n + 1 → ((List.range m).flatMap cf).length = m * k := by
      intro m
      induction m with
      | zero => intro; simp
      | succ m ih =>
        intro hm
        simp only [List.range_succ, List.flatMap_append, List.flatMap_cons, List.flatMap_nil, List.append_nil, List.length_append]
        rw [ih (by omega), hk m (by omega), Nat.succ_mul]
    by_cases hin : i = n
    · subst hin
      refine ⟨(List.range i).flatMap cf, [], by simp, hlen i (by omega), fun g hg => ?_⟩
      have : (List.range i).flatMap g = (List.range i).flatMap cf := by
        rw [List.flatMap_def, List.flatMap_def, List.map_congr_left (fun j hj => hg j (by simp at hj; omega) (by simp at hj; omega))]
      simp [this]
    · obtain ⟨c1, c3, h1, h2, h3⟩ := flatMap_at cf k n i (by omega) (fun j hj => hk j (by omega))
      refine ⟨c1, c3 ++ cf n, by rw [h1]; simp, h2, fun g hg => ?_⟩
      rw [h3 g (fun j hj hne => hg j (by omega) hne), hg n (by omega) (Ne.symm hin)]
      simp

theorem flat_int {e : Nat} {k : IntKind} (h : find e T = some (.int k)) : T.flat e = true := by simp [Tab.flat, flatT, h]

/-- what a path leads to, and what becomes of the whole when that is written -/
theorem path_at (hT : TabOk P T) {X : Rx} {t u off : Nat} {p : List Nat} (hp : PathAt P T t p off u) : ∀ {v : V} {cs : List Value}, (∃ d, find t T = some d) → tagShape T t v → cs.length = sz P t → RelF P T X v cs →
    (∃ d, find u T = some d) ∧ ∃ c1 c2 c3, cs = c1 ++ c2 ++ c3 ∧ c1.length = off ∧ c2.length = sz P u ∧ tagShape T u (getP v p) ∧ RelF P T X (getP v p) c2 ∧
      (fitV T v t = true → fitV T (getP v p) u = true) ∧
      ∀ x cx, cx.length = sz P u → tagShape T u x → RelF P T X x cx → (T.flat u = true → fitV T x u = true) →
        tagShape T t (setP v p x) ∧ RelF P T X (setP v p x) (c1 ++ cx ++ c3) ∧ (fitV T v t = true → fitV T x u = true → fitV T (setP v p x) t = true) := by
  induction hp with
  | nil t =>
    intro v cs hd ht hl hr
    refine ⟨hd, [], cs, [], by simp, rfl, hl, by simpa [getP] using ht, by simpa [getP] using hr, fun h => by simpa [getP] using h, fun x cx hx hs hrx _ => ?_⟩
    simp only [setP, List.nil_append, List.append_nil]
    exact ⟨hs, hrx, fun _ h => h⟩
  | @fld t f ft o u fs p h hf hp ih =>
    intro v cs hd ht hl hr
    cases v with
    | nd t' l =>
      simp only [tagShape] at ht
      subst ht
      simp only [RelF] at hr
      obtain ⟨fs', hfs, hrl⟩ := hr
      rw [h] at hfs
      cases hfs
      obtain ⟨c1, c2, c3, e1, e2, e3, e4, e5, e6⟩ := relFs_at l fs cs f ft hrl hf
      have hft : ∃ d, find ft T = some d := ((hT _ _ h).size).2 ft (List.mem_of_getElem? hf)
      obtain ⟨hu, d1, d2, d3, g1, g2, g3, g4, g5, gf, g6⟩ := ih hft e4 e3 e5
      have hfit : ∀ l, fitV T (.nd t' l) t' = true ↔ fitVs T l fs = true := by
        intro l
        simp only [fitV, h]
        simp
      refine ⟨hu, c1 ++ d1, d2, d3 ++ c3, by simp [e1, g1], by simp [e2, g2], g3, by simpa [getP] using g4, by simpa [getP] using g5, fun hv => ?_, fun x cx hx hs hrx hxf => ?_⟩
      · simp only [getP]
        exact gf (fitVs_at l fs f ft ((hfit l).1 hv) hf).1
      obtain ⟨k1, k2, k3⟩ := g6 x cx hx hs hrx hxf
      refine ⟨by simp [setP, tagShape], ?_, fun hv hxu => ?_⟩
      · simp only [setP, RelF]
        refine ⟨fs, h, ?_⟩
        have := e6 _ _ (by rw [← e3, g1]; simp [hx, g3]) k1 k2
        simpa using this
      · simp only [setP]
        have := fitVs_at l fs f ft ((hfit l).1 hv) hf
        exact (hfit _).2 (this.2 _ (k3 this.1 hxu))
    | arr t' n g =>
      simp only [tagShape] at ht
      subst ht
      simp only [RelF] at hr
      obtain ⟨e, he, _⟩ := hr
      rw [h] at he
      cases he
    | tup l => exact ht.elim
    | undef => exact ht.elim
    | _ =>
      simp only [tagShape, Tab.agg, h] at ht
      cases ht
  | @idx t i n e h hi =>
    intro v cs hd ht hl hr
    cases v with
    | arr t' n' g =>
      simp only [tagShape] at ht
      subst ht
      simp only [RelF] at hr
      obtain ⟨e', he, cf, rfl, hc⟩ := hr
      rw [h] at he
      cases he
      obtain ⟨c1, c3, e1, e2, e3⟩ := flatMap_at cf (sz P e) n i hi (fun j hj => (hc j hj).2.1)
      obtain ⟨k, hk⟩ := ((hT _ _ h).size).2
      refine ⟨⟨_, hk⟩, c1, cf i, c3, e1, e2, (hc i hi).2.1, by simpa [getP] using fits_shape (hc i hi).1, by simpa [getP] using (hc i hi).2.2, fun _ => by simpa [getP, Tab.fits] using (hc i hi).1, fun x cx hx hs hrx hxf => ?_⟩
      refine ⟨by simp [setP, tagShape], ?_, fun hv _ => by simpa [setP, fitV] using hv⟩
      simp only [setP, RelF]
      refine ⟨e, h, fun j => if j = i then cx else cf j, ?_, fun j hj => ?_⟩
      · rw [e3 _ (fun j hj hne => by simp [hne])]
        simp
      · by_cases hji : j = i
        · subst hji
          have : eqN j j = true := by simp [eqN]
          simp only [this, if_true]
          exact ⟨hxf (flat_int hk), hx, hrx⟩
        · have : eqN j i = false := by simp [eqN, hji]
          simp only [this, if_neg hji]
          exact hc j hj
    | nd t' l =>
      simp only [tagShape] at ht
      subst ht
      simp only [RelF] at hr
      obtain ⟨fs, hfs, _⟩ := hr
      rw [h] at hfs
      cases hfs
    | tup l => exact ht.elim
    | undef => exact ht.elim
    | _ =>
      simp only [tagShape, Tab.agg, h] at ht
      cases ht

theorem pathAt_snoc (hT : TabOk P T) {t u off f ft : Nat} {fs p : List Nat} (hp : PathAt P T t p off u) (h : find u T = some (.st fs)) (hf : fs[f]? = some ft) : PathAt P T t (p ++ [f]) (off + foff P fs f) ft := by
  induction hp with
  | nil t => simpa using PathAt.fld h hf (PathAt.nil ft)
  | fld h' hf' _ ih => rw [List.cons_append, Nat.add_assoc]; exact .fld h' hf' (ih h)
  | idx h' hi' => obtain ⟨k, hk⟩ := ((hT _ _ h').size).2; rw [h] at hk; cases hk
theorem pathAt_snoc_idx (hT : TabOk P T) {t u off i n e : Nat} {p : List Nat} (hp : PathAt P T t p off u) (h : find u T = some (.ar n e)) (hi : i < n) : PathAt P T t (p ++ [i]) (off + i * sz P e) e := by
  induction hp with
  | nil t => simpa using PathAt.idx h hi
  | fld h' hf' _ ih => rw [List.cons_append, Nat.add_assoc]; exact .fld h' hf' (ih h)
  | idx h' hi' => obtain ⟨k, hk⟩ := ((hT _ _ h').size).2; rw [h] at hk; cases hk

theorem aggOk_of_shape {v : V} {x : Value} {t : Nat} (ht : tagShape T t v) (hag : T.agg t = true) (hr : ∃ cs, x = .agg cs) : aggOk v x := by
  cases v <;> simp_all [tagShape, aggOk]
end
end Go.VM

namespace Go.VM
section
variable {P : Program} {T : Tab}

theorem mapI_get (g : Nat → V → V) (v : V) : ∀ (l : List Nat) (i j : Nat), (mapI g v l i)[j]? = (l[j]?).map fun t => g t (partV v (i + j))
  | [], i, j => by simp [mapI]
  | t :: l, i, 0 => by simp [mapI]
  | t :: l, i, j + 1 => by simp only [mapI, List.getElem?_cons_succ]; rw [mapI_get g v l (i + 1) j, show i + 1 + j = i + (j + 1) by omega]

/-- spelled out, it still fits and means the same -/
theorem etaV_ok {X : Rx} : ∀ (d t : Nat) (v : V) (cs : List Value), fitV T v t = true → RelF P T X v cs → fitV T (etaV T d t v) t = true ∧ RelF P T X (etaV T d t v) cs
  | 0, t, v, cs, hf, hr => ⟨hf, hr⟩
  | d + 1, t, v, cs, hf, hr => by
    unfold etaV
    cases hd : find t T with
    | none => exact ⟨hf, hr⟩
    | some ty =>
      cases ty with
      | int k =>
        cases v <;> simp [fitV, hd] at hf
        simp only [kindIs] at hf
        have := sameK_eq hf
        subst this
        exact ⟨by simp [fitV, kindIs, hd]; exact hf, hr⟩
      | bool => cases v <;> simp [fitV, hd, kindIs] at hf; exact ⟨by simp [fitV, hd], hr⟩
      | str => cases v <;> simp [fitV, hd, kindIs] at hf; exact ⟨by simp [fitV, hd], hr⟩
      | iface => cases v <;> simp [fitV, hd, kindIs] at hf; exact ⟨by simp [fitV, hd], hr⟩
      | slice e =>
        cases hs : strictE T <;> cases v <;> simp [fitV, hd, kindIs] at hf
        · refine ⟨by simp [fitV, hd], ?_⟩
          simp only [RelF] at hr ⊢
          subst hr
          exact ⟨none, 0, rfl, Nat.le_refl _, fun i hi => absurd hi (by simp [viewN]), fun h => absurd h (by simp [viewN])⟩
        · subst hf
          exact ⟨by simp [fitV, hd], hr⟩
        · exact ⟨by simp [fitV, hd, kindIs], hr⟩
        · subst hf
          exact ⟨by simp [fitV, hd], hr⟩
      | st fs =>
        cases v <;> simp [fitV, hd, kindIs] at hf
        rename_i u l
        cases hb : Nat.beq u t with
        | false => rw [hb] at hf; simp at hf
        | true =>
          have := Nat.eq_of_beq_eq_true hb
          subst this
          rw [hb] at hf
          simp only at hf
          have key : ∀ (l : List V) (fs : List Nat) (i : Nat) (L : List V) (cs : List Value), (∀ j, L.getD (i + j) .junk = l.getD j .junk) → fitVs T l fs = true → RelFs P T X l fs cs →
              fitVs T (mapI (etaV T d) (.nd u L) fs i) fs = true ∧ RelFs P T X (mapI (etaV T d) (.nd u L) fs i) fs cs := by
            intro l
            induction l with
            | nil =>
              intro fs i L cs hL hf hr
              simp only [RelFs] at hr
              obtain ⟨rfl, rfl⟩ := hr
              exact ⟨rfl, by simp [mapI, RelFs]⟩
            | cons v l ih =>
              intro fs i L cs hL hf hr
              simp only [RelFs] at hr
              obtain ⟨t, fs', c1, c2, rfl, rfl, h1, h2, h3, h4⟩ := hr
              simp only [fitVs] at hf
              cases hv : fitV T v t with
              | false => rw [hv] at hf; cases hf
              | true =>
                rw [hv] at hf
                have e0 : partV (.nd u L) i = v := by
                  have := hL 0
                  simpa [partV] using this
                obtain ⟨k1, k2⟩ := ih fs' (i + 1) L c2 (fun j => by
                  have := hL (j + 1)
                  rw [show i + 1 + j = i + (j + 1) by omega]
                  simpa using this) hf h4
                obtain ⟨m1, m2⟩ := etaV_ok d t v c1 hv h3
                refine ⟨?_, ?_⟩
                · simp only [mapI, fitVs, e0, m1]; exact k1
                · simp only [mapI, RelFs, e0]
                  exact ⟨t, fs', c1, c2, rfl, rfl, fits_shape m1, h2, m2, k2⟩
          simp only [RelF] at hr
          obtain ⟨fs', hfs, hrl⟩ := hr
          rw [hd] at hfs
          cases hfs
          obtain ⟨k1, k2⟩ := key l fs 0 l cs (fun j => by simp) hf hrl
          refine ⟨?_, ?_⟩
          · simp only [fitV, hb, hd]; exact k1
          · simp only [RelF]; exact ⟨fs, hd, k2⟩
      | ar n e =>
        cases v <;> simp [fitV, hd, kindIs] at hf
        rename_i u m f
        cases hb : Nat.beq u t with
        | false => rw [hb] at hf; simp at hf
        | true =>
          have := Nat.eq_of_beq_eq_true hb
          subst this
          rw [hb] at hf
          simp only at hf
          have := Nat.eq_of_beq_eq_true hf
          subst this
          exact ⟨by simp [fitV, hd], by simpa [arrF] using hr⟩
      | _ => exact ⟨hf, hr⟩
theorem eta_ok {X : Rx} {t : Nat} {v : V} {cs : List Value} (hf : T.fits t v = true) (hr : RelF P T X v cs) : T.fits t (T.eta t v) = true ∧ RelF P T X (T.eta t v) cs := etaV_ok 60 t v cs hf hr

theorem eta_int {t : Nat} {k : IntKind} {v : V} (h : find t T = some (.int k)) (hf : T.fits t v = true) : T.eta t v = v := by
  unfold Tab.fits at hf
  unfold Tab.eta etaV
  rw [h]
  cases v <;> simp [fitV, h, kindIs] at hf
  rw [sameK_eq hf]; rfl

/-- an array's elements are numbers: spelled out they are the same -/
theorem getE_eq (hT : TabOk P T) {X : Rx} {t u off : Nat} {p : List Nat} (hp : PathAt P T t p off u) : ∀ {v : V} {cs : List Value}, tagShape T t v → cs.length = sz P t → RelF P T X v cs → getE T v p = getP v p := by
  induction hp with
  | nil t => intro v cs _ _ _; simp [getE, getP]
  | @fld t f ft o u fs p h hf hp ih =>
    intro v cs ht hl hr
    cases v with
    | nd t' l =>
      simp only [tagShape] at ht
      subst ht
      simp only [RelF] at hr
      obtain ⟨fs', hfs, hrl⟩ := hr
      rw [h] at hfs
      cases hfs
      obtain ⟨c1, c2, c3, e1, e2, e3, e4, e5, e6⟩ := relFs_at l fs cs f ft hrl hf
      simp only [getE, getP]
      exact ih e4 e3 e5
    | arr t' n g =>
      simp only [tagShape] at ht
      subst ht
      simp only [RelF] at hr
      obtain ⟨e, he, _⟩ := hr
      rw [h] at he
      cases he
    | _ => simp [getE, getP]
  | @idx t i n e h hi =>
    intro v cs ht hl hr
    cases v with
    | arr t' n' g =>
      simp only [tagShape] at ht
      subst ht
      simp only [RelF] at hr
      obtain ⟨e', he, cf, rfl, hc⟩ := hr
      rw [h] at he
      cases he
      obtain ⟨k, hk⟩ := ((hT _ _ h).size).2
      simp only [getE, getP, Tab.elem, h]
      exact eta_int hk (hc i hi).1
    | nd t' l =>
      simp only [tagShape] at ht
      subst ht
      simp only [RelF] at hr
      obtain ⟨fs, hfs, _⟩ := hr
      rw [h] at hfs
      cases hfs
    | _ => simp [getE, getP]
end
end Go.VM

namespace Go.VM
/-- every way of it comes to something that PP holds of -/
def All {β : Type} (PP : β → Prop) : R β → Prop
  | .ret a => PP a
  | .fail => False
  | .next p k o => (∀ v, p v = true → All PP (k v)) ∧ ((∀ v, p v = false) → All PP o)

section
variable {P : Program} {T : Tab} {β : Type} {PP : β → Prop}

theorem all_must {b : Bool} {k : R β} : All PP (must b k) ↔ b = true ∧ All PP k := by
  cases b <;> simp [must, All]
theorem all_fail : ¬ All PP (.fail : R β) := fun h => h

theorem run_underlying {t : Nat} {u : TypeDesc} (h : P.underlying t = some u) (w : World) : (underlying t).run P w = .ok u w := by
  simp [underlying, h]
theorem run_typeInfo {t : Nat} {i : TypeInfo} (h : P.info? t = some i) (w : World) : (typeInfo t).run P w = .ok i w := by
  simp [typeInfo, h]
theorem TyFacts.run_sizeOf {t : Nat} {d : TyD} (h : TyFacts P T t d) (w : World) : (sizeOf t).run P w = .ok (sz P t) w := by
  obtain ⟨i, z, hi, _⟩ := h.info
  simp [sizeOf, run_typeInfo hi, sz, Program.cellsOf, hi]
theorem TyFacts.run_isAgg {t : Nat} {d : TyD} (h : TyFacts P T t d) (hf : find t T = some d) (w : World) : (isAgg t).run P w = .ok (T.agg t) w := by
  obtain ⟨u, hu, hd⟩ := h.und
  have ha := hd.agg hf
  simp only [isAgg, Sem.run_bind, run_underlying hu, Result.andThen_ok]
  cases u <;> simp_all
theorem TyFacts.run_zero {t : Nat} {d : TyD} (h : TyFacts P T t d) : ∃ z, (∀ w, (zeroValue t).run P w = .ok z w) ∧ aggOk (T.zero t) z ∧ RelF P T noX (T.zero t) (cellsL z) ∧ tagShape T t (T.zero t) := by
  obtain ⟨i, z, hi, hz, h1, h2, h3⟩ := h.info
  refine ⟨z, fun w => ?_, h1, h2, h3⟩
  simp [zeroValue, run_typeInfo hi, hz]

theorem add_plain' (b o n : Nat) : (⟨b, o, none⟩ : Addr).add n = ⟨b, o + n, none⟩ := by
  unfold Addr.add
  split
  · rename_i h; subst h; rfl
  · rfl

/-- A variable of type t, whose cells stand there, is read. -/
theorem loadVar_ok (hT : TabOk P T) {X : Rx} {t b o : Nat} {d : TyD} {v : V} {cs : List Value} (hf : find t T = some d) (ht : tagShape T t v) (hl : cs.length = sz P t)
    (hc : cellsIn X.w b o cs) (hr : RelF P T X v cs) : ∃ x, (loadVar t ⟨b, o, none⟩).run P X.w = .ok x X.w ∧ Rel P T X v x := by
  have hF := hT t d hf
  unfold loadVar
  simp only [Sem.run_bind, hF.run_isAgg hf, Result.andThen_ok]
  cases hag : T.agg t with
  | true =>
    refine ⟨.agg cs.toArray, ?_, .inr ⟨aggOk_of_shape ht hag ⟨_, rfl⟩, by simpa [cellsL] using hr⟩⟩
    have := run_loadCells_list (P := P) X.w ⟨b, o, none⟩ cs (fun j x hj => by rw [add_plain']; exact hc j x hj)
    simp [hF.run_sizeOf, ← hl, this]
  | false =>
    have h1 : sz P t = 1 := by
      have hs := hF.size
      unfold Tab.agg at hag
      rw [hf] at hag
      cases d <;> simp_all
    rw [h1] at hl
    obtain ⟨x, rfl⟩ := List.length_eq_one_iff.1 hl
    refine ⟨x, ?_, ?_⟩
    · have := hc 0 x rfl
      simp at this
      simp [this]
    · have h1c : x.oneCell' = true := relF_one ht hr x (by simp)
      have hne : ∀ cs, x ≠ .agg cs := by rintro cs rfl; simp [Value.oneCell'] at h1c
      refine .inr ⟨?_, ?_⟩
      · cases v <;> first | exact hne | skip
        · simp only [RelF] at hr
          obtain ⟨fs, hfs, _⟩ := hr
          simp only [tagShape] at ht
          subst ht
          simp [Tab.agg, hfs] at hag
        · simp only [RelF] at hr
          obtain ⟨e, he, _⟩ := hr
          simp only [tagShape] at ht
          subst ht
          simp [Tab.agg, he] at hag
      · have : cellsL x = [x] := by cases x <;> simp_all [cellsL]
        rw [this]
        exact hr

theorem Rx.reg_lt {X : Rx} {r : Nat} (h : X.reg r ≠ .gone) : r < X.G.length := by
  rcases Nat.lt_or_ge r X.G.length with h' | h'
  · exact h'
  · exact absurd (by simp [Rx.reg, List.getElem?_eq_none h']) h

theorem cellsIn_of_block {w : World} {b : Nat} {cs : Array Value} {el : TypeId} {fz : Nat × Nat} (h : w.heap[b]? = some (.cells cs el fz)) {c1 c2 c3 : List Value} (hc : cs.toList = c1 ++ c2 ++ c3) : cellsIn w b c1.length c2 := by
  intro j x hj
  have hlt : j < c2.length := by
    rcases Nat.lt_or_ge j c2.length with h' | h'
    · exact h'
    · rw [List.getElem?_eq_none h'] at hj; cases hj
  simp only [World.cell?, h, Option.isSome_none, Bool.false_eq_true, if_false]
  have : cs.toList[c1.length + j]? = some x := by
    rw [hc, List.append_assoc, List.getElem?_append_right (by omega), List.getElem?_append_left (by omega)]
    rw [← hj]; congr 1; omega
  simpa using this

/-- what a pointer leads to, in its region -/
theorem ptr_cells (hT : TabOk P T) {X : Rx} (hX : RInv P T X) {r t b off : Nat} {p : List Nat} (hb : X.blk r = some b) (hp : PtrAt P T (X.reg r) p t off) :
    ∃ d cs, find t T = some d ∧ cellsIn X.w b off cs ∧ cs.length = sz P t ∧
      match X.reg r with
      | .box _ v => tagShape T t (getE T v p) ∧ RelF P T X (getE T v p) cs
      | .row e _ f => ∃ i q, p = i :: q ∧ tagShape T t (getE T (T.eta e (f i)) q) ∧ RelF P T X (getE T (T.eta e (f i)) q) cs
      | .frz e _ f => ∃ i q, p = i :: q ∧ tagShape T t (getE T (T.eta e (f i)) q) ∧ RelF P T X (getE T (T.eta e (f i)) q) cs
      | _ => False := by
  have hlt := ptrAt_lt hp
  have hreg := hX.reg r hlt
  unfold RegOk at hreg
  have row : ∀ {e n f fz}, RowOk P T X r e n f fz → (∃ i q o, p = i :: q ∧ i < n ∧ PathAt P T e q o t ∧ off = i * sz P e + o) →
      ∃ d cs, find t T = some d ∧ cellsIn X.w b off cs ∧ cs.length = sz P t ∧ ∃ i q, p = i :: q ∧ tagShape T t (getE T (T.eta e (f i)) q) ∧ RelF P T X (getE T (T.eta e (f i)) q) cs := by
    rintro e n f fz ⟨⟨de, hde⟩, hfit, hrow⟩ ⟨i, q, o, rfl, hi, hq, rfl⟩
    rcases hrow with ⟨hn, _⟩ | ⟨b', cs, el, fz', cap, hb', hh, _, _, hsz, hcap, hel⟩
    · rw [hn] at hb; cases hb
    · rw [hb'] at hb; cases hb
      obtain ⟨hfe, hr⟩ := eta_ok (hfit i hi) (hel i hi)
      have hfi := fits_shape hfe
      have hle : i * sz P e + sz P e ≤ cs.size := by
        rw [hsz, ← Nat.succ_mul]
        exact Nat.mul_le_mul_right _ (by omega)
      have hl : ((cs.toList.drop (i * sz P e)).take (sz P e)).length = sz P e := by simp; omega
      obtain ⟨⟨d, hd⟩, c1, c2, c3, e1, e2, e3, e4, e5, _, _⟩ := path_at hT hq ⟨de, hde⟩ hfi hl hr
      rw [← getE_eq hT hq hfi hl hr] at e4 e5
      refine ⟨d, c2, hd, ?_, e3, i, q, rfl, e4, e5⟩
      have h1 := (List.take_append_drop (i * sz P e) cs.toList).symm
      have h2 := (List.take_append_drop (sz P e) (cs.toList.drop (i * sz P e))).symm
      rw [e1] at h2
      have hsplit : cs.toList = (cs.toList.take (i * sz P e) ++ c1) ++ c2 ++ (c3 ++ (cs.toList.drop (i * sz P e)).drop (sz P e)) := by
        exact h1.trans ((congrArg (cs.toList.take (i * sz P e) ++ ·) h2).trans (by simp only [List.append_assoc]))
      have := cellsIn_of_block hh hsplit
      simpa [e2, Nat.min_eq_left (show i * sz P e ≤ cs.size by omega)] using this
  cases hg : X.reg r with
  | box t0 v =>
    simp only [hg] at hreg hp ⊢
    obtain ⟨⟨d0, hd0⟩, hsh, b', cs, el, hb', hh, hsz, hr⟩ := hreg
    rw [hb'] at hb; cases hb
    obtain ⟨⟨d, hd⟩, c1, c2, c3, e1, e2, e3, e4, e5, _, _⟩ := path_at hT hp ⟨d0, hd0⟩ hsh (by simpa using hsz) hr
    have := cellsIn_of_block hh e1
    rw [e2] at this
    rw [← getE_eq hT hp hsh (by simpa using hsz) hr] at e4 e5
    exact ⟨d, c2, hd, this, e3, e4, e5⟩
  | row e n f => simp only [hg] at hreg hp ⊢; exact row hreg hp
  | frz e n f => simp only [hg] at hreg hp ⊢; exact row hreg hp
  | gone => simp [hg, PtrAt] at hp
  | map => simp [hg, PtrAt] at hp
  | iter => simp [hg, PtrAt] at hp
end
end Go.VM

namespace Go.VM
section
variable {P : Program} {T : Tab} {β : Type} {PP : β → Prop}

theorem cellsL_one {x : Value} (h : ∀ cs, x ≠ .agg cs) : cellsL x = [x] := by cases x <;> simp_all [cellsL]

theorem rel_scalar {X : Rx} {v : V} (hv : v ≠ .junk) (hn : ∀ t l, v ≠ .nd t l) (ha : ∀ t n f, v ≠ .arr t n f) {x : Value} : Rel P T X v x ↔ (∀ cs, x ≠ .agg cs) ∧ RelF P T X v [x] := by
  have : aggOk v x ↔ ∀ cs, x ≠ .agg cs := by cases v <;> simp_all [aggOk]
  simp only [Rel, hv, false_or, this]
  refine ⟨fun ⟨h1, h2⟩ => ⟨h1, by rwa [cellsL_one h1] at h2⟩, fun ⟨h1, h2⟩ => ⟨h1, by rwa [cellsL_one h1]⟩⟩
theorem rel_bool {X : Rx} {b : Bool} {x : Value} : Rel P T X (.bool b) x ↔ x = .bool b := by
  rw [rel_scalar (by simp) (by simp) (by simp)]; simp only [RelF, List.cons.injEq, and_true]
  exact ⟨fun h => h.2, fun h => ⟨(by rintro cs rfl; cases h), h⟩⟩
theorem rel_int {X : Rx} {k : IntKind} {n : Int} {x : Value} : Rel P T X (.int k n) x ↔ x = .int k n := by
  rw [rel_scalar (by simp) (by simp) (by simp)]; simp only [RelF, List.cons.injEq, and_true]
  exact ⟨fun h => h.2, fun h => ⟨(by rintro cs rfl; cases h), h⟩⟩
theorem rel_str {X : Rx} {s : ByteArray} {x : Value} : Rel P T X (.str s) x ↔ x = .string s := by
  rw [rel_scalar (by simp) (by simp) (by simp)]; simp only [RelF, List.cons.injEq, and_true]
  exact ⟨fun h => h.2, fun h => ⟨(by rintro cs rfl; cases h), h⟩⟩
theorem rel_undef {X : Rx} {x : Value} : Rel P T X .undef x ↔ x = .tuple #[] := by
  rw [rel_scalar (by simp) (by simp) (by simp)]; simp only [RelF, List.cons.injEq, and_true]
  exact ⟨fun h => h.2, fun h => ⟨(by rintro cs rfl; cases h), h⟩⟩
theorem rel_nilp {X : Rx} {x : Value} : Rel P T X .nilp x ↔ x = .pointer none := by
  rw [rel_scalar (by simp) (by simp) (by simp)]; simp only [RelF, List.cons.injEq, and_true]
  exact ⟨fun h => h.2, fun h => ⟨(by rintro cs rfl; cases h), h⟩⟩
theorem rel_nils {X : Rx} {x : Value} : Rel P T X .nils x ↔ x = .slice none 0 0 := by
  rw [rel_scalar (by simp) (by simp) (by simp)]; simp only [RelF, List.cons.injEq, and_true]
  exact ⟨fun h => h.2, fun h => ⟨(by rintro cs rfl; cases h), h⟩⟩
theorem rel_nilm {X : Rx} {x : Value} : Rel P T X .nilm x ↔ x = .map none := by
  rw [rel_scalar (by simp) (by simp) (by simp)]; simp only [RelF, List.cons.injEq, and_true]
  exact ⟨fun h => h.2, fun h => ⟨(by rintro cs rfl; cases h), h⟩⟩
theorem rel_nilf {X : Rx} {x : Value} : Rel P T X .nilf x ↔ x = .nilFunc := by
  rw [rel_scalar (by simp) (by simp) (by simp)]; simp only [RelF, List.cons.injEq, and_true]
  exact ⟨fun h => h.2, fun h => ⟨(by rintro cs rfl; cases h), h⟩⟩
theorem rel_ei {X : Rx} {b : Bool} {t : Nat} {n : Int} {x : Value} : Rel P T X (.ei b t n) x ↔ x = (if b then .iface t (.int .i64 n) else .nilIface) ∧ (b = true → find t T = some (.int .i64)) := by
  rw [rel_scalar (by simp) (by simp) (by simp)]; simp only [RelF, List.cons.injEq, and_true]
  refine ⟨fun h => h.2, fun h => ⟨?_, h⟩⟩
  rintro cs rfl; have h1 := h.1; split at h1 <;> cases h1
theorem rel_ptr {X : Rx} {r t : Nat} {p : List Nat} {x : Value} : Rel P T X (.ptr r p t) x ↔ ∃ a, x = .pointer (some a) ∧ (X.dead r ∨ ∃ b off, X.blk r = some b ∧ PtrAt P T (X.reg r) p t off ∧ a = ⟨b, off, none⟩) := by
  rw [rel_scalar (by simp) (by simp) (by simp)]; simp only [RelF, List.cons.injEq, and_true]
  refine ⟨fun h => h.2, fun h => ⟨?_, h⟩⟩
  rintro cs rfl; obtain ⟨_, h1, _⟩ := h; cases h1
theorem rel_it {X : Rx} {r : Nat} {x : Value} : Rel P T X (.it r) x ↔ ∃ a, x = .pointer (some a) ∧ (X.dead r ∨ ∃ b, X.blk r = some b ∧ iterLike (X.reg r) ∧ a = ⟨b, 0, none⟩) := by
  rw [rel_scalar (by simp) (by simp) (by simp)]; simp only [RelF, List.cons.injEq, and_true]
  refine ⟨fun h => h.2, fun h => ⟨?_, h⟩⟩
  rintro cs rfl; obtain ⟨_, h1, _⟩ := h; cases h1
theorem rel_mp {X : Rx} {r : Nat} {x : Value} : Rel P T X (.mp r) x ↔ ∃ b, x = .map (some b) ∧ (X.dead r ∨ X.blk r = some b ∧ mapLike (X.reg r)) := by
  rw [rel_scalar (by simp) (by simp) (by simp)]; simp only [RelF, List.cons.injEq, and_true]
  refine ⟨fun h => h.2, fun h => ⟨?_, h⟩⟩
  rintro cs rfl; obtain ⟨_, h1, _⟩ := h; cases h1
theorem rel_sub {X : Rx} {r off n : Nat} {x : Value} : Rel P T X (.sub r off n) x ↔ ∃ a cap, x = .slice a n cap ∧ n ≤ cap ∧ (0 < n → a.isSome = true) ∧ (X.dead r ∨ SubAt P X r off n a cap) := by
  rw [rel_scalar (by simp) (by simp) (by simp)]; simp only [RelF, List.cons.injEq, and_true]
  refine ⟨fun h => h.2, fun h => ⟨?_, h⟩⟩
  rintro cs rfl; obtain ⟨_, _, h1, _⟩ := h; cases h1
theorem rel_ref {X : Rx} {t : Nat} {v : V} {x : Value} : Rel P T X (.ref t v) x ↔ ∃ b o, x = .pointer (some ⟨b, o, none⟩) ∧ X.S b ∧ T.fits t v = true ∧ ∃ cs', cellsIn X.w b o cs' ∧ cs'.length = sz P t ∧ RelF P T X v cs' := by
  rw [rel_scalar (by simp) (by simp) (by simp)]; simp only [RelF, List.cons.injEq, and_true]
  refine ⟨fun h => h.2, fun h => ⟨?_, h⟩⟩
  rintro cs rfl; obtain ⟨_, _, h1, _⟩ := h; cases h1
theorem rel_view {X : Rx} {e n : Nat} {f : Nat → V} {x : Value} : Rel P T X (.view e n f) x ↔ ∃ a cap, x = .slice a n cap ∧ n ≤ cap ∧ (∀ i, i < n → T.fits e (f i) = true) ∧
      (0 < n → ∃ b o, a = some ⟨b, o, none⟩ ∧ X.S b ∧ ∀ i, i < n → ∃ cs', cellsIn X.w b (o + i * sz P e) cs' ∧ cs'.length = sz P e ∧ RelF P T X (f i) cs') := by
  rw [rel_scalar (by simp) (by simp) (by simp)]; simp only [RelF, List.cons.injEq, and_true]
  refine ⟨fun h => h.2, fun h => ⟨?_, h⟩⟩
  rintro cs rfl; obtain ⟨_, _, h1, _⟩ := h; cases h1
theorem rel_fn {X : Rx} {f : Nat} {l : List V} {x : Value} : Rel P T X (.fn f l) x ↔ ∃ xs : Array Value, x = .func (.func f) #[] xs ∧ RelVs P T X l xs.toList := by
  rw [rel_scalar (by simp) (by simp) (by simp)]; simp only [RelF, List.cons.injEq, and_true]
  refine ⟨fun h => h.2, fun h => ⟨?_, h⟩⟩
  rintro cs rfl; obtain ⟨_, h1, _⟩ := h; cases h1
theorem rel_tup {X : Rx} {l : List V} {x : Value} : Rel P T X (.tup l) x ↔ ∃ xs : Array Value, x = .tuple xs ∧ RelVs P T X l xs.toList := by
  rw [rel_scalar (by simp) (by simp) (by simp)]; simp only [RelF, List.cons.injEq, and_true]
  refine ⟨fun h => h.2, fun h => ⟨?_, h⟩⟩
  rintro cs rfl; obtain ⟨_, h1, _⟩ := h; cases h1
theorem rel_nd {X : Rx} {t : Nat} {l : List V} {x : Value} : Rel P T X (.nd t l) x ↔ ∃ cs : Array Value, x = .agg cs ∧ RelF P T X (.nd t l) cs.toList := by
  simp only [Rel, reduceCtorEq, false_or, aggOk]
  constructor
  · rintro ⟨⟨cs, rfl⟩, h⟩; exact ⟨cs, rfl, h⟩
  · rintro ⟨cs, rfl, h⟩; exact ⟨⟨cs, rfl⟩, h⟩
theorem rel_arr {X : Rx} {t n : Nat} {f : Nat → V} {x : Value} : Rel P T X (.arr t n f) x ↔ ∃ cs : Array Value, x = .agg cs ∧ RelF P T X (.arr t n f) cs.toList := by
  simp only [Rel, reduceCtorEq, false_or, aggOk]
  constructor
  · rintro ⟨⟨cs, rfl⟩, h⟩; exact ⟨cs, rfl, h⟩
  · rintro ⟨cs, rfl, h⟩; exact ⟨⟨cs, rfl⟩, h⟩

theorem beqI (a b : Int) : (a == b) = decide (a = b) := by rw [Bool.eq_iff_iff]; simp

/-- what an operation's run is held to: it yields x, in the same world, and v is told of it -/
def Yields (P : Program) (T : Tab) {β : Type} (PP : β → Prop) (X : Rx) (K : V → R β) (s : Sem Value) : Prop :=
  ∃ v x, All PP (K v) ∧ Rel P T X v x ∧ s.run P X.w = .ok x X.w

theorem int_ok {X : Rx} {op : BinOp} (hs : isShift op = false) {k : IntKind} {a b : Int} {K : V → R β} {t : Nat} (h : All PP (intBin op k a b K)) : Yields P T PP X K (binOp op t (.int k a) (.int k b)) := by
  cases op
  case shl => cases hs
  case shr => cases hs
  case quo =>
    obtain ⟨h0, h⟩ := all_must.1 h
    refine ⟨_, _, h, rel_int.2 rfl, ?_⟩
    have : b ≠ 0 := by simpa [notB, eqI] using h0
    simp [binOp, Op.intDiv, this, wrapI, tdivI]
  case rem =>
    obtain ⟨h0, h⟩ := all_must.1 h
    refine ⟨_, _, h, rel_int.2 rfl, ?_⟩
    have : b ≠ 0 := by simpa [notB, eqI] using h0
    simp [binOp, Op.intDiv, this, tmodI]
  case add => exact ⟨_, _, h, rel_int.2 rfl, by simp [binOp, Op.intArith, wrapI, addI]⟩
  case sub => exact ⟨_, _, h, rel_int.2 rfl, by simp [binOp, Op.intArith, wrapI, subI]⟩
  case mul => exact ⟨_, _, h, rel_int.2 rfl, by simp [binOp, Op.intArith, wrapI, mulI]⟩
  case and => exact ⟨_, _, h, rel_int.2 rfl, by simp [binOp, Op.intBits, bandI]⟩
  case or => exact ⟨_, _, h, rel_int.2 rfl, by simp [binOp, Op.intBits, borI]⟩
  case xor => exact ⟨_, _, h, rel_int.2 rfl, by simp [binOp, Op.intBits, bxorI]⟩
  case andNot => exact ⟨_, _, h, rel_int.2 rfl, by simp [binOp, Op.intBits, bandnI]⟩
  case eql => exact ⟨_, _, h, rel_bool.2 rfl, by simp [binOp, Op.intCmp, eqI, beqI]⟩
  case neq => exact ⟨_, _, h, rel_bool.2 rfl, by simp [binOp, Op.intCmp, eqI, notB, bne, beqI]⟩
  case lss => exact ⟨_, _, h, rel_bool.2 rfl, by simp [binOp, Op.intCmp, ltI]⟩
  case leq => exact ⟨_, _, h, rel_bool.2 rfl, by simp [binOp, Op.intCmp, leI]⟩
  case gtr => exact ⟨_, _, h, rel_bool.2 rfl, by simp [binOp, Op.intCmp, ltI]⟩
  case geq => exact ⟨_, _, h, rel_bool.2 rfl, by simp [binOp, Op.intCmp, leI]⟩

theorem shift_ok {X : Rx} {op : BinOp} {k j : IntKind} {a b : Int} {K : V → R β} {t : Nat} (h : All PP (shiftV op k a b K)) : Yields P T PP X K (binOp op t (.int k a) (.int j b)) := by
  cases op
  case shl =>
    obtain ⟨h0, h⟩ := all_must.1 h
    have : ¬ b < 0 := by simp [leI] at h0; omega
    exact ⟨_, _, h, rel_int.2 rfl, by simp [binOp, Op.shift, this, shlI]⟩
  case shr =>
    obtain ⟨h0, h⟩ := all_must.1 h
    have : ¬ b < 0 := by simp [leI] at h0; omega
    exact ⟨_, _, h, rel_int.2 rfl, by simp [binOp, Op.shift, this, shrI]⟩
  all_goals exact (all_fail h).elim

theorem un_ok {X : Rx} {op : UnOp} {v : V} {y : Value} {K : V → R β} (hv : Rel P T X v y) (h : All PP (unV op v K)) : Yields P T PP X K (Op.unary op y) := by
  unfold unV at h
  split at h
  · rw [rel_int] at hv
    subst hv
    cases op <;> simp only at h
    · exact ⟨_, _, h, rel_int.2 rfl, by simp [Op.unary, Op.intArith, wrapI, subI]⟩
    · refine ⟨_, _, h, rel_int.2 rfl, ?_⟩
      simp only [Op.unary, Op.intBits, bxorI]
      split <;> simp_all
    · exact (all_fail h).elim
    · exact (all_fail h).elim
  · rw [rel_bool] at hv
    subst hv
    cases op <;> simp only at h <;> first | exact (all_fail h).elim | skip
    exact ⟨_, _, h, rel_bool.2 rfl, by simp [Op.unary, notB]⟩
  · exact (all_fail h).elim
end
end Go.VM

namespace Go.VM
section
variable {P : Program} {T : Tab} {β : Type} {PP : β → Prop}

theorem eqVs_cons (x y : V) (l m : List V) (h : l.length = m.length) : eqVs (x :: l) (y :: m) = (eqV x y && eqVs l m) := by
  cases l <;> cases m <;> simp_all [eqVs, andB]

/-- a part of a struct's cells as a value -/
theorem part_ok (hT : TabOk P T) {X : Rx} {t : Nat} {d : TyD} {v : V} {cs : Array Value} {c1 c2 c3 : List Value} (w : World) (hf : find t T = some d) (ht : tagShape T t v) (hl : c2.length = sz P t)
    (hc : cs.toList = c1 ++ c2 ++ c3) (hr : RelF P T X v c2) : ∃ x, (part t cs c1.length).run P w = .ok x w ∧ Rel P T X v x := by
  have hF := hT t d hf
  unfold part
  simp only [Sem.run_bind, hF.run_isAgg hf, Result.andThen_ok]
  cases hag : T.agg t with
  | true =>
    refine ⟨.agg c2.toArray, ?_, .inr ⟨aggOk_of_shape ht hag ⟨_, rfl⟩, by simpa [cellsL] using hr⟩⟩
    have : cs.extract c1.length (c1.length + sz P t) = c2.toArray := by
      apply Array.ext'
      rw [Array.toList_extract, hc, List.extract_eq_take_drop]
      simp [← hl]
    simp [hF.run_sizeOf, this]
  | false =>
    have h1 : sz P t = 1 := by
      have hs := hF.size
      unfold Tab.agg at hag
      rw [hf] at hag
      cases d <;> simp_all
    rw [h1] at hl
    obtain ⟨x, rfl⟩ := List.length_eq_one_iff.1 hl
    refine ⟨x, ?_, ?_⟩
    · have : cs[c1.length]? = some x := by
        have : cs.toList[c1.length]? = some x := by rw [hc]; simp
        simpa using this
      simp [this]
    · have h1c : x.oneCell' = true := relF_one ht hr x (by simp)
      have hne : ∀ cs, x ≠ .agg cs := by rintro cs rfl; simp [Value.oneCell'] at h1c
      refine .inr ⟨?_, ?_⟩
      · cases v <;> first | exact hne | skip
        · simp only [RelF] at hr
          obtain ⟨fs, hfs, _⟩ := hr
          simp only [tagShape] at ht
          subst ht
          simp [Tab.agg, hfs] at hag
        · simp only [RelF] at hr
          obtain ⟨e, he, _⟩ := hr
          simp only [tagShape] at ht
          subst ht
          simp [Tab.agg, he] at hag
      · rw [cellsL_one hne]
        exact hr

theorem relFs_length {X : Rx} : ∀ {l : List V} {fs : List Nat} {cs : List Value}, RelFs P T X l fs cs → l.length = fs.length
  | [], fs, cs, h => by obtain ⟨rfl, rfl⟩ := relFs_nil.1 h; rfl
  | v :: l, fs, cs, h => by
    obtain ⟨t, fs', c1, c2, rfl, rfl, _, _, _, h6⟩ := relFs_cons.1 h
    simp [relFs_length h6]

theorem foff_succ (t : Nat) (fs : List Nat) (i : Nat) : foff P (t :: fs) (i + 1) = sz P t + foff P fs i := by simp [foff]
theorem foff_zero (fs : List Nat) : foff P fs 0 = 0 := by simp [foff]

theorem eq_fields (hT : TabOk P T) {X : Rx} {w : World} {xs ys : Array Value} {D : Nat} (F : List Field) : ∀ (fs : List Nat) (l m : List V) (p1 c1 p2 c2 : List Value),
    F.map (·.type) = fs → (∀ i f, F[i]? = some f → f.offset = p1.length + foff P fs i ∧ f.name ≠ "_") → p1.length = p2.length →
    xs.toList = p1 ++ c1 → ys.toList = p2 ++ c2 → RelFs P T X l fs c1 → RelFs P T X m fs c2 → (∀ f ∈ fs, ∃ d, find f T = some d) → fitVs T l fs = true → fitVs T m fs = true →
    (∀ f ∈ fs, ∀ v1 v2 x1 x2, fitV T v1 f = true → fitV T v2 f = true → Rel P T X v1 x1 → Rel P T X v2 x2 → (Op.equalIn D f x1 x2).run P w = .ok (eqV v1 v2) w) →
    (Op.eqFields D xs ys F).run P w = .ok (eqVs l m) w := by
  induction F with
  | nil =>
    intro fs l m p1 c1 p2 c2 hF _ _ _ _ hl hm _ _ _ _
    simp at hF
    subst hF
    have h1 := relFs_length hl
    have h2 := relFs_length hm
    cases l <;> cases m <;> simp_all [Op.eqFields, eqVs]
  | cons f F ih =>
    intro fs l m p1 c1 p2 c2 hF ho hp hx hy hl hm hd hfl hfm heq
    simp only [List.map_cons] at hF
    cases l with
    | nil => obtain ⟨h, _⟩ := relFs_nil.1 hl; rw [h] at hF; cases hF
    | cons v l =>
      cases m with
      | nil => obtain ⟨h, _⟩ := relFs_nil.1 hm; rw [h] at hF; cases hF
      | cons u m =>
        obtain ⟨t, fs', a1, a2, e1, rfl, e3, e4, e5, e6⟩ := relFs_cons.1 hl
        obtain ⟨t', fs'', b1, b2, g1, rfl, g3, g4, g5, g6⟩ := relFs_cons.1 hm
        rw [e1] at g1
        cases g1
        subst e1
        simp only [List.cons.injEq] at hF
        obtain ⟨rfl, hF'⟩ := hF
        obtain ⟨ho1, ho2⟩ := ho 0 f rfl
        simp only [foff_zero, Nat.add_zero] at ho1
        obtain ⟨d, hd1⟩ := hd f.type (by simp)
        obtain ⟨x, hx1, hx2⟩ := part_ok hT (X := X) w hd1 e3 e4 (by rw [hx, List.append_assoc]) e5 (c3 := a2)
        obtain ⟨y, hy1, hy2⟩ := part_ok hT (X := X) w hd1 g3 g4 (by rw [hy, List.append_assoc]) g5 (c3 := b2)
        simp only [fitVs] at hfl hfm
        split at hfl
        · rename_i hv
          split at hfm
          · rename_i hu
            have h1 := heq f.type (by simp) v u x y hv hu hx2 hy2
            have hlen : l.length = m.length := by rw [relFs_length e6, relFs_length g6]
            have h2 := ih fs' l m (p1 ++ a1) a2 (p2 ++ b1) b2 hF' (fun i f' hi => by
                obtain ⟨k1, k2⟩ := ho (i + 1) f' hi
                refine ⟨?_, k2⟩
                rw [k1, foff_succ, List.length_append, e4]
                omega) (by simp [hp, e4, g4]) (by rw [hx, List.append_assoc]) (by rw [hy, List.append_assoc]) e6 g6 (fun f hf => hd f (by simp [hf])) hfl hfm
              (fun f hf => heq f (by simp [hf]))
            unfold Op.eqFields
            simp only [ne_eq, ho2, not_false_eq_true, if_true, Sem.run_bind, ho1, hx1, Result.andThen_ok]
            rw [hp, hy1]
            simp only [Result.andThen_ok, h1, eqVs_cons _ _ _ _ hlen]
            cases hb : eqV v u <;> simp [h2]
          · cases hfm
        · cases hfl

theorem fitV_st {t : Nat} {fs : List Nat} {v : V} (ht : find t T = some (.st fs)) (h : fitV T v t = true) : ∃ l, v = .nd t l ∧ fitVs T l fs = true := by
  cases v <;> simp only [fitV, kindIs, ht] at h
  all_goals first
    | (cases h; done)
    | (split at h
       · rename_i hb he
         cases he
         exact ⟨_, by rw [Nat.eq_of_beq_eq_true hb], h⟩
       · cases h)
    | (split at h
       · rename_i hb he; cases he
       · cases h)

theorem fitV_ar {t n e : Nat} {v : V} (ht : find t T = some (.ar n e)) (h : fitV T v t = true) : ∃ f, v = .arr t n f := by
  cases v <;> simp only [fitV, kindIs, ht] at h
  all_goals first
    | (cases h; done)
    | (split at h
       · rename_i hb he
         cases he
         exact ⟨_, by rw [Nat.eq_of_beq_eq_true hb, Nat.eq_of_beq_eq_true h]⟩
       · cases h)
    | (split at h
       · rename_i hb he; cases he
       · cases h)
theorem eqTs_mem : ∀ (d : Nat) (fs : List Nat), eqTs T d fs = true → ∀ f ∈ fs, ∃ d', d' < d ∧ eqT T d' f = true
  | d, [], _, f, hf => by cases hf
  | 0, t :: l, h, _, _ => by simp [eqTs] at h
  | d + 1, t :: l, h, f, hf => by
    simp only [eqTs, Bool.and_eq_true] at h
    rcases List.mem_cons.1 hf with rfl | hf
    · exact ⟨d, by omega, h.1⟩
    · obtain ⟨d', h1, h2⟩ := eqTs_mem d l h.2 f hf
      exact ⟨d', by omega, h2⟩

/-- Go's '==' at a type without references -/
theorem eq_flat (hT : TabOk P T) {X : Rx} (w : World) : ∀ (d t D : Nat), eqT T d t = true → d ≤ D → ∀ v1 v2 x1 x2, fitV T v1 t = true → fitV T v2 t = true → Rel P T X v1 x1 → Rel P T X v2 x2 →
    (Op.equalIn D t x1 x2).run P w = .ok (eqV v1 v2) w := by
  intro d
  induction d using Nat.strongRecOn with
  | _ d ih =>
    intro t D hq hD v1 v2 x1 x2 hf1 hf2 hr1 hr2
    cases d with
    | zero => simp [eqT] at hq
    | succ d =>
      obtain ⟨D, rfl⟩ : ∃ m, D = m + 1 := ⟨D - 1, by omega⟩
      cases ht : find t T with
      | none => simp [eqT, ht] at hq
      | some dd =>
        have hF := hT t dd ht
        obtain ⟨u, hu, hud⟩ := hF.und
        cases dd with
        | int k =>
          cases u <;> simp only [Und] at hud
          cases v1 <;> simp [fitV, kindIs, ht] at hf1
          cases v2 <;> simp [fitV, kindIs, ht] at hf2
          rw [rel_int] at hr1 hr2
          subst hr1 hr2
          have e1 := sameK_eq hf1
          have e2 := sameK_eq hf2
          subst e1
          subst e2
          rw [run_equalIn_int (h := hu)]
          simp [eqV, eqI, beqI]
        | bool =>
          cases u <;> simp only [Und] at hud
          cases v1 <;> simp [fitV, kindIs, ht] at hf1
          cases v2 <;> simp [fitV, kindIs, ht] at hf2
          rw [rel_bool] at hr1 hr2
          subst hr1 hr2
          rw [run_equalIn_bool' (h := hu)]
          simp [eqV, eqB]
        | str =>
          cases u <;> simp only [Und] at hud
          cases v1 <;> simp [fitV, kindIs, ht] at hf1
          cases v2 <;> simp [fitV, kindIs, ht] at hf2
          rw [rel_str] at hr1 hr2
          subst hr1 hr2
          rw [run_equalIn_string (h := hu)]
          simp [eqV, eqS, beq_toListBytes]
        | st fs =>
          cases u with
          | struct fields =>
            simp only [Und] at hud
            obtain ⟨l1, rfl, hg1⟩ := fitV_st ht hf1
            obtain ⟨l2, rfl, hg2⟩ := fitV_st ht hf2
            obtain ⟨cs1, rfl, hc1⟩ := rel_nd.1 hr1
            obtain ⟨cs2, rfl, hc2⟩ := rel_nd.1 hr2
            simp only [RelF] at hc1 hc2
            obtain ⟨fs1, hfs1, hc1⟩ := hc1
            obtain ⟨fs2, hfs2, hc2⟩ := hc2
            rw [ht] at hfs1 hfs2
            cases hfs1
            cases hfs2
            simp only [eqT, ht] at hq
            have hfo : P.fieldsOf t = fields := by simp [Program.fieldsOf, hu]
            rw [run_equalIn_struct w D t cs1 cs2 (by rw [hfo]; exact hu) (hF.held ⟨_, rfl⟩), hfo]
            simp only [eqV]
            refine eq_fields hT (X := X) fields.toList fs l1 l2 [] cs1.toList [] cs2.toList hud.1 (fun i f hi => ?_) rfl rfl rfl hc1 hc2 hF.size.2 hg1 hg2 ?_
            · obtain ⟨k1, k2⟩ := hud.2 i f (by simpa using hi)
              exact ⟨by simpa using k1, k2⟩
            · intro f hf v1 v2 x1 x2 h1 h2 h3 h4
              obtain ⟨d', hd', hq'⟩ := eqTs_mem d fs hq f hf
              exact ih d' (by omega) f D hq' (by omega) v1 v2 x1 x2 h1 h2 h3 h4
          | _ => simp [Und] at hud
        | ar n e =>
          cases u with
          | array n' e' =>
            simp only [Und] at hud
            obtain ⟨rfl, rfl⟩ := hud
            obtain ⟨k, hk⟩ := hF.size.2
            have hD1 : ∃ D', D = D' + 1 := by
              cases d with
              | zero => simp [eqT, ht] at hq
              | succ d => exact ⟨D - 1, by omega⟩
            obtain ⟨D, rfl⟩ := hD1
            obtain ⟨f1, rfl⟩ := fitV_ar ht hf1
            obtain ⟨f2, rfl⟩ := fitV_ar ht hf2
            obtain ⟨cs1, rfl, hc1⟩ := rel_arr.1 hr1
            obtain ⟨cs2, rfl, hc2⟩ := rel_arr.1 hr2
            simp only [RelF] at hc1 hc2
            obtain ⟨e1, he1, cf1, hcf1, hi1⟩ := hc1
            obtain ⟨e2, he2, cf2, hcf2, hi2⟩ := hc2
            rw [ht] at he1 he2
            cases he1
            cases he2
            have hFe := hT e _ hk
            obtain ⟨ui, hui, huk⟩ := hFe.und
            cases ui <;> simp only [Und] at huk
            subst huk
            obtain ⟨ii, _, hii, _⟩ := hFe.info
            rw [run_equalIn_array w (D + 1) cs1 cs2 hu hii]
            have hone : ∀ (g : Nat → V) (cf : Nat → List Value) (cs : Array Value), cs.toList = (List.range n).flatMap cf → (∀ i, i < n → T.fits e (g i) = true ∧ (cf i).length = sz P e ∧ RelF P T X (g i) (cf i)) →
                ∀ i, i < n → (part e cs (i * P.cellsOf e)).run P w = .ok (.int k (intV (g i))) w := by
              intro g cf cs hcs hg i hin
              obtain ⟨c1, c3, g1, g2, _⟩ := flatMap_at cf (sz P e) n i hin (fun j hj => (hg j hj).2.1)
              obtain ⟨x, hx, hrx⟩ := part_ok hT (X := X) w hk (fits_shape (hg i hin).1) (hg i hin).2.1 (by rw [hcs, g1]) (hg i hin).2.2 (cs := cs)
              have hfit := (hg i hin).1
              unfold Tab.fits at hfit
              cases hv : g i <;> rw [hv] at hfit hrx <;> simp [fitV, kindIs, hk] at hfit
              rw [rel_int] at hrx
              have := sameK_eq hfit
              subst hrx
              subst this
              rw [g2] at hx
              exact hx
            have hall : ∀ is : List Nat, (∀ i ∈ is, i < n) → (Op.eqItems (D + 1) e (P.cellsOf e) cs1 cs2 is).run P w = .ok (is.all fun i => eqI (intV (f1 i)) (intV (f2 i))) w := by
              intro is
              induction is with
              | nil => intro _; simp [Op.eqItems]
              | cons i is ih2 =>
                intro hlt
                have h1 := hone f1 cf1 cs1 hcf1 hi1 i (hlt i (by simp))
                have h2 := hone f2 cf2 cs2 hcf2 hi2 i (hlt i (by simp))
                have h3 := ih2 (fun j hj => hlt j (by simp [hj]))
                simp only [Op.eqItems, Sem.run_bind, h1, h2, Result.andThen_ok]
                rw [run_equalIn_int (h := hui)]
                simp only [Result.andThen_ok, List.all_cons]
                have h4 : (intV (f1 i) == intV (f2 i)) = eqI (intV (f1 i)) (intV (f2 i)) := by simp [eqI, beqI]
                rw [h4]
                cases eqI (intV (f1 i)) (intV (f2 i)) with
                | false => simp
                | true => simp [h3]
            simp only [eqV, allEq]
            exact hall _ (fun i hi => by simpa using hi)
          | _ => simp [Und] at hud
        | _ => simp [eqT, ht] at hq
end
end Go.VM

namespace Go.VM
section
variable {P : Program} {T : Tab} {β : Type} {PP : β → Prop}

def OpRel (P : Program) (T : Tab) (X : Rx) (σ : Operand → V) (ev : Operand → Value) : Prop := ∀ o, Rel P T X (σ o) (ev o)

theorem run_equal (t : Nat) (x y : Value) : (Op.equal t x y) = Op.equalIn (9999 + 1) t x y := rfl
theorem e_pp {t e : Nat} (hu : P.underlying t = some (.pointer e)) (d : Nat) (b : Option Addr) (w : World) : (Op.equalIn (d + 1) t (.pointer none) (.pointer b)).run P w = .ok b.isNone w := by simp [Op.equalIn, run_underlying hu]
theorem e_pn {t e : Nat} (hu : P.underlying t = some (.pointer e)) (d : Nat) (a : Addr) (w : World) : (Op.equalIn (d + 1) t (.pointer (some a)) (.pointer none)).run P w = .ok false w := by simp [Op.equalIn, run_underlying hu]
theorem e_mm {t k e : Nat} (hu : P.underlying t = some (.map k e)) (d : Nat) (b : Option Nat) (w : World) : (Op.equalIn (d + 1) t (.map none) (.map b)).run P w = .ok b.isNone w := by simp [Op.equalIn, run_underlying hu]
theorem e_mn {t k e : Nat} (hu : P.underlying t = some (.map k e)) (d : Nat) (a : Nat) (w : World) : (Op.equalIn (d + 1) t (.map (some a)) (.map none)).run P w = .ok false w := by simp [Op.equalIn, run_underlying hu]
theorem e_ii {t : Nat} {ms : Array (String × TypeId)} (hu : P.underlying t = some (.interface ms)) (d : Nat) (w : World) : (Op.equalIn (d + 1) t .nilIface .nilIface).run P w = .ok true w := by simp [Op.equalIn, run_underlying hu]
theorem e_iv {t : Nat} {ms : Array (String × TypeId)} (hu : P.underlying t = some (.interface ms)) (d u : Nat) (x : Value) (w : World) : (Op.equalIn (d + 1) t .nilIface (.iface u x)).run P w = .ok false w := by simp [Op.equalIn, run_underlying hu]
theorem e_vi {t : Nat} {ms : Array (String × TypeId)} (hu : P.underlying t = some (.interface ms)) (d u : Nat) (x : Value) (w : World) : (Op.equalIn (d + 1) t (.iface u x) .nilIface).run P w = .ok false w := by simp [Op.equalIn, run_underlying hu]
theorem e_vv {t : Nat} {ms : Array (String × TypeId)} (hu : P.underlying t = some (.interface ms)) (d u : Nat) (x y : Value) (w : World) {i : TypeInfo} (hi : P.info? u = some i) (hc : i.comparable = true) :
    (Op.equalIn (d + 1) t (.iface u x) (.iface u y)).run P w = (Op.equalIn d u x y).run P w := by simp [Op.equalIn, run_underlying hu, run_typeInfo hi, hc]
theorem e_vw {t : Nat} {ms : Array (String × TypeId)} (hu : P.underlying t = some (.interface ms)) (d u u' : Nat) (x y : Value) (w : World) (h : u ≠ u') : (Op.equalIn (d + 1) t (.iface u x) (.iface u' y)).run P w = .ok false w := by simp [Op.equalIn, run_underlying hu, h]

/-- '==' and '!=' come to equalIn, where neither operand is a number or a string -/
theorem eq_run {X : Rx} {t : Nat} {x y : Value} {b : Bool} {xo yo : Operand} {neg : Bool} (hg : (eqGuard (if neg then .neq else .eql) t xo yo x y).run P X.w = .ok () X.w)
    (hx : ∀ k n, x ≠ .int k n) (hf : ∀ k n, x ≠ .float k n) (hc : ∀ k a b, x ≠ .complex k a b) (hs : ∀ s, x ≠ .string s)
    (h : (Op.equalIn (9999 + 1) t x y).run P X.w = .ok b X.w) :
    (do eqGuard (if neg then .neq else .eql) t xo yo x y; binOp (if neg then .neq else .eql) t x y : Sem Value).run P X.w = .ok (.bool (if neg then !b else b)) X.w := by
  simp only [Sem.run_bind, hg, Result.andThen_ok]
  cases neg
  · simp only [Bool.false_eq_true, if_false]
    have : binOp .eql t x y = (do pure (.bool (← Op.equal t x y))) := by
      cases x <;> first | rfl | (exact absurd rfl (hx _ _)) | (exact absurd rfl (hf _ _)) | (exact absurd rfl (hc _ _ _)) | (exact absurd rfl (hs _))
    rw [this]
    simp [run_equal, h]
  · simp only [if_true]
    have : binOp .neq t x y = (do pure (.bool (!(← Op.equal t x y)))) := by
      cases x <;> first | rfl | (exact absurd rfl (hx _ _)) | (exact absurd rfl (hf _ _)) | (exact absurd rfl (hc _ _ _)) | (exact absurd rfl (hs _))
    rw [this]
    simp [run_equal, h]

theorem guard_plain {X : Rx} {op : BinOp} {t : Nat} {xo yo : Operand} {x y : Value} (h : (∀ cs ds, ¬ (x = .agg cs ∧ y = .agg ds)) ∧ ¬ (x = .nilIface ∧ y = .nilIface)) :
    (eqGuard op t xo yo x y).run P X.w = .ok () X.w := by
  unfold eqGuard
  cases op <;> first
    | rfl
    | (simp only [Bool.not_true, Bool.false_eq_true, if_false]
       split
       · exact absurd ⟨rfl, rfl⟩ h.2
       · exact absurd ⟨rfl, rfl⟩ (h.1 _ _)
       · rfl)

theorem guard_nil {w : World} {t : Nat} {xo yo : Operand} {neg : Bool} (h : isConst xo = true ∨ isConst yo = true) :
    (eqGuard (if neg then .neq else .eql) t xo yo .nilIface .nilIface).run P w = .ok () w := by
  unfold eqGuard
  rcases h with h | h
  · cases xo <;> first | (simp [isConst] at h; done) | (cases neg <;> simp)
  · cases yo <;> first | (simp [isConst] at h; done) | (cases neg <;> simp)

/-- Go's '==' or '!=', as the walk asks it -/
theorem ask_ok (hT : TabOk P T) {X : Rx} {t : Nat} {xo yo : Operand} {vx vy : V} {x y : Value} {neg : Bool} {K : V → R β} (hvx : Rel P T X vx x) (hvy : Rel P T X vy y) (hcst : (isConst xo || isConst yo) = true → isConst xo = true ∨ isConst yo = true)
    (h : All PP (eqAsk T t (isConst xo || isConst yo) vx vy neg K)) :
    Yields P T PP X K (do eqGuard (if neg then .neq else .eql) t xo yo x y; binOp (if neg then .neq else .eql) t x y) := by
  have fin : ∀ (b : Bool), All PP (K (.bool (xorB neg b))) →
      (do eqGuard (if neg then .neq else .eql) t xo yo x y; binOp (if neg then .neq else .eql) t x y : Sem Value).run P X.w = .ok (.bool (if neg then !b else b)) X.w →
      Yields P T PP X K (do eqGuard (if neg then .neq else .eql) t xo yo x y; binOp (if neg then .neq else .eql) t x y) := by
    intro b hb hr
    refine ⟨_, _, hb, rel_bool.2 rfl, ?_⟩
    rw [hr]
    cases neg <;> rfl
  unfold eqAsk at h
  split at h
  · -- an interface value held against the literal nil
    rename_i hc hn
    split at h
    · rename_i a u n b u' n' hi
      have hF := hT t _ hi
      obtain ⟨uu, hu, hud⟩ := hF.und
      cases uu <;> simp only [Und] at hud
      rw [rel_ei] at hvx hvy
      obtain ⟨rfl, _⟩ := hvx
      obtain ⟨rfl, _⟩ := hvy
      have hor : a = false ∨ b = false := by
        cases a <;> cases b <;> simp_all [isNil]
      refine fin _ h (eq_run ?_ (by intros; split <;> simp) (by intros; split <;> simp) (by intros; split <;> simp) (by intros; split <;> simp) ?_)
      · by_cases hab : a = false ∧ b = false
        · obtain ⟨rfl, rfl⟩ := hab
          exact guard_nil (hcst hc)
        · refine guard_plain ⟨?_, ?_⟩
          · intro cs ds hcd
            cases a <;> simp at hcd
          · cases a <;> cases b <;> simp_all
      · cases a <;> cases b <;> simp_all [e_ii hu, e_iv hu, e_vi hu, notB, orB]
    · exact (all_fail h).elim
  · obtain ⟨hok, h⟩ := all_must.1 h
    refine fin (eqV vx vy) h ?_
    unfold eqOk at hok
    split at hok
    · -- bool
      rename_i hi
      have hF := hT t _ hi
      obtain ⟨uu, hu, hud⟩ := hF.und
      cases uu <;> simp only [Und] at hud
      split at hok
      · rw [rel_bool] at hvx hvy
        subst hvx hvy
        refine eq_run (guard_plain (by simp)) (by simp) (by simp) (by simp) (by simp) ?_
        rw [run_equalIn_bool' (h := hu)]
        simp [eqV, eqB]
      · cases hok
    · -- pointers
      rename_i e hi
      have hF := hT t _ hi
      obtain ⟨uu, hu, hud⟩ := hF.und
      cases uu <;> simp only [Und] at hud
      split at hok
      · rw [rel_nilp] at hvx hvy
        subst hvx hvy
        refine eq_run (guard_plain (by simp)) (by simp) (by simp) (by simp) (by simp) ?_
        rw [e_pp hu]; simp [eqV]
      · rw [rel_nilp] at hvx
        obtain ⟨a, rfl, _⟩ := rel_ptr.1 hvy
        subst hvx
        refine eq_run (guard_plain (by simp)) (by simp) (by simp) (by simp) (by simp) ?_
        rw [e_pp hu]; simp [eqV]
      · rw [rel_nilp] at hvy
        obtain ⟨a, rfl, _⟩ := rel_ptr.1 hvx
        subst hvy
        refine eq_run (guard_plain (by simp)) (by simp) (by simp) (by simp) (by simp) ?_
        rw [e_pn hu]; simp [eqV]
      · rw [rel_nilp] at hvy
        obtain ⟨b, o, rfl, _⟩ := rel_ref.1 hvx
        subst hvy
        refine eq_run (guard_plain (by simp)) (by simp) (by simp) (by simp) (by simp) ?_
        rw [e_pn hu]; simp [eqV]
      · rw [rel_nilp] at hvx
        obtain ⟨b, o, rfl, _⟩ := rel_ref.1 hvy
        subst hvx
        refine eq_run (guard_plain (by simp)) (by simp) (by simp) (by simp) (by simp) ?_
        rw [e_pp hu]; simp [eqV]
      · cases hok
    · -- maps
      rename_i k e hi
      have hF := hT t _ hi
      obtain ⟨uu, hu, hud⟩ := hF.und
      cases uu <;> simp only [Und] at hud
      split at hok
      · rw [rel_nilm] at hvx hvy
        subst hvx hvy
        refine eq_run (guard_plain (by simp)) (by simp) (by simp) (by simp) (by simp) ?_
        rw [e_mm hu]; simp [eqV]
      · rw [rel_nilm] at hvy
        obtain ⟨b, rfl, _⟩ := rel_mp.1 hvx
        subst hvy
        refine eq_run (guard_plain (by simp)) (by simp) (by simp) (by simp) (by simp) ?_
        rw [e_mn hu]; simp [eqV]
      · cases hok
    · -- interface values, not both nil
      rename_i hi
      have hF := hT t _ hi
      obtain ⟨uu, hu, hud⟩ := hF.und
      cases uu <;> simp only [Und] at hud
      split at hok
      · rename_i a tx n b ty m _ _
        rw [rel_ei] at hvx hvy
        obtain ⟨rfl, hx⟩ := hvx
        obtain ⟨rfl, hy⟩ := hvy
        refine eq_run (guard_plain ?_) (by intros; split <;> simp) (by intros; split <;> simp) (by intros; split <;> simp) (by intros; split <;> simp) ?_
        · cases a <;> cases b <;> simp_all [orB]
        · cases a with
          | false =>
            cases b with
            | false => simp [orB] at hok
            | true =>
              simp only [Bool.false_eq_true, if_false, if_true]
              rw [e_iv hu]
              simp only [eqV]
              split <;> simp [andB, eqB, orB, notB]
          | true =>
            cases b with
            | false =>
              simp only [Bool.false_eq_true, if_false, if_true]
              rw [e_vi hu]
              simp only [eqV]
              split <;> simp [andB, eqB, orB, notB]
            | true =>
              simp only [if_true]
              have hF2 := hT tx _ (hx rfl)
              obtain ⟨i, hi1, hi2⟩ := hF2.comp ⟨_, rfl⟩
              obtain ⟨u2, hu2, hud2⟩ := hF2.und
              cases u2 <;> simp only [Und] at hud2
              by_cases htt : tx = ty
              · subst htt
                have hb : Nat.beq tx tx = true := Nat.beq_refl tx
                rw [e_vv hu _ _ _ _ _ hi1 hi2, run_equalIn_int (P := P) X.w 9998 tx .i64 .i64 n m (by rw [hu2, ← hud2])]
                simp [eqV, andB, eqB, orB, notB, eqI, beqI]
              · have hb : Nat.beq tx ty = false := by
                  cases hbb : Nat.beq tx ty
                  · rfl
                  · exact absurd (Nat.eq_of_beq_eq_true hbb) htt
                rw [e_vw hu _ _ _ _ _ _ htt]
                simp [eqV, hb, andB, notB]
      · cases hok
    · -- structs
      rename_i fs hi
      simp only [Bool.and_eq_true] at hok
      have hF := hT t _ hi
      obtain ⟨l1, rfl, _⟩ := fitV_st hi hok.2.1
      obtain ⟨l2, rfl, _⟩ := fitV_st hi hok.2.2
      have h1 := eq_flat hT X.w 60 t (9999 + 1) hok.1 (by omega) _ _ _ _ hok.2.1 hok.2.2 hvx hvy
      obtain ⟨cs1, rfl, _⟩ := rel_nd.1 hvx
      obtain ⟨cs2, rfl, _⟩ := rel_nd.1 hvy
      exact eq_run (run_eqGuard_agg X.w _ t xo yo cs1 cs2 (hF.guard hok.1)) (by simp) (by simp) (by simp) (by simp) h1
    · cases hok
end
end Go.VM

namespace Go.VM
section
variable {P : Program} {T : Tab} {β : Type} {PP : β → Prop}

theorem e_ss {t e : Nat} (hu : P.underlying t = some (.slice e)) (d n c : Nat) (b : Option Addr) (m k : Nat) (w : World) : (Op.equalIn (d + 1) t (.slice none n c) (.slice b m k)).run P w = .ok b.isNone w := by simp [Op.equalIn, run_underlying hu]
theorem e_sn {t e : Nat} (hu : P.underlying t = some (.slice e)) (d n c : Nat) (a : Addr) (m k : Nat) (w : World) : (Op.equalIn (d + 1) t (.slice (some a) n c) (.slice none m k)).run P w = .ok false w := by simp [Op.equalIn, run_underlying hu]

theorem isConst_or {xo yo : Operand} (h : (isConst xo || isConst yo) = true) : isConst xo = true ∨ isConst yo = true := by simpa using h

theorem nilCmp_ok (hT : TabOk P T) {X : Rx} {t : Nat} {xo yo : Operand} {vx : V} {x y : Value} {neg : Bool} {K : V → R β} (hvx : Rel P T X vx x) (hvy : Rel P T X .nils y)
    (h : All PP (nilCmp T t vx neg K)) : Yields P T PP X K (do eqGuard (if neg then .neq else .eql) t xo yo x y; binOp (if neg then .neq else .eql) t x y) := by
  rw [rel_nils] at hvy
  subst hvy
  have fin : ∀ (b : Bool), All PP (K (.bool (if neg then !b else b))) →
      (do eqGuard (if neg then .neq else .eql) t xo yo x (.slice none 0 0); binOp (if neg then .neq else .eql) t x (.slice none 0 0) : Sem Value).run P X.w = .ok (.bool (if neg then !b else b)) X.w →
      Yields P T PP X K (do eqGuard (if neg then .neq else .eql) t xo yo x (.slice none 0 0); binOp (if neg then .neq else .eql) t x (.slice none 0 0)) :=
    fun b hb hr => ⟨_, _, hb, rel_bool.2 rfl, hr⟩
  unfold nilCmp at h
  split at h
  · rename_i e hi
    rw [rel_nils] at hvx
    subst hvx
    obtain ⟨uu, hu, hud⟩ := (hT t _ hi).und
    cases uu <;> simp only [Und] at hud
    refine fin true (by cases neg <;> exact h) (eq_run (guard_plain (by simp)) (by simp) (by simp) (by simp) (by simp) ?_)
    rw [e_ss hu]; simp
  · rename_i e r off n hi
    obtain ⟨h0, h⟩ := all_must.1 h
    obtain ⟨a, cap, rfl, hc, hs, _⟩ := rel_sub.1 hvx
    obtain ⟨uu, hu, hud⟩ := (hT t _ hi).und
    cases uu <;> simp only [Und] at hud
    obtain ⟨a, rfl⟩ := Option.isSome_iff_exists.1 (hs (by simpa [ltN] using h0))
    refine fin false (by cases neg <;> exact h) (eq_run (guard_plain (by simp)) (by simp) (by simp) (by simp) (by simp) ?_)
    rw [e_sn hu]
  · rename_i e e' n f hi
    obtain ⟨h0, h⟩ := all_must.1 h
    obtain ⟨a, cap, rfl, hc, _, hs⟩ := rel_view.1 hvx
    obtain ⟨uu, hu, hud⟩ := (hT t _ hi).und
    cases uu <;> simp only [Und] at hud
    obtain ⟨b, o, rfl, _⟩ := hs (by simpa [ltN] using h0)
    refine fin false (by cases neg <;> exact h) (eq_run (guard_plain (by simp)) (by simp) (by simp) (by simp) (by simp) ?_)
    rw [e_sn hu]
  · exact (all_fail h).elim

theorem bin_ok (hT : TabOk P T) {X : Rx} {op : BinOp} {t : Nat} {xo yo : Operand} {vx vy : V} {x y : Value} {K : V → R β} (hvx : Rel P T X vx x) (hvy : Rel P T X vy y)
    (h : All PP (binV T t op (isConst xo || isConst yo) vx vy K)) : Yields P T PP X K (do eqGuard op t xo yo x y; binOp op t x y) := by
  unfold binV at h
  split at h
  · rename_i k a
    split at h
    · rename_i j b
      rw [rel_int] at hvx hvy
      subst hvx hvy
      have hg : ∀ {s : Sem Value}, Yields P T PP X K s → Yields P T PP X K (do eqGuard op t xo yo (.int k a) (.int j b); s) := by
        rintro s ⟨v, x, h1, h2, h3⟩
        refine ⟨v, x, h1, h2, ?_⟩
        simp only [Sem.run_bind, guard_plain (P := P) (X := X) (op := op) (t := t) (xo := xo) (yo := yo) (x := .int k a) (y := .int j b) (by simp), Result.andThen_ok, h3]
      split at h
      · exact hg (shift_ok h)
      · rename_i hs
        obtain ⟨hk, h2⟩ := all_must.1 h
        have := sameK_eq hk
        subst this
        exact hg (int_ok (by simpa using hs) h2)
    · exact (all_fail h).elim
  · split at h
    · split at h
      · exact nilCmp_ok (neg := false) hT hvx hvy h
      · exact ask_ok (neg := false) hT hvx hvy isConst_or h
    · split at h
      · exact nilCmp_ok (neg := true) hT hvx hvy h
      · exact ask_ok (neg := true) hT hvx hvy isConst_or h
    · exact (all_fail h).elim

theorem mlen_ok (hT : TabOk P T) {X : Rx} (hX : RInv P T X) {t ty : Nat} {v : V} {x : Value} {K : Nat → R β} (hv : Rel P T X v x) (h : All PP (mlenV T t X.G v K)) (hl : All PP (lenV T t v K) → ∃ n : Nat, All PP (K n) ∧ ∀ ts : Array Nat, ts[0]? = some t → (Builtin.len_ ts ty #[x]).run P X.w = .ok (.int .i64 n) X.w) :
    ∃ n : Nat, All PP (K n) ∧ ∀ ts : Array Nat, ts[0]? = some t → (Builtin.len_ ts ty #[x]).run P X.w = .ok (.int .i64 n) X.w := by
  unfold mlenV at h
  split at h
  · rename_i r
    split at h
    · rename_i k e hd
      obtain ⟨u, hu, hud⟩ := (hT _ _ hd).und
      cases u <;> simp only [Und] at hud
      split at h
      · rename_i u' clock l hg
        obtain ⟨hb, h⟩ := all_must.1 h
        have hreg : X.reg r = .map u' clock l := hg
        have hlt : r < X.G.length := mapLike_lt (by rw [hreg]; trivial)
        obtain ⟨b', hev, hb'⟩ := rel_mp.1 hv
        have hM := hX.reg r hlt
        unfold RegOk at hM
        rw [hreg] at hM
        obtain ⟨_, _, _, b'', es, h1, h2, h3, _⟩ := hM
        rcases hb' with ⟨_, h'⟩ | ⟨h', _⟩
        · rw [hreg] at h'; cases h'
        · have hbb : b' = b'' := by rw [h'] at h1; cases h1; rfl
          subst hbb
          refine ⟨_, h, fun ts ht => ?_⟩
          simp [Builtin.len_, ht, run_underlying hu, hev, MapKept.run_getObj_map h2, h3, goInt]
      · exact (all_fail h).elim
    · exact (all_fail h).elim
  · split at h
    · rename_i k e hd
      obtain ⟨u, hu, hud⟩ := (hT _ _ hd).und
      cases u <;> simp only [Und] at hud
      rw [rel_nilm] at hv
      subst hv
      exact ⟨0, h, fun ts ht => by simp [Builtin.len_, ht, run_underlying hu, goInt]⟩
    · exact (all_fail h).elim
  · exact hl h
theorem len_ok (hT : TabOk P T) {X : Rx} {t ty : Nat} {v : V} {x : Value} {K : Nat → R β} (hv : Rel P T X v x) (h : All PP (lenV T t v K)) :
    ∃ n : Nat, All PP (K n) ∧ ∀ ts : Array Nat, ts[0]? = some t → (Builtin.len_ ts ty #[x]).run P X.w = .ok (.int .i64 n) X.w := by
  unfold lenV at h
  split at h
  · rename_i e hi
    obtain ⟨uu, hu, hud⟩ := (hT t _ hi).und
    cases uu <;> simp only [Und] at hud
    split at h
    · rw [rel_nils] at hv; subst hv
      exact ⟨0, h, fun ts ht => by simp [Builtin.len_, ht, run_underlying hu, goInt]⟩
    · obtain ⟨a, cap, rfl, _⟩ := rel_view.1 hv
      exact ⟨_, h, fun ts ht => by simp [Builtin.len_, ht, run_underlying hu, goInt]⟩
    · obtain ⟨a, cap, rfl, _⟩ := rel_sub.1 hv
      exact ⟨_, h, fun ts ht => by simp [Builtin.len_, ht, run_underlying hu, goInt]⟩
    · exact (all_fail h).elim
  · rename_i hi
    obtain ⟨uu, hu, hud⟩ := (hT t _ hi).und
    cases uu <;> simp only [Und] at hud
    split at h
    · rw [rel_str] at hv; subst hv
      exact ⟨_, h, fun ts ht => by simp [Builtin.len_, ht, run_underlying hu, goInt, lenS]⟩
    · exact (all_fail h).elim
  · rename_i n e hi
    obtain ⟨uu, hu, hud⟩ := (hT t _ hi).und
    cases uu <;> simp only [Und] at hud
    obtain ⟨rfl, rfl⟩ := hud
    exact ⟨_, h, fun ts ht => by simp [Builtin.len_, ht, run_underlying hu, goInt]⟩
  · rename_i e hi
    obtain ⟨uu, hu, hud⟩ := (hT t _ hi).und
    cases uu <;> simp only [Und] at hud
    subst hud
    split at h
    · rename_i n e' hi2
      obtain ⟨u2, hu2, hud2⟩ := (hT e _ hi2).und
      cases u2 <;> simp only [Und] at hud2
      obtain ⟨rfl, rfl⟩ := hud2
      exact ⟨_, h, fun ts ht => by simp [Builtin.len_, ht, run_underlying hu, run_underlying hu2, goInt]⟩
    · exact (all_fail h).elim
  · exact (all_fail h).elim

theorem rowIs_iff {X : Rx} {r e : Nat} (h : rowIs X.G r e = true) : (∃ n f, X.reg r = .row e n f) ∨ ∃ n f, X.reg r = .frz e n f := by
  unfold rowIs at h
  unfold Rx.reg
  split at h
  · rename_i e' n f hg; rw [Nat.eq_of_beq_eq_true h]; exact .inl ⟨n, f, hg⟩
  · rename_i e' n f hg; rw [Nat.eq_of_beq_eq_true h]; exact .inr ⟨n, f, hg⟩
  · cases h
theorem rowIs_like {X : Rx} {r e e' k : Nat} (h : rowIs X.G r e = true) (hl : rowLike (X.reg r) e' k) : e' = e := by
  rcases rowIs_iff h with ⟨n, f, h⟩ | ⟨n, f, h⟩ <;> rw [h] at hl <;> exact hl.1.symm
theorem not_dead_row {X : Rx} {r e : Nat} (h : rowIs X.G r e = true) : ¬ X.dead r := by
  rintro ⟨_, hd⟩
  rcases rowIs_iff h with ⟨n, f, h⟩ | ⟨n, f, h⟩ <;> rw [h] at hd <;> cases hd
theorem rowIs_ptr {X : Rx} {r e k i : Nat} (h : rowLike (X.reg r) e k) (hi : i < k) : PtrAt P T (X.reg r) [i] e (i * sz P e) := by
  cases hg : X.reg r <;> rw [hg] at h <;> first | (exact h.elim) | skip
  all_goals
    obtain ⟨rfl, rfl⟩ := h
    exact ⟨i, [], 0, rfl, hi, .nil _, by simp⟩
theorem plusN_eq (a b : Nat) : plusN a b = a + b := by
  unfold plusN; split
  · simp
  · rfl

theorem fieldAddr_ok (hT : TabOk P T) {X : Rx} {s f ft : Nat} {v : V} {x : Value} {K : V → R β} (hv : Rel P T X v x) (hf : fieldT T s f = some ft)
    (h : All PP (match (generalizing := false) v with
      | .ptr r p u => must (Nat.beq u s) (K (.ptr r (p ++ [f]) ft))
      | .ref u v => must (Nat.beq u s) (K (.ref ft (childV v f)))
      | _ => .fail)) : Yields P T PP X K (Instr.fieldAt s x f) := by
  unfold fieldT at hf
  split at hf
  · rename_i fs hi
    have hF := hT s _ hi
    obtain ⟨uu, hu, hud⟩ := hF.und
    cases uu <;> simp only [Und] at hud
    rename_i fields
    have hfl : ∃ fd, fields[f]? = some fd ∧ fd.type = ft := by
      have : (fields.toList.map (·.type))[f]? = some ft := by rw [hud.1, hf]
      rw [List.getElem?_map] at this
      cases hc : fields.toList[f]? with
      | none => simp [hc] at this
      | some fd => exact ⟨fd, by simpa using hc, by simpa [hc] using this⟩
    obtain ⟨fd, hfd, rfl⟩ := hfl
    obtain ⟨hoff, _⟩ := hud.2 f fd hfd
    obtain ⟨df, hdf⟩ := hF.size.2 fd.type (List.mem_of_getElem? hf)
    have hpos := (hT _ _ hdf).pos
    have hrun : ∀ a : Addr, (Instr.fieldAt s (.pointer (some a)) f).run P X.w = .ok (.pointer (some (a.add (foff P fs f)))) X.w := by
      intro a
      simp [Instr.fieldAt, run_underlying hu, hfd, Instr.sureAddr, fieldPlace, (hT _ _ hdf).run_sizeOf, show sz P fd.type ≠ 0 by omega, hoff]
    split at h
    · rename_i r p u
      obtain ⟨hb, h2⟩ := all_must.1 h
      have := Nat.eq_of_beq_eq_true hb
      subst this
      obtain ⟨a, rfl, hd⟩ := rel_ptr.1 hv
      refine ⟨_, _, h2, rel_ptr.2 ⟨_, rfl, ?_⟩, hrun a⟩
      rcases hd with hd | ⟨b, off, hb, hp, rfl⟩
      · exact .inl hd
      · refine .inr ⟨b, off + foff P fs f, hb, ?_, by rw [add_plain']⟩
        cases hg : X.reg r with
        | box t0 v0 => rw [hg] at hp; exact pathAt_snoc hT hp hi hf
        | row e n g =>
          rw [hg] at hp
          obtain ⟨i, q, o, rfl, hi1, hq, rfl⟩ := hp
          exact ⟨i, q ++ [f], o + foff P fs f, rfl, hi1, pathAt_snoc hT hq hi hf, by omega⟩
        | frz e n g =>
          rw [hg] at hp
          obtain ⟨i, q, o, rfl, hi1, hq, rfl⟩ := hp
          exact ⟨i, q ++ [f], o + foff P fs f, rfl, hi1, pathAt_snoc hT hq hi hf, by omega⟩
        | _ => rw [hg] at hp; exact hp.elim
    · rename_i u v
      obtain ⟨hb, h2⟩ := all_must.1 h
      have := Nat.eq_of_beq_eq_true hb
      subst this
      obtain ⟨b, o, rfl, hS, hfit, cs, hc, hl, hr⟩ := rel_ref.1 hv
      have hsh := fits_shape hfit
      refine ⟨_, _, h2, ?_, hrun _⟩
      rw [add_plain']
      obtain ⟨_, c1, c2, c3, e1, e2, e3, e4, e5, e6, _⟩ := path_at hT (PathAt.fld hi hf (PathAt.nil _)) ⟨_, hi⟩ hsh hl hr
      replace e6 := e6 hfit
      have hch : getP v [f] = childV v f ∨ tagShape T u v ∧ (∀ l, v ≠ .nd u l) := by
        cases v with
        | nd t l => exact .inl rfl
        | _ => exact .inr ⟨hsh, by simp⟩
      have hnd : ∃ l, v = .nd u l := by
        cases v with
        | nd t l => exact ⟨l, by rw [hsh]⟩
        | arr t n g =>
          simp only [RelF] at hr
          obtain ⟨e, he, _⟩ := hr
          have : t = u := hsh
          subst this
          rw [hi] at he; cases he
        | tup => exact hsh.elim
        | undef => exact hsh.elim
        | _ => simp [tagShape, Tab.agg, hi] at hsh
      obtain ⟨l, rfl⟩ := hnd
      simp only [getP, childV] at e4 e5 e6 ⊢
      refine rel_ref.2 ⟨b, o + foff P fs f, rfl, hS, e6, c2, ?_, e3, e5⟩
      intro j y hj
      have h1 := hc (c1.length + j) y (by rw [e1, List.append_assoc, List.getElem?_append_right (by omega), List.getElem?_append_left (by
        rcases Nat.lt_or_ge j c2.length with h' | h'
        · omega
        · rw [List.getElem?_eq_none h'] at hj; cases hj)]; rw [← hj]; congr 1; omega)
      rw [e2] at h1
      have : o + foff P fs f + j = o + (foff P fs f + 0 + j) := by omega
      rw [this]; exact h1
    · exact (all_fail h).elim
  · cases hf

theorem field_ok (hT : TabOk P T) {X : Rx} {s f : Nat} {v : V} {x : Value} {K : V → R β} (hv : Rel P T X v x)
    (h : All PP (match (generalizing := false) fieldT T s f, v with
    | some _, .nd u l => must (Nat.beq u s) (K (l.getD f .junk))
    | _, _ => .fail)) : Yields P T PP X K (Instr.field s x f) := by
  split at h
  · rename_i ft u l hf
    obtain ⟨hb, h2⟩ := all_must.1 h
    have := Nat.eq_of_beq_eq_true hb
    subst this
    unfold fieldT at hf
    split at hf
    · rename_i fs hi
      have hF := hT u _ hi
      obtain ⟨uu, hu, hud⟩ := hF.und
      cases uu <;> simp only [Und] at hud
      rename_i fields
      have hfl : ∃ fd, fields[f]? = some fd ∧ fd.type = ft := by
        have : (fields.toList.map (·.type))[f]? = some ft := by rw [hud.1, hf]
        rw [List.getElem?_map] at this
        cases hc : fields.toList[f]? with
        | none => simp [hc] at this
        | some fd => exact ⟨fd, by simpa using hc, by simpa [hc] using this⟩
      obtain ⟨fd, hfd, rfl⟩ := hfl
      obtain ⟨hoff, _⟩ := hud.2 f fd hfd
      obtain ⟨df, hdf⟩ := hF.size.2 fd.type (List.mem_of_getElem? hf)
      obtain ⟨cs, rfl, hr⟩ := rel_nd.1 hv
      simp only [RelF] at hr
      obtain ⟨fs', hfs', hr⟩ := hr
      rw [hi] at hfs'; cases hfs'
      obtain ⟨c1, c2, c3, e1, e2, e3, e4, e5, _⟩ := relFs_at l fs cs.toList f _ hr hf
      obtain ⟨y, hy1, hy2⟩ := part_ok hT X.w hdf e4 e3 e1 e5
      refine ⟨_, y, h2, hy2, ?_⟩
      simp [Instr.field, run_underlying hu, hfd, asAgg, hoff, ← e2, hy1]
    · cases hf
  · exact (all_fail h).elim
end
end Go.VM

namespace Go.VM
section
variable {P : Program} {T : Tab} {β : Type} {PP : β → Prop}

theorem inRange {i : Int} {n : Nat} (h : andB (leI 0 i) (ltI i (ofN n)) = true) : 0 ≤ i ∧ i < n := by
  have h : leI 0 i = true ∧ ltI i (ofN n) = true := by simpa [andB] using h
  exact ⟨of_decide_eq_true h.1, of_decide_eq_true h.2⟩
theorem natI_lt {i : Int} {n : Nat} (h : 0 ≤ i ∧ i < n) : natI i < n := by unfold natI; omega

theorem indexAddr_ok (hT : TabOk P T) {X : Rx} {t : Nat} {v vi : V} {x xi : Value} {K : V → R β} (hv : Rel P T X v x) (hvi : Rel P T X vi xi)
    (h : All PP (indexAddrV T X.G t v vi K)) : Yields P T PP X K (Instr.indexAt t x xi) := by
  unfold indexAddrV at h
  cases vi with
  | int k i =>
    rw [rel_int] at hvi
    subst hvi
    simp only at h
    split at h
    · rename_i e hi
      obtain ⟨uu, hu, hud⟩ := (hT t _ hi).und
      cases uu <;> simp only [Und] at hud
      subst hud
      obtain ⟨_, ⟨de, hde⟩, _⟩ := (hT t _ hi).size
      cases v with
      | view e' n f =>
        replace h := all_must.1 h
        obtain ⟨hr, h⟩ := h
        replace h := all_must.1 h
        obtain ⟨he, h⟩ := h
        have := Nat.eq_of_beq_eq_true he
        subst this
        have hr := inRange hr
        have hlt := natI_lt hr
        obtain ⟨a, cap, rfl, _, hfit, hs⟩ := rel_view.1 hv
        obtain ⟨b, o, rfl, hS, hel⟩ := hs (by omega)
        obtain ⟨cs, h1, h2, h3⟩ := hel _ hlt
        refine ⟨_, .pointer (some ⟨b, o + natI i * sz P e, none⟩), h, rel_ref.2 ⟨b, _, rfl, hS, (eta_ok (hfit _ hlt) h3).1, cs, h1, h2, (eta_ok (hfit _ hlt) h3).2⟩, ?_⟩
        simp [Instr.indexAt, asIntOf, run_underlying hu, hr.1, hr.2, (hT _ _ hde).run_sizeOf, add_plain', natI]
      | sub r off n =>
        replace h := all_must.1 h
        obtain ⟨hr, h⟩ := h
        replace h := all_must.1 h
        obtain ⟨he, h⟩ := h
        have hr := inRange hr
        have hlt := natI_lt hr
        obtain ⟨a, cap, rfl, hcap, hsome, hs⟩ := rel_sub.1 hv
        obtain ⟨a, rfl⟩ := Option.isSome_iff_exists.1 (hsome (by omega))
        rcases hs with hd | ⟨e', k', hl, hle, hb⟩
        · exact absurd hd (not_dead_row he)
        · have := rowIs_like he hl
          subst this
          cases hX : X.blk r with
          | none => simp [hX] at hb
          | some b =>
            simp only [hX] at hb
            have ha := hb.1 (by omega)
            cases ha
            refine ⟨_, .pointer (some ⟨b, off * sz P e' + natI i * sz P e', none⟩), h, rel_ptr.2 ⟨_, rfl, .inr ⟨b, (off + natI i) * sz P e', hX, ?_, by rw [Nat.add_mul]⟩⟩, ?_⟩
            · rw [plusN_eq]; exact rowIs_ptr hl (by omega)
            · simp [Instr.indexAt, asIntOf, run_underlying hu, hr.1, hr.2, (hT _ _ hde).run_sizeOf, add_plain', natI]
      | _ => exact (all_fail h).elim
    · rename_i n e hi
      obtain ⟨uu, hu, hud⟩ := (hT t _ hi).und
      cases uu <;> simp only [Und] at hud
      obtain ⟨rfl, rfl⟩ := hud
      obtain ⟨hsz, ke, hde⟩ := (hT t _ hi).size
      have hrun : ∀ a : Addr, 0 ≤ i ∧ i < n → (Instr.indexAt t (.pointer (some a)) (.int k i)).run P X.w = .ok (.pointer (some (a.add (natI i * sz P e)))) X.w := by
        intro a hr
        simp [Instr.indexAt, asIntOf, run_underlying hu, hr.1, hr.2, (hT _ _ hde).run_sizeOf, natI, Instr.sureAddr]
      cases v with
      | ptr r p u =>
        replace h := all_must.1 h
        obtain ⟨he, h⟩ := h
        replace h := all_must.1 h
        obtain ⟨hr, h⟩ := h
        have := Nat.eq_of_beq_eq_true he
        subst this
        have hr := inRange hr
        have hlt := natI_lt hr
        obtain ⟨a, rfl, hd⟩ := rel_ptr.1 hv
        refine ⟨_, _, h, rel_ptr.2 ⟨_, rfl, ?_⟩, hrun a hr⟩
        rcases hd with hd | ⟨b, off, hb, hp, rfl⟩
        · exact .inl hd
        · refine .inr ⟨b, off + natI i * sz P e, hb, ?_, by rw [add_plain']⟩
          cases hg : X.reg r with
          | box t0 v0 => rw [hg] at hp; exact pathAt_snoc_idx hT hp hi hlt
          | row e' n' g =>
            rw [hg] at hp
            obtain ⟨j, q, o, rfl, hi1, hq, rfl⟩ := hp
            exact ⟨j, q ++ [natI i], o + natI i * sz P e, rfl, hi1, pathAt_snoc_idx hT hq hi hlt, by omega⟩
          | frz e' n' g =>
            rw [hg] at hp
            obtain ⟨j, q, o, rfl, hi1, hq, rfl⟩ := hp
            exact ⟨j, q ++ [natI i], o + natI i * sz P e, rfl, hi1, pathAt_snoc_idx hT hq hi hlt, by omega⟩
          | _ => rw [hg] at hp; exact hp.elim
      | ref u v =>
        cases v with
        | arr t' n' f =>
          replace h := all_must.1 h
          obtain ⟨he, h⟩ := h
          replace h := all_must.1 h
          obtain ⟨hr, h⟩ := h
          have := Nat.eq_of_beq_eq_true he
          subst this
          have hr := inRange hr
          obtain ⟨b, o, rfl, hS, hfit, cs, hc, hl, hrel⟩ := rel_ref.1 hv
          have hsh := fits_shape hfit
          simp only [RelF] at hrel
          obtain ⟨e', he', cf, rfl, hcf⟩ := hrel
          have : t' = u := hsh
          subst this
          rw [hi] at he'; cases he'
          have hlt := natI_lt hr
          refine ⟨_, _, h, ?_, hrun _ hr⟩
          rw [add_plain']
          obtain ⟨c1, c3, e1, e2, _⟩ := flatMap_at cf (sz P e) n (natI i) hlt (fun j hj => (hcf j hj).2.1)
          obtain ⟨g1, g2, g3⟩ := hcf _ hlt
          refine rel_ref.2 ⟨b, _, rfl, hS, (eta_ok g1 g3).1, cf (natI i), ?_, g2, (eta_ok g1 g3).2⟩
          intro j y hj
          have h1 := hc (c1.length + j) y (by rw [e1, List.append_assoc, List.getElem?_append_right (by omega), List.getElem?_append_left (by
            rcases Nat.lt_or_ge j (cf (natI i)).length with h' | h'
            · omega
            · rw [List.getElem?_eq_none h'] at hj; cases hj)]; rw [← hj]; congr 1; omega)
          rw [e2] at h1
          have : o + natI i * sz P e + j = o + (natI i * sz P e + j) := by omega
          rw [this]; exact h1
        | _ => exact (all_fail h).elim
      | _ => exact (all_fail h).elim
    · exact (all_fail h).elim
  | _ => exact (all_fail h).elim

theorem byteS_at {s : ByteArray} {j : Nat} (h : j < s.size) : ∃ b, s[j]? = some b ∧ (b.toNat : Int) = byteS s j := by
  refine ⟨s[j], getElem?_pos s j h, ?_⟩
  unfold byteS
  have h' : j < s.data.toList.length := by simpa using h
  rw [List.getD_eq_getElem?_getD, List.getElem?_eq_getElem h']
  rfl
theorem index_ok (hT : TabOk P T) {X : Rx} {t : Nat} {v vi : V} {x xi : Value} {K : V → R β} (hv : Rel P T X v x) (hvi : Rel P T X vi xi)
    (h : All PP (match (generalizing := false) vi with
    | .int _ i => match (generalizing := false) v, find t T with
      | .arr u n f, some (.ar _ e) => must (Nat.beq u t) (must (andB (leI 0 i) (ltI i (ofN n))) (K (T.eta e (f (natI i)))))
      | .str s, some .str => must (andB (leI 0 i) (ltI i (ofN (lenS s)))) (K (.int .u8 (byteS s (natI i))))
      | _, _ => .fail
    | _ => .fail)) : Yields P T PP X K (Instr.index t x xi) := by
  cases vi with
  | int k i =>
    rw [rel_int] at hvi
    subst hvi
    cases v with
    | arr u n f =>
      cases hi : find t T with
      | none => simp only [hi] at h; exact (all_fail h).elim
      | some d =>
        cases d with
        | ar n' e =>
          simp only [hi] at h
          replace h := all_must.1 h
          obtain ⟨he, h⟩ := h
          replace h := all_must.1 h
          obtain ⟨hr, h⟩ := h
          have := Nat.eq_of_beq_eq_true he
          subst this
          have hr := inRange hr
          obtain ⟨uu, hu, hud⟩ := (hT u _ hi).und
          cases uu <;> simp only [Und] at hud
          obtain ⟨rfl, rfl⟩ := hud
          obtain ⟨hsz, ke, hde⟩ := (hT u _ hi).size
          obtain ⟨cs, rfl, hrel⟩ := rel_arr.1 hv
          simp only [RelF] at hrel
          obtain ⟨e', he', cf, hcs, hcf⟩ := hrel
          rw [hi] at he'; cases he'
          have hlt := natI_lt hr
          obtain ⟨c1, c3, e1, e2, _⟩ := flatMap_at cf (sz P e) n (natI i) hlt (fun j hj => (hcf j hj).2.1)
          obtain ⟨g1, g2, g3⟩ := hcf _ hlt
          rw [eta_int hde g1] at h
          obtain ⟨y, hy1, hy2⟩ := part_ok hT X.w hde (fits_shape g1) g2 (hcs.trans e1) g3
          refine ⟨_, y, h, hy2, ?_⟩
          rw [e2] at hy1
          simp [Instr.index, asIntOf, run_underlying hu, hr.1, hr.2, (hT _ _ hde).run_sizeOf]
          exact hy1
        | _ => simp only [hi] at h; exact (all_fail h).elim
    | str s =>
      cases hi : find t T with
      | none => simp only [hi] at h; exact (all_fail h).elim
      | some d =>
        cases d with
        | str =>
          simp only [hi] at h
          replace h := all_must.1 h
          obtain ⟨hr, h⟩ := h
          have hr := inRange hr
          obtain ⟨uu, hu, hud⟩ := (hT t _ hi).und
          cases uu <;> simp only [Und] at hud
          rw [rel_str] at hv
          subst hv
          have hlt : natI i < s.size := natI_lt hr
          obtain ⟨b, hb, hbs⟩ := byteS_at hlt
          have hb : s[i.toNat]? = some b := hb
          refine ⟨_, .int .u8 (byteS s (natI i)), h, rel_int.2 rfl, ?_⟩
          simp [Instr.index, asIntOf, run_underlying hu, hr.1, hb, ← hbs]
        | _ => simp only [hi] at h; exact (all_fail h).elim
    | _ => exact (all_fail h).elim
  | _ => exact (all_fail h).elim

theorem run_sliceBound (k : IntKind) {i : Int} {y : Nat} (code : BoundsCode) (h : 0 ≤ i ∧ i ≤ y) (w : World) : (Instr.sliceBound (.int k i) y code).run P w = .ok i.toNat w := by
  simp [Instr.sliceBound, asIntOf, h.1, h.2]

theorem inRange' {i : Int} {n : Nat} (h : andB (leI 0 i) (leI i (ofN n)) = true) : 0 ≤ i ∧ i ≤ n := by
  have h : leI 0 i = true ∧ leI i (ofN n) = true := by simpa [andB] using h
  exact ⟨of_decide_eq_true h.1, of_decide_eq_true h.2⟩

/-- the bounds of a slice expression -/
theorem sliceHi_ok {X : Rx} {hi mx : Option V} {xh xm : Option Value} {n cap : Nat} {K : Nat → R β} (hn : n ≤ cap)
    (hh : match hi, xh with | none, none => True | some v, some x => Rel P T X v x | _, _ => False)
    (hm : match mx, xm with | none, none => True | some v, some x => Rel P T X v x | _, _ => False)
    (h : All PP (sliceHi n hi mx K)) : ∃ hh m, hh ≤ n ∧ hh ≤ m ∧ m ≤ cap ∧ All PP (K hh) ∧
      ∀ (lo : Option Value) (l : Nat) (w : World), (match lo with | none => l = 0 | some x => ∃ k i, x = .int k i ∧ 0 ≤ i ∧ i ≤ hh ∧ i.toNat = l) → (Instr.sliceBounds true n cap lo xh xm).run P w = .ok (l, hh, m) w := by
  have low : ∀ (lo : Option Value) (l hh : Nat) (code : BoundsCode) (w : World), (match lo with | none => l = 0 | some x => ∃ k i, x = .int k i ∧ 0 ≤ i ∧ i ≤ hh ∧ i.toNat = l) →
      ((match lo with | some v => Instr.sliceBound v hh code | none => pure 0 : Sem Nat)).run P w = .ok l w := by
    intro lo l hh code w hl
    cases lo with
    | none => simp at hl; subst hl; simp
    | some x =>
      obtain ⟨k, i, rfl, h1, h2, rfl⟩ := hl
      exact run_sliceBound k code ⟨h1, h2⟩ w
  unfold sliceHi at h
  cases mx with
  | some m =>
    cases m with
    | int k m =>
      cases hi with
      | none => exact (all_fail h).elim
      | some vh =>
       cases vh with
       | int k' hb =>
        cases xm with
        | none => exact hm.elim
        | some xm =>
         cases xh with
         | none => exact hh.elim
         | some xh =>
          simp only [rel_int] at hm hh
          subst hm hh
          replace h := all_must.1 h
          obtain ⟨hr, h⟩ := h
          have hr : (leI 0 hb = true ∧ leI hb m = true) ∧ leI m (ofN n) = true := by simpa [andB] using hr
          have h1 : 0 ≤ hb := of_decide_eq_true hr.1.1
          have h2 : hb ≤ m := of_decide_eq_true hr.1.2
          have h3 : m ≤ n := of_decide_eq_true hr.2
          refine ⟨hb.toNat, m.toNat, by omega, by omega, by omega, h, fun lo l w hl => ?_⟩
          have h1 := run_sliceBound (P := P) k (i := m) (y := cap) .slice3Acap ⟨by omega, by omega⟩ w
          have h2 := run_sliceBound (P := P) k' (i := hb) (y := m.toNat) .slice3B ⟨by omega, by omega⟩ w
          have h3 := low lo l hb.toNat .slice3C w hl
          cases lo <;> simp_all [Instr.sliceBounds]
       | _ => exact (all_fail h).elim
    | _ => exact (all_fail h).elim
  | none =>
    cases xm with
    | some => exact hm.elim
    | none =>
      cases hi with
      | none =>
        cases xh with
        | some => exact hh.elim
        | none =>
          refine ⟨n, cap, by omega, by omega, by omega, h, fun lo l w hl => ?_⟩
          have h3 := low lo l n .sliceB w hl
          cases lo <;> simp_all [Instr.sliceBounds]
      | some vh =>
        cases vh with
        | int k hb =>
          cases xh with
          | none => exact hh.elim
          | some xh =>
            simp only [rel_int] at hh
            subst hh
            replace h := all_must.1 h
            obtain ⟨hr, h⟩ := h
            have hr := inRange' hr
            refine ⟨hb.toNat, cap, by omega, by omega, by omega, h, fun lo l w hl => ?_⟩
            have h2 := run_sliceBound (P := P) k (i := hb) (y := cap) .sliceAcap ⟨by omega, by omega⟩ w
            have h3 := low lo l hb.toNat .sliceB w hl
            cases lo <;> simp_all [Instr.sliceBounds]
        | _ => exact (all_fail h).elim

theorem shiftF_at {f : Nat → V} {lo i : Nat} : shiftF f lo i = f (lo + i) := by
  cases lo with
  | zero => simp [shiftF]
  | succ lo => rfl

theorem sliceGo_ok (hT : TabOk P T) {X : Rx} {t l h n cap m : Nat} {v : V} {a : Option Addr} {K : V → R β} (hv : Rel P T X v (.slice a n cap)) (hl : l ≤ h) (hh : h ≤ n) (hm : h ≤ m) (hmc : m ≤ cap)
    (hK : All PP (sliceGo T X.G t v l h K)) : ∃ e u, find t T = some (.slice e) ∧ P.underlying t = some (.slice e) ∧ (∃ d, find e T = some d) ∧
      ∃ v', All PP (K v') ∧ Rel P T X v' (.slice (if m = l then a else a.map (·.add (l * sz P e))) (h - l) (m - l)) ∧ u = () := by
  unfold sliceGo at hK
  split at hK
  · rename_i e hi
    obtain ⟨uu, hu, hud⟩ := (hT t _ hi).und
    cases uu <;> simp only [Und] at hud
    subst hud
    obtain ⟨_, hde, _⟩ := (hT t _ hi).size
    refine ⟨e, (), hi, hu, hde, ?_⟩
    cases v with
    | nils =>
      rw [rel_nils] at hv
      cases hv
      refine ⟨_, hK, ?_, rfl⟩
      have : l = 0 := by omega
      have : m = 0 := by omega
      have : h = 0 := by omega
      subst_vars
      simp [rel_nils]
    | view e' n' f =>
      replace hK := all_must.1 hK
      obtain ⟨he, hK⟩ := hK
      have := Nat.eq_of_beq_eq_true he
      subst this
      obtain ⟨a', cap', hx, hnc, hfit, hs⟩ := rel_view.1 hv
      cases hx
      refine ⟨_, hK, rel_view.2 ⟨_, _, rfl, by simp only [subN]; omega, fun i hi => ?_, fun h0 => ?_⟩, rfl⟩
      · rw [shiftF_at]; simp only [subN] at hi; exact hfit _ (by omega)
      · simp only [subN] at h0
        obtain ⟨b, o, rfl, hS, hel⟩ := hs (by omega)
        refine ⟨b, o + l * sz P e, ?_, hS, fun i hi => ?_⟩
        · rw [if_neg (by omega)]; simp [add_plain']
        · rw [shiftF_at]
          simp only [subN] at hi
          obtain ⟨cs, h1, h2, h3⟩ := hel (l + i) (by omega)
          exact ⟨cs, by rw [Nat.add_assoc, ← Nat.add_mul]; exact h1, h2, h3⟩
    | sub r off n' =>
      replace hK := all_must.1 hK
      obtain ⟨he, hK⟩ := hK
      obtain ⟨a', cap', hx, hnc, hsome, hs⟩ := rel_sub.1 hv
      cases hx
      refine ⟨_, hK, rel_sub.2 ⟨_, _, rfl, by simp only [subN]; omega, fun h0 => ?_, ?_⟩, rfl⟩
      · simp only [subN] at h0
        rw [if_neg (by omega)]
        simpa using hsome (by omega)
      · rcases hs with hd | ⟨e', k', hl', hle, hb⟩
        · exact .inl hd
        · have := rowIs_like he hl'
          subst this
          refine .inr ⟨e', k', hl', by simp only [plusN_eq, subN]; omega, ?_⟩
          cases hX : X.blk r with
          | none =>
            simp only [hX] at hb
            obtain ⟨rfl, rfl⟩ := hb
            have : m = l := by omega
            simp [this]
          | some b =>
            simp only [hX] at hb
            refine ⟨fun h0 => ?_, ?_⟩
            · rw [if_neg (by omega), hb.1 (by omega)]
              simp [add_plain', plusN_eq, Nat.add_mul]
            · refine Nat.le_trans ?_ hb.2
              rw [plusN_eq]
              exact Nat.mul_le_mul_right _ (by omega)
    | _ => exact (all_fail hK).elim
  · exact (all_fail hK).elim

theorem relOpt {X : Rx} {σ : Operand → V} {ev : Operand → Value} (hσ : OpRel P T X σ ev) (o : Option Operand) :
    match o.map σ, o.map ev with | none, none => True | some v, some x => Rel P T X v x | _, _ => False := by
  cases o with
  | none => trivial
  | some o => exact hσ o

theorem slice_ok (hT : TabOk P T) {X : Rx} {σ : Operand → V} {ev : Operand → Value} (hσ : OpRel P T X σ ev) {t : Nat} {v : V} {x : Value} {lo hi mx : Option Operand} {K : V → R β} (hv : Rel P T X v x)
    (h : All PP (sliceV T t X.G v (lo.map σ) (hi.map σ) (mx.map σ) K)) : Yields P T PP X K (Instr.sliceAt t x (lo.map ev) (hi.map ev) (mx.map ev)) := by
  unfold sliceV at h
  have hlen : ∃ e n a cap, find t T = some (.slice e) ∧ x = .slice a n cap ∧ n ≤ cap ∧ All PP (sliceHi n (hi.map σ) (mx.map σ) fun h => match lo.map σ with
    | some l => match l with | .int _ l => must (andB (leI 0 l) (leI l (ofN h))) (sliceGo T X.G t v (natI l) h K) | _ => .fail
    | none => sliceGo T X.G t v 0 h K) := by
    have hno : ∀ d, find t T = some d → (∀ e, d ≠ .slice e) → ∀ n, ¬ All PP (sliceHi n (hi.map σ) (mx.map σ) fun h => match lo.map σ with
        | some l => match l with | .int _ l => must (andB (leI 0 l) (leI l (ofN h))) (sliceGo T X.G t v (natI l) h K) | _ => .fail
        | none => sliceGo T X.G t v 0 h K) := by
      intro d hd hne n hA
      have hgo : ∀ l h, sliceGo T X.G t v l h K = .fail := by
        intro l h
        unfold sliceGo
        rw [hd]
        cases d <;> first | rfl | exact absurd rfl (hne _)
      simp only [hgo] at hA
      have hK : ∀ h : Nat, ¬ All PP (match lo.map σ with
        | some l => match l with | .int _ l => must (andB (leI 0 l) (leI l (ofN h))) (.fail : R β) | _ => .fail
        | none => .fail) := by
        intro h hA
        split at hA
        · split at hA
          · exact all_fail (all_must.1 hA).2
          · exact all_fail hA
        · exact all_fail hA
      unfold sliceHi at hA
      split at hA
      · split at hA
        · exact hK _ (all_must.1 hA).2
        · exact all_fail hA
      · split at hA
        · split at hA
          · exact hK _ (all_must.1 hA).2
          · exact all_fail hA
        · exact hK _ hA
    unfold lenV at h
    split at h
    · rename_i e he
      cases v with
      | nils => rw [rel_nils] at hv; exact ⟨e, 0, none, 0, he, hv, by omega, h⟩
      | view _ n f => obtain ⟨a, cap, rfl, hc, _⟩ := rel_view.1 hv; exact ⟨e, n, a, cap, he, rfl, hc, h⟩
      | sub r off n => obtain ⟨a, cap, rfl, hc, _⟩ := rel_sub.1 hv; exact ⟨e, n, a, cap, he, rfl, hc, h⟩
      | _ => exact (all_fail h).elim
    · rename_i he
      split at h
      · exact absurd h (hno _ he (by simp) _)
      · exact (all_fail h).elim
    · rename_i he
      exact absurd h (hno _ he (by simp) _)
    · rename_i he
      split at h
      · exact absurd h (hno _ he (by simp) _)
      · exact (all_fail h).elim
    · exact (all_fail h).elim
  obtain ⟨e, n, a, cap, hi', rfl, hnc, h⟩ := hlen
  obtain ⟨hh, m, h1, h2, h3, h4, h5⟩ := sliceHi_ok (P := P) (T := T) (X := X) hnc (relOpt hσ hi) (relOpt hσ mx) h
  have fin : ∀ l, l ≤ hh → (match lo.map ev with | none => l = 0 | some x => ∃ k i, x = .int k i ∧ 0 ≤ i ∧ i ≤ hh ∧ i.toNat = l) → All PP (sliceGo T X.G t v l hh K) → Yields P T PP X K (Instr.sliceAt t (.slice a n cap) (lo.map ev) (hi.map ev) (mx.map ev)) := by
    intro l hl hlo hA
    obtain ⟨e', _, he', hu, ⟨d, hd⟩, v', hv1, hv2, _⟩ := sliceGo_ok hT hv hl h1 h2 h3 hA
    refine ⟨v', _, hv1, hv2, ?_⟩
    have hb := h5 _ l X.w hlo
    simp [Instr.sliceAt, run_underlying hu, Instr.slice, hb, (hT _ _ hd).run_sizeOf]
  cases lo with
  | none => exact fin 0 (by omega) rfl h4
  | some lo =>
    have hlo := hσ lo
    simp only [Option.map_some] at h4 ⊢ fin
    cases hc : σ lo with
    | int k l =>
      rw [hc] at hlo h4
      rw [rel_int] at hlo
      obtain ⟨hr, h4⟩ := all_must.1 h4
      have hr := inRange' hr
      exact fin (natI l) (by unfold natI; omega) ⟨k, l, hlo, hr.1, hr.2, rfl⟩ h4
    | _ => rw [hc] at h4; exact (all_fail h4).elim
end
end Go.VM

namespace Go.VM
section
variable {P : Program} {T : Tab} {β : Type} {PP : β → Prop}

theorem foldl_fill (off : Nat) : ∀ (xs : List Value) (k : Nat) (cs : Array Value) (c1 c2 c3 : List Value), cs.toList = c1 ++ c2 ++ c3 → c1.length = off + k → c2.length = xs.length →
    ((xs.zipIdx k).foldl (fun cs (p : Value × Nat) => cs.setIfInBounds (off + p.2) p.1) cs).toList = c1 ++ xs ++ c3
  | [], k, cs, c1, c2, c3, h, h1, h2 => by
    obtain rfl : c2 = [] := List.length_eq_zero_iff.1 h2
    simpa using h
  | x :: xs, k, cs, c1, c2, c3, h, h1, h2 => by
    cases c2 with
    | nil => simp at h2
    | cons y c2 =>
      simp only [List.zipIdx_cons, List.foldl_cons]
      have := foldl_fill off xs (k + 1) (cs.setIfInBounds (off + k) x) (c1 ++ [x]) c2 c3 (by
        simp [h, h1]) (by simp; omega) (by simpa using h2)
      simpa using this

/-- one part is laid -/
theorem fill_one {place : Nat → Option (Nat × Nat)} {cells : Array Value} {i off size : Nat} {v : Value} {rest : List (Nat × Value)} {c1 c2 c3 : List Value}
    (hp : place i = some (off, size)) (hv : v.cells.size = size) (hc : cells.toList = c1 ++ c2 ++ c3) (h1 : c1.length = off) (h2 : c2.length = size) :
    ∃ cells' : Array Value, cells'.toList = c1 ++ v.cells.toList ++ c3 ∧ Instr.fill place cells ((i, v) :: rest) = Instr.fill place cells' rest := by
  refine ⟨v.cells.zipIdx.foldl (fun cs (c, j) => cs.setIfInBounds (off + j) c) cells, ?_, ?_⟩
  · rw [← Array.foldl_toList, Array.toList_zipIdx]
    exact foldl_fill off v.cells.toList 0 cells c1 c2 c3 hc (by simpa using h1) (by simp [h2, hv])
  · have hs : cells.size = c1.length + c2.length + c3.length := by
      have := congrArg List.length hc
      simpa [Nat.add_assoc] using this
    have : ¬ (v.cells.size ≠ size ∨ off + v.cells.size > cells.size) := by omega
    simp only [Instr.fill, hp]
    rw [if_neg (by simpa using this)]

theorem cells_cellsL (x : Value) : x.cells.toList = cellsL x := by cases x <;> rfl

theorem takes_shape {t : Nat} {v : V} (h : T.takes t v = true) : tagShape T t v ∧ v ≠ .junk := by
  unfold Tab.takes at h
  split at h
  · refine ⟨fits_shape h, ?_⟩
    rintro rfl
    simp [fitV] at h
  · cases v <;> simp [tagOk] at h <;> first
      | exact ⟨Nat.eq_of_beq_eq_true h, by simp⟩
      | exact ⟨h, by simp⟩
theorem takes_fits {t : Nat} {v : V} (h : T.takes t v = true) (hf : T.flat t = true) : fitV T v t = true := by
  unfold Tab.takes at h
  rw [hf] at h
  exact h

theorem rel_relF {X : Rx} {v : V} {x : Value} (h : Rel P T X v x) (hv : v ≠ .junk) : RelF P T X v (cellsL x) := h.elim (fun h => absurd h hv) (·.2)

theorem buildV_ok (hT : TabOk P T) {X : Rx} {σ : Operand → V} {ev : Operand → Value} (hσ : OpRel P T X σ ev) {fs : List Nat} {place : Nat → Option (Nat × Nat)}
    (hpl : ∀ i f, fs[i]? = some f → place i = some (foff P fs i, sz P f)) (hfs : ∀ f ∈ fs, ∃ d, find f T = some d) {K : List V → R β} : ∀ (parts : List (Nat × Operand)) (l : List V) (cells : Array Value),
    RelFs P T X l fs cells.toList → All PP (buildV T fs σ parts l K) →
    ∃ l' cells', All PP (K l') ∧ RelFs P T X l' fs cells'.toList ∧ Instr.fill place cells (parts.map fun p => (p.1, ev p.2)) = some cells' ∧ ((∀ f ∈ fs, T.flat f = true) → fitVs T l fs = true → fitVs T l' fs = true)
  | [], l, cells, hr, h => ⟨l, cells, h, hr, rfl, fun _ h => h⟩
  | (i, x) :: parts, l, cells, hr, h => by
    unfold buildV at h
    cases hi : fs[i]? with
    | none => simp only [hi] at h; exact (all_fail h).elim
    | some f =>
      simp only [hi] at h
      obtain ⟨ht, h⟩ := all_must.1 h
      obtain ⟨hsh, hnj⟩ := takes_shape ht
      obtain ⟨d, hd⟩ := hfs f (List.mem_of_getElem? hi)
      obtain ⟨c1, c2, c3, e1, e2, e3, _, _, e6⟩ := relFs_at l fs cells.toList i f hr hi
      have hx := rel_relF (hσ x) hnj
      have hlen := relF_len hT hd hsh hx
      obtain ⟨cells', g1, g2⟩ := fill_one (rest := parts.map fun p => (p.1, ev p.2)) (hpl i f hi) (v := ev x) (by rw [← Array.length_toList, cells_cellsL, hlen]) e1 e2 e3
      rw [cells_cellsL] at g1
      obtain ⟨l', cells'', k1, k2, k3, k4⟩ := buildV_ok hT hσ hpl hfs parts (l.set i (σ x)) cells' (by rw [g1]; exact e6 _ _ hlen hsh hx) h
      refine ⟨l', cells'', k1, k2, by simp only [List.map_cons]; rw [g2]; exact k3, fun hfl hfit => k4 hfl ?_⟩
      exact (fitVs_at l fs i f hfit hi).2 _ (takes_fits ht (hfl f (List.mem_of_getElem? hi)))

theorem ext_noX (X : Rx) : Ext noX X := ⟨fun r h => absurd h (by simp [noX]), fun b h => h.elim⟩

theorem places_some : ∀ (fields : List Field), (∀ f ∈ fields, ∃ i, P.info? f.type = some i) →
    fields.mapM (fun f => (P.info? f.type).map fun i => (f.offset, i.size)) = some (fields.map fun f => (f.offset, P.cellsOf f.type))
  | [], _ => rfl
  | f :: fs, h => by
    obtain ⟨i, hi⟩ := h f (by simp)
    have := places_some fs (fun g hg => h g (by simp [hg]))
    simp [List.mapM_cons, hi, this, Program.cellsOf]

theorem build_ok (hT : TabOk P T) {X : Rx} {σ : Operand → V} {ev : Operand → Value} (hσ : OpRel P T X σ ev) {t : Nat} {parts : Array (Nat × Operand)} {K : V → R β}
    (h : All PP (match find t T, T.zero t with
    | some (.st fs), .nd _ l => buildV T fs σ parts.toList l fun l => K (.nd t l)
    | some (.ar n e), .arr _ _ f => match n with
      | 5 => match T.flat e with
        | true => buildV T [e, e, e, e, e] σ parts.toList [f 0, f 1, f 2, f 3, f 4] fun l => K (.arr t 5 fun i => l.getD i (T.zero e))
        | false => .fail
      | _ => match parts.toList with | [] => K (.arr t n f) | _ => .fail
    | _, _ => .fail)) : Yields P T PP X K (Instr.build t (parts.map fun (i, x) => (i, ev x))) := by
  have hrun : ∀ {cells : Array Value}, P.built t (parts.toList.map fun p => (p.1, ev p.2)) = some cells → (Instr.build t (parts.map fun (i, x) => (i, ev x))).run P X.w = .ok (.agg cells) X.w := by
    intro cells hb
    refine run_build X.w t _ cells ?_
    rw [Array.toList_map]
    exact hb
  split at h
  · rename_i fs u l hi hz
    have hF := hT t _ hi
    obtain ⟨uu, hu, hud⟩ := hF.und
    cases uu <;> simp only [Und] at hud
    rename_i fields
    obtain ⟨it, z, hinfo, hzz, h1, h2, h3⟩ := hF.info
    rw [hz] at h1 h2 h3
    obtain ⟨zc, rfl⟩ := h1
    have hut : u = t := h3
    subst hut
    have h2 := relF_mono (ext_noX X) h2
    simp only [cellsL, RelF] at h2
    obtain ⟨fs', hfs', h2⟩ := h2
    rw [hi] at hfs'; cases hfs'
    have hall : ∀ f ∈ fields.toList, ∃ i, P.info? f.type = some i := by
      intro f hf
      obtain ⟨d, hd⟩ := hF.size.2 f.type (by rw [← hud.1]; exact List.mem_map_of_mem hf)
      obtain ⟨i, _, hi, _⟩ := (hT _ _ hd).info
      exact ⟨i, hi⟩
    have hpl : ∀ i f, fs[i]? = some f → ((fields.toList.map fun f => (f.offset, P.cellsOf f.type)).toArray[i]? : Option (Nat × Nat)) = some (foff P fs i, sz P f) := by
      intro i f hif
      rw [← hud.1, List.getElem?_map] at hif
      cases hc : fields.toList[i]? with
      | none => simp [hc] at hif
      | some fd =>
        simp [hc] at hif
        subst hif
        have := (hud.2 i fd (by simpa using hc)).1
        have hc' : fields[i]? = some fd := by simpa using hc
        simp [hc', this, sz]
    obtain ⟨l', cells', k1, k2, k3, _⟩ := buildV_ok hT hσ hpl hF.size.2 parts.toList l zc h2 h
    refine ⟨_, .agg cells', k1, rel_nd.2 ⟨cells', rfl, ?_⟩, hrun ?_⟩
    · simp only [RelF]; exact ⟨fs, hi, k2⟩
    · unfold Program.built
      simp only [hinfo, hu, hzz, places_some _ hall]
      exact k3
  · rename_i n e u m f hi hz
    have hF := hT t _ hi
    obtain ⟨uu, hu, hud⟩ := hF.und
    cases uu <;> simp only [Und] at hud
    obtain ⟨rfl, rfl⟩ := hud
    obtain ⟨hsz, ke, hke⟩ := hF.size
    obtain ⟨it, z, hinfo, hzz, h1, h2, h3⟩ := hF.info
    rw [hz] at h1 h2 h3
    obtain ⟨zc, rfl⟩ := h1
    have hut : u = t := h3
    subst hut
    have h2 := relF_mono (ext_noX X) h2
    simp only [cellsL, RelF] at h2
    obtain ⟨e', he', cf, hcf, hel⟩ := h2
    rw [hi] at he'; cases he'
    obtain ⟨ie, ze, hie, _⟩ := (hT _ _ hke).info
    have hie' : ie.size = sz P e := by simp [sz, Program.cellsOf, hie]
    split at h
    · split at h
      · rename_i hfl
        have hr : RelFs P T X [f 0, f 1, f 2, f 3, f 4] [e, e, e, e, e] zc.toList := by
          have e5 : (List.range 5) = [0, 1, 2, 3, 4] := rfl
          rw [e5] at hcf
          simp only [List.flatMap_cons, List.flatMap_nil] at hcf
          have hh : ∀ i, i < 5 → tagShape T e (f i) ∧ (cf i).length = sz P e ∧ RelF P T X (f i) (cf i) := fun i hi => ⟨fits_shape (hel i hi).1, (hel i hi).2⟩
          rw [hcf]
          refine relFs_cons.2 ⟨e, _, _, _, rfl, rfl, (hh 0 (by omega)).1, (hh 0 (by omega)).2.1, (hh 0 (by omega)).2.2, ?_⟩
          refine relFs_cons.2 ⟨e, _, _, _, rfl, rfl, (hh 1 (by omega)).1, (hh 1 (by omega)).2.1, (hh 1 (by omega)).2.2, ?_⟩
          refine relFs_cons.2 ⟨e, _, _, _, rfl, rfl, (hh 2 (by omega)).1, (hh 2 (by omega)).2.1, (hh 2 (by omega)).2.2, ?_⟩
          refine relFs_cons.2 ⟨e, _, _, _, rfl, rfl, (hh 3 (by omega)).1, (hh 3 (by omega)).2.1, (hh 3 (by omega)).2.2, ?_⟩
          refine relFs_cons.2 ⟨e, _, _, _, rfl, rfl, (hh 4 (by omega)).1, (hh 4 (by omega)).2.1, (hh 4 (by omega)).2.2, ?_⟩
          exact relFs_nil.2 ⟨rfl, rfl⟩
        have hz5 : fitVs T [f 0, f 1, f 2, f 3, f 4] [e, e, e, e, e] = true := by
          have hh : ∀ i, i < 5 → fitV T (f i) e = true := fun i hi => (hel i hi).1
          simp [fitVs, hh]
        have hplace : ∀ i g, [e, e, e, e, e][i]? = some g → (fun i => some (i * ie.size, ie.size)) i = some (foff P [e, e, e, e, e] i, sz P g) := by
          intro i g hg
          rcases i with _ | _ | _ | _ | _ | i
          · simp at hg; subst hg; simp [foff, hie']
          · simp at hg; subst hg; simp [foff, hie']
          · simp at hg; subst hg; simp [foff, hie']; omega
          · simp at hg; subst hg; simp [foff, hie']; omega
          · simp at hg; subst hg; simp [foff, hie']; omega
          · simp at hg
        obtain ⟨l', cells', k1, k2, k3, k4⟩ := buildV_ok hT hσ hplace (by intro g hg; simp at hg; subst hg; exact ⟨_, hke⟩) parts.toList _ zc hr h
        have k4 := k4 (by intro g hg; simp at hg; subst hg; exact hfl) hz5
        refine ⟨_, .agg cells', k1, rel_arr.2 ⟨cells', rfl, ?_⟩, hrun ?_⟩
        · simp only [RelF]
          refine ⟨e, hi, ?_⟩
          have hlen := relFs_length k2
          obtain ⟨v0, v1, v2, v3, v4, rfl⟩ : ∃ v0 v1 v2 v3 v4, l' = [v0, v1, v2, v3, v4] := by
            rcases l' with _ | ⟨v0, _ | ⟨v1, _ | ⟨v2, _ | ⟨v3, _ | ⟨v4, _ | ⟨v5, l'⟩⟩⟩⟩⟩⟩ <;> simp at hlen
            exact ⟨_, _, _, _, _, rfl⟩
          obtain ⟨t0, f0, c0, r0, q1, q2, _, q4, q5, q6⟩ := relFs_cons.1 k2
          cases q1
          obtain ⟨t0, f0, c1, r1, q1, q2', _, q4', q5', q6⟩ := relFs_cons.1 q6
          cases q1
          obtain ⟨t0, f0, c2, r2, q1, q2'', _, q4'', q5'', q6⟩ := relFs_cons.1 q6
          cases q1
          obtain ⟨t0, f0, c3, r3, q1, q23, _, q43, q53, q6⟩ := relFs_cons.1 q6
          cases q1
          obtain ⟨t0, f0, c4, r4, q1, q24, _, q44, q54, q6⟩ := relFs_cons.1 q6
          cases q1
          obtain ⟨_, rfl⟩ := relFs_nil.1 q6
          simp only [fitVs] at k4
          refine ⟨fun i => [c0, c1, c2, c3, c4].getD i [], ?_, fun i hi5 => ?_⟩
          · have e5 : (List.range 5) = [0, 1, 2, 3, 4] := rfl
            rw [e5, q2, q2', q2'', q23, q24]
            simp
          · have a0 := (fitVs_at _ _ 0 e (show fitVs T [v0, v1, v2, v3, v4] [e, e, e, e, e] = true by simpa only [fitVs] using k4) rfl).1
            have a1 := (fitVs_at _ _ 1 e (show fitVs T [v0, v1, v2, v3, v4] [e, e, e, e, e] = true by simpa only [fitVs] using k4) rfl).1
            have a2 := (fitVs_at _ _ 2 e (show fitVs T [v0, v1, v2, v3, v4] [e, e, e, e, e] = true by simpa only [fitVs] using k4) rfl).1
            have a3 := (fitVs_at _ _ 3 e (show fitVs T [v0, v1, v2, v3, v4] [e, e, e, e, e] = true by simpa only [fitVs] using k4) rfl).1
            have a4 := (fitVs_at _ _ 4 e (show fitVs T [v0, v1, v2, v3, v4] [e, e, e, e, e] = true by simpa only [fitVs] using k4) rfl).1
            rcases i with _ | _ | _ | _ | _ | i
            · exact ⟨a0, q4, q5⟩
            · exact ⟨a1, q4', q5'⟩
            · exact ⟨a2, q4'', q5''⟩
            · exact ⟨a3, q43, q53⟩
            · exact ⟨a4, q44, q54⟩
            · omega
        · unfold Program.built
          simp only [hinfo, hu, hzz, hie]
          exact k3
      · exact (all_fail h).elim
    · split at h
      · rename_i hp
        refine ⟨_, .agg zc, h, rel_arr.2 ⟨zc, rfl, ?_⟩, hrun ?_⟩
        · simp only [RelF]
          exact ⟨e, hi, cf, hcf, hel⟩
        · unfold Program.built
          simp only [hinfo, hu, hzz, hie, hp]
          rfl
      · exact (all_fail h).elim
  · exact (all_fail h).elim
end
end Go.VM

namespace Go.VM
section
variable {P : Program} {T : Tab} {β : Type} {PP : β → Prop}

def YieldsN (P : Program) (T : Tab) {β : Type} (PP : β → Prop) (X : Rx) (K : V → R β) (s : Sem Next) : Prop :=
  ∃ v x, All PP (K v) ∧ Rel P T X v x ∧ s.run P X.w = .ok (.value x) X.w
theorem Yields.next {X : Rx} {K : V → R β} {s : Sem Value} (h : Yields P T PP X K s) : YieldsN P T PP X K (do pure (.value (← s))) := by
  obtain ⟨v, x, h1, h2, h3⟩ := h
  exact ⟨v, x, h1, h2, by simp [h3]⟩

theorem load_ok (hT : TabOk P T) {X : Rx} (hX : RInv P T X) {t : Nat} {v : V} {x : Value} {K : V → R β} (hv : Rel P T X v x)
    (h : All PP (match (generalizing := false) v with | .ptr r p u => must (Nat.beq u t) (loadR T X.G r p K) | .ref u v => must (Nat.beq u t) (must (T.has u) (K v)) | _ => .fail)) : Yields P T PP X K (Instr.loadAt t x) := by
  cases v with
  | ptr r p u =>
    replace h := all_must.1 h
    obtain ⟨he, h⟩ := h
    have := Nat.eq_of_beq_eq_true he
    subst this
    obtain ⟨a, rfl, hd⟩ := rel_ptr.1 hv
    unfold loadR at h
    rcases hd with ⟨_, hd⟩ | ⟨b, off, hb, hp, rfl⟩
    · unfold Rx.reg at hd
      rw [hd] at h
      exact (all_fail h).elim
    · obtain ⟨d, cs, hd, hc, hl, hm⟩ := ptr_cells hT hX hb hp
      have go : ∀ v', tagShape T u v' → RelF P T X v' cs → All PP (K v') → Yields P T PP X K (Instr.loadAt u (.pointer (some ⟨b, off, none⟩))) := by
        intro v' h1 h2 h3
        obtain ⟨y, hy1, hy2⟩ := loadVar_ok hT hd h1 hl hc h2
        exact ⟨v', y, h3, hy2, by simp [Instr.loadAt, Instr.sureAddr, hy1]⟩
      unfold Rx.reg at hm
      cases hg : X.G.getD r .gone with
      | box t0 v0 => simp only [hg] at hm h; exact go _ hm.1 hm.2 h
      | row e n f =>
        simp only [hg] at hm h
        obtain ⟨i, q, rfl, h1, h2⟩ := hm
        exact go _ h1 h2 h
      | frz e n f =>
        simp only [hg] at hm h
        obtain ⟨i, q, rfl, h1, h2⟩ := hm
        exact go _ h1 h2 h
      | _ => simp only [hg] at h; exact (all_fail h).elim
  | ref u v =>
    replace h := all_must.1 h
    obtain ⟨he, h⟩ := h
    have := Nat.eq_of_beq_eq_true he
    subst this
    obtain ⟨b, o, rfl, hS, hfit, cs, hc, hl, hr⟩ := rel_ref.1 hv
    have hsh := fits_shape hfit
    replace h := all_must.1 h
    obtain ⟨hh, h⟩ := h
    have hd : ∃ d, find u T = some d := by
      unfold Tab.has at hh
      split at hh
      · exact ⟨_, by assumption⟩
      · cases hh
    obtain ⟨d, hd⟩ := hd
    obtain ⟨y, hy1, hy2⟩ := loadVar_ok hT hd hsh hl hc hr
    exact ⟨v, y, h, hy2, by simp [Instr.loadAt, Instr.sureAddr, hy1]⟩
  | _ => exact (all_fail h).elim

theorem relVs_map {X : Rx} {σ : Operand → V} {ev : Operand → Value} (hσ : OpRel P T X σ ev) : ∀ (l : List Operand), RelVs P T X (l.map σ) (l.map ev)
  | [] => relVs_nil.2 rfl
  | o :: l => relVs_cons.2 ⟨_, _, rfl, hσ o, relVs_map hσ l⟩
theorem relVs_get {X : Rx} : ∀ {l : List V} {xs : List Value} {i : Nat} {v : V}, RelVs P T X l xs → l[i]? = some v → ∃ x, xs[i]? = some x ∧ Rel P T X v x
  | [], xs, i, v, h, hi => by simp at hi
  | u :: l, xs, i, v, h, hi => by
    obtain ⟨x, xs', rfl, h1, h2⟩ := relVs_cons.1 h
    cases i with
    | zero => simp at hi; subst hi; exact ⟨x, rfl, h1⟩
    | succ i => simpa using relVs_get h2 (by simpa using hi)

/-- An operation that leaves the regions alone. -/
theorem det_ok (hT : TabOk P T) {X : Rx} (hX : RInv P T X) {σ : Operand → V} {ev : Operand → Value} (hσ : OpRel P T X σ ev) {o : Oper} {K : V → R β}
    (h : All PP (detOp T σ X.G o.op K)) : YieldsN P T PP X K (execOp ev o) := by
  have hop : ∀ (op : Op) (n : Next), True := fun _ _ => trivial
  cases hop : o.op with
  | move x => rw [hop] at h; exact ⟨_, _, h, hσ x, by simp [execOp, hop]⟩
  | assign x => rw [hop] at h; exact ⟨_, _, h, hσ x, by simp [execOp, hop]⟩
  | pick c a b =>
    rw [hop] at h
    simp only [detOp] at h
    split at h
    · rename_i bb hc
      have hx := hσ c
      rw [hc, rel_bool] at hx
      split at h
      · exact ⟨_, _, h, hσ a, by simp [execOp, hop, hx, asBool]⟩
      · exact ⟨_, _, h, hσ b, by simp [execOp, hop, hx, asBool]⟩
    · exact (all_fail h).elim
  | load t a =>
    rw [hop] at h
    have := (load_ok hT hX (hσ a) h).next
    simpa [execOp, hop] using this
  | nilCheck x =>
    rw [hop] at h
    simp only [detOp] at h
    have hx := hσ x
    split at h
    · rename_i r p t hc
      rw [hc] at hx
      obtain ⟨a, ha, _⟩ := rel_ptr.1 hx
      exact ⟨_, _, h, hx, by simp [execOp, hop, ha]⟩
    · rename_i t v hc
      rw [hc] at hx
      obtain ⟨b, o', ha, _⟩ := rel_ref.1 hx
      exact ⟨_, _, h, hx, by simp [execOp, hop, ha]⟩
    · rename_i f l hc
      rw [hc] at hx
      obtain ⟨xs, ha, _⟩ := rel_fn.1 hx
      exact ⟨_, _, h, hx, by simp [execOp, hop, ha]⟩
    · exact (all_fail h).elim
  | binOp op t x y p =>
    rw [hop] at h
    have := (bin_ok hT (hσ x) (hσ y) h).next
    simpa [execOp, hop] using this
  | unOp op t x =>
    rw [hop] at h
    have := (un_ok (hσ x) h).next
    simpa [execOp, hop] using this
  | convert s d x =>
    rw [hop] at h
    simp only [detOp] at h
    have hx := hσ x
    split at h
    · rename_i ds k hs hd
      obtain ⟨us, hus, _⟩ := (hT s _ hs).und
      obtain ⟨ud, hud, hd2⟩ := (hT d _ hd).und
      cases ud <;> simp only [Und] at hd2
      split at h
      · rename_i j n hc
        rw [hc, rel_int] at hx
        subst hd2
        refine ⟨_, _, h, rel_int.2 rfl, ?_⟩
        simp [execOp, hop, hx, convert, run_underlying hus, run_underlying hud, Conv.intToInt, wrapI]
      · exact (all_fail h).elim
    · rename_i ds hs hd
      obtain ⟨us, hus, _⟩ := (hT s _ hs).und
      obtain ⟨ud, hud, hd2⟩ := (hT d _ hd).und
      cases ud <;> simp only [Und] at hd2
      split at h
      · rename_i n hc
        rw [hc, rel_str] at hx
        refine ⟨_, _, h, rel_str.2 rfl, ?_⟩
        simp [execOp, hop, hx, convert, run_underlying hus, run_underlying hud]
      · exact (all_fail h).elim
    · exact (all_fail h).elim
  | makeInterface t x =>
    rw [hop] at h
    simp only [detOp] at h
    have hx := hσ x
    split at h
    · rename_i hi
      obtain ⟨us, hus, hud⟩ := (hT t _ hi).und
      cases us <;> simp only [Und] at hud
      split at h
      · rename_i n hc
        rw [hc, rel_int] at hx
        refine ⟨_, _, h, rel_ei.2 ⟨rfl, fun _ => hi⟩, ?_⟩
        simp [execOp, hop, hx, Instr.makeInterface, run_underlying hus]
      · exact (all_fail h).elim
    · exact (all_fail h).elim
  | makeFunc fn first cap =>
    rw [hop] at h
    simp only [detOp] at h
    split at h
    · rename_i f
      split at h
      · rename_i hf
        have : first = #[] := by simpa using hf
        subst this
        refine ⟨_, _, h, rel_fn.2 ⟨cap.map ev, rfl, ?_⟩, ?_⟩
        · rw [Array.toList_map]; exact relVs_map hσ _
        · simp [execOp, hop, Instr.makeFunc]
      · exact (all_fail h).elim
    · exact (all_fail h).elim
  | slice t x lo hi mx =>
    rw [hop] at h
    have := (slice_ok hT hσ (hσ x) h).next
    simpa [execOp, hop] using this
  | fieldAddr s x f =>
    rw [hop] at h
    simp only [detOp] at h
    split at h
    · rename_i ft hf
      have := (fieldAddr_ok hT (hσ x) hf h).next
      simpa [execOp, hop] using this
    · exact (all_fail h).elim
  | field s x f =>
    rw [hop] at h
    have := (field_ok hT (hσ x) h).next
    simpa [execOp, hop] using this
  | indexAddr t x ix =>
    rw [hop] at h
    have := (indexAddr_ok hT (hσ x) (hσ ix) h).next
    simpa [execOp, hop] using this
  | index t x ix =>
    rw [hop] at h
    have := (index_ok hT (hσ x) (hσ ix) h).next
    simpa [execOp, hop] using this
  | typeAssert x xt t ok =>
    rw [hop] at h
    simp only [detOp] at h
    have hx := hσ x
    split at h
    · split at h
      · rename_i hi
        have hF := hT t _ hi
        obtain ⟨us, hus, hud⟩ := hF.und
        cases us <;> simp only [Und] at hud
        obtain ⟨it, z, hinfo, hzz, h1, h2, h3⟩ := hF.info
        have hz : T.zero t = .int .i64 0 := by simp [Tab.zero, zeroV, hi]
        rw [hz] at h1 h2
        simp only [RelF] at h2
        have hz' : z = .int .i64 0 := by
          cases z <;> simp_all [cellsL, aggOk]
        subst hz'
        have hzr : ∀ w, (zeroValue t).run P w = .ok (.int .i64 0) w := fun w => by simp [zeroValue, run_typeInfo hinfo, hzz]
        have two : ∀ (n : Int) (b : Bool), Rel P T X (.tup [.int .i64 n, .bool b]) (.tuple #[.int .i64 n, .bool b]) := fun n b =>
          rel_tup.2 ⟨_, rfl, relVs_cons.2 ⟨_, _, rfl, rel_int.2 rfl, relVs_cons.2 ⟨_, _, rfl, rel_bool.2 rfl, relVs_nil.2 rfl⟩⟩⟩
        split at h
        · rename_i b u n hc
          rw [hc, rel_ei] at hx
          obtain ⟨hx, _⟩ := hx
          split at h
          · rename_i hb
            have := Nat.eq_of_beq_eq_true hb
            subst this
            refine ⟨_, _, h, two _ _, ?_⟩
            cases b <;> simp [execOp, hop, hx, Instr.typeAssert, run_underlying hus, hzr, iteI]
          · rename_i hb
            have hne : u ≠ t := fun e => by rw [e, Nat.beq_refl] at hb; cases hb
            refine ⟨_, _, h, two _ _, ?_⟩
            cases b <;> simp [execOp, hop, hx, Instr.typeAssert, run_underlying hus, hzr, hne]
        · exact (all_fail h).elim
      · exact (all_fail h).elim
    · exact (all_fail h).elim
  | extract x i =>
    rw [hop] at h
    simp only [detOp] at h
    have hx := hσ x
    split at h
    · rename_i l hc
      rw [hc] at hx
      obtain ⟨xs, ha, hl⟩ := rel_tup.1 hx
      split at h
      · rename_i v hv
        obtain ⟨y, hy1, hy2⟩ := relVs_get hl hv
        refine ⟨_, y, h, hy2, ?_⟩
        have : xs[i]? = some y := by simpa using hy1
        simp [execOp, hop, ha, Instr.extract, this]
      · exact (all_fail h).elim
    · exact (all_fail h).elim
  | build t parts =>
    rw [hop] at h
    have := (build_ok hT hσ h).next
    simpa [execOp, hop] using this
  | call c =>
    rw [hop] at h
    simp only [detOp] at h
    split at h
    · rename_i b hc
      unfold detCall at h
      split at h
      · split at h
        · rename_i x t hx ht
          have hx' : c.args = #[x] := by rw [← Array.toList_inj]; exact hx
          have ht' : c.argTypes = #[t] := by rw [← Array.toList_inj]; exact ht
          obtain ⟨n, h1, h2⟩ := mlen_ok (ty := o.type) hT hX (hσ x) h (len_ok (ty := o.type) hT (hσ x))
          refine ⟨_, _, h1, rel_int.2 rfl, ?_⟩
          have := h2 #[t] rfl
          simp [execOp, hop, resolve, hc, hx', ht', invoke, builtin, this, ofN]
        · exact (all_fail h).elim
      · split at h
        · rename_i x y hx
          have hx' : c.args = #[x, y] := by rw [← Array.toList_inj]; exact hx
          split at h
          · rename_i k a j b ha hb
            have h1 := hσ x
            have h2 := hσ y
            rw [ha, rel_int] at h1
            rw [hb, rel_int] at h2
            refine ⟨_, _, h, rel_int.2 rfl, ?_⟩
            simp [execOp, hop, resolve, hc, hx', invoke, builtin, Builtin.min_, Builtin.min2, h1, h2, minI]
          · exact (all_fail h).elim
        · exact (all_fail h).elim
      · split at h
        · rename_i x y hx
          have hx' : c.args = #[x, y] := by rw [← Array.toList_inj]; exact hx
          split at h
          · rename_i k a j b ha hb
            have h1 := hσ x
            have h2 := hσ y
            rw [ha, rel_int] at h1
            rw [hb, rel_int] at h2
            refine ⟨_, _, h, rel_int.2 rfl, ?_⟩
            simp [execOp, hop, resolve, hc, hx', invoke, builtin, Builtin.max_, Builtin.max2, h1, h2, maxI]
          · exact (all_fail h).elim
        · exact (all_fail h).elim
      · exact (all_fail h).elim
    · exact (all_fail h).elim
  | _ => rw [hop] at h; exact (all_fail h).elim
end
end Go.VM
