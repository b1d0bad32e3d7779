/- The lifted layer, part 2: operations that only compute or read. Conditions: none. -/
import Derived.Test.YtfhifkcbdpgomaaL1
import Derived.Maps.Keyed
namespace Go.Proofs.Ytfhifkcbdpgomaa
set_option linter.unusedSimpArgs false
set_option linter.unusedVariables false
open Go.RowKit

abbrev LS := Nat → LV
def upd (s : LS) (i : Nat) (v : LV) : LS := fun j => if j = i then v else s j

def liftC1 : Value → LV
  | .slice none 0 0 => .nsl
  | .agg _ => .any
  | .tuple _ => .any
  | v => .sc v
def liftC : Value → LV
  | .agg cs => .agg (cs.toList.map liftC1)
  | .tuple _ => .any
  | v => liftC1 v
def aggOk : Value → Bool
  | .agg cs => cs.all plainV
  | _ => true

def oev (s : LS) : Operand → LV
  | .tmp t => s t
  | .const v => if aggOk v then liftC v else .any
  | .global _ => .any
  | .func f => .fn f []

/-- The kinds of cells that can be compared. -/
inductive CK where
  | i (k : IntKind)
  | b
  | s

inductive LOp where
  | mov (x : Operand)
  | pick (c a b : Operand)
  | bin (op : BinOp) (x y : Operand)
  | binb (neg : Bool) (x y : Operand)
  | un (op : UnOp) (x : Operand)
  | part (off : Nat) (n : Option Nat) (x : Operand)
  | idxs (x i : Operand)
  | idxa (len sz : Nat) (n : Option Nat) (x i : Operand)
  | ext (x : Operand) (i : Nat)
  | bld (zero : List Value) (parts : List (Nat × Nat × Operand))
  | cvt (k : IntKind) (x : Operand)
  | len (kd : Nat) (x : Operand)
  | slc (sz : Nat) (x : Operand) (lo hi : Option Operand)
  | slcs (x : Operand) (lo hi : Option Operand)
  | fad (off : Nat) (x : Operand)
  | iad (sz : Nat) (x i : Operand)
  | iada (len sz : Nat) (x i : Operand)
  | ld (n : Option Nat) (x : Operand)
  | mkf (f : FuncId) (caps : List Operand)
  | nilc (x : Operand)
  | eqa (neg : Bool) (ks : List CK) (x y : Operand)
  | lkp (kt : TypeId) (zero : Value) (ok : Bool) (m k : Operand)
  | ng0 (y : Operand)

def stripV : LV → LV
  | .cnd _ v => v
  | v => v
def stripC (g : Bool) : LV → Prop
  | .cnd g' _ => g = true → g' = true
  | _ => True

def In64 (x : Int) : Prop := -9223372036854775808 ≤ x ∧ x ≤ 9223372036854775807

def arV (k : IntKind) (x : Int) : LV :=
  match k with
  | .i64 => .sc (.int .i64 x)
  | k => .sc (.int k (k.wrap x))
def arC (g : Bool) (k : IntKind) (x : Int) : Prop :=
  match k with
  | .i64 => g = true → In64 x
  | _ => True

def binI (op : BinOp) (k : IntKind) (a b : Int) : LV :=
  match op with
  | .add => arV k (a + b)
  | .sub => arV k (a - b)
  | .mul => arV k (a * b)
  | .quo => arV k (a.tdiv b)
  | .rem => .sc (.int k (a.tmod b))
  | .eql => .sc (.bool (decide (a = b)))
  | .neq => .sc (.bool (!decide (a = b)))
  | .lss => .sc (.bool (decide (a < b)))
  | .leq => .sc (.bool (decide (a ≤ b)))
  | .gtr => .sc (.bool (decide (b < a)))
  | .geq => .sc (.bool (decide (b ≤ a)))
  | .shl => arV k (a * 2 ^ b.toNat)
  | .shr => .sc (.int k (a.fdiv (2 ^ b.toNat)))
  | .and => .sc (.int k (k.wrap ((BitVec.ofInt k.bits a &&& BitVec.ofInt k.bits b).toNat)))
  | .or => .sc (.int k (k.wrap ((BitVec.ofInt k.bits a ||| BitVec.ofInt k.bits b).toNat)))
  | .xor => .sc (.int k (k.wrap ((BitVec.ofInt k.bits a ^^^ BitVec.ofInt k.bits b).toNat)))
  | .andNot => .sc (.int k (k.wrap ((BitVec.ofInt k.bits a &&& ~~~BitVec.ofInt k.bits b).toNat)))
def binIC (g : Bool) (op : BinOp) (k k' : IntKind) (a b : Int) : Prop :=
  match op with
  | .add => k = k' ∧ arC g k (a + b)
  | .sub => k = k' ∧ arC g k (a - b)
  | .mul => k = k' ∧ arC g k (a * b)
  | .quo => k = k' ∧ (g = true → b ≠ 0) ∧ arC g k (a.tdiv b)
  | .rem => k = k' ∧ (g = true → b ≠ 0)
  | .shl => (g = true → 0 ≤ b ∧ b.toNat ≤ k.bits) ∧ arC g k (a * 2 ^ b.toNat)
  | .shr => g = true → 0 ≤ b ∧ b.toNat ≤ k.bits
  | _ => k = k'
def binS (op : BinOp) (a b : ByteArray) : LV :=
  match op with
  | .add => .sc (.string (a ++ b))
  | .eql => .sc (.bool (decide (a = b)))
  | .neq => .sc (.bool (!decide (a = b)))
  | .lss => .sc (.bool (Op.bytesLess a.toList b.toList))
  | .leq => .sc (.bool (Op.bytesLess a.toList b.toList || decide (a = b)))
  | .gtr => .sc (.bool (!(Op.bytesLess a.toList b.toList || decide (a = b))))
  | .geq => .sc (.bool (!Op.bytesLess a.toList b.toList))
  | _ => .any
def binSC (g : Bool) (op : BinOp) (a b : ByteArray) : Prop :=
  match op with
  | .add => g = true → a.size + b.size ≤ 9223372036854775807
  | .eql | .neq | .lss | .leq | .gtr | .geq => True
  | _ => False
def binV (op : BinOp) : LV → LV → LV
  | .sc (.int k a), .sc (.int _ b) => binI op k a b
  | .sc (.string a), .sc (.string b) => binS op a b
  | _, _ => .any
def binC (g : Bool) (op : BinOp) : LV → LV → Prop
  | .sc (.int k a), .sc (.int k' b) => binIC g op k k' a b
  | .sc (.string a), .sc (.string b) => binSC g op a b
  | _, _ => False
def unV (op : UnOp) : LV → LV
  | .sc (.int k a) => match op with
    | .neg => arV k (0 - a)
    | _ => .any
  | .sc (.bool b) => match op with
    | .not => .sc (.bool (!b))
    | _ => .any
  | _ => .any
def unC (g : Bool) (op : UnOp) : LV → Prop
  | .sc (.int k a) => match op with
    | .neg => arC g k (0 - a)
    | _ => False
  | .sc (.bool _) => match op with
    | .not => True
    | _ => False
  | _ => False
def selB (c : Bool) : LV → LV → LV
  | .sc (.bool x), .sc (.bool y) => .sc (.bool (bif c then x else y))
  | a, b => bif c then a else b
def boolOf : LV → Bool
  | .sc (.bool b) => b
  | _ => false
def isBool : LV → Prop
  | .sc (.bool _) => True
  | _ => False
def partV (n : Option Nat) (cs : List LV) : LV :=
  match n with
  | none => cs.getD 0 .any
  | some m => .agg (cs.take m)
def partC (n : Option Nat) (cs : List LV) : Prop :=
  match n with
  | none => 1 ≤ cs.length
  | some m => m ≤ cs.length
def sbyte (s : ByteArray) (i : Nat) : UInt8 := s.data.getD i 0
def intOfV : LV → Int
  | .sc (.int _ i) => i
  | _ => 0
def isInt : LV → Prop
  | .sc (.int _ _) => True
  | _ => False
def idxsV : LV → LV → LV
  | .sc (.string s), .sc (.int _ i) => .sc (.int .u8 ((sbyte s i.toNat).toNat : Int))
  | _, _ => .any
def idxsC (g : Bool) : LV → LV → Prop
  | .sc (.string s), .sc (.int _ i) => g = true → 0 ≤ i ∧ i.toNat < s.size
  | _, _ => False
def idxaV (sz : Nat) (n : Option Nat) : LV → LV → LV
  | .agg cs, .sc (.int _ i) => partV n (cs.drop (i.toNat * sz))
  | _, _ => .any
def idxaC (g : Bool) (len sz : Nat) (n : Option Nat) : LV → LV → Prop
  | .agg cs, .sc (.int _ i) => g = true → (0 ≤ i ∧ i < len) ∧ partC n (cs.drop (i.toNat * sz))
  | _, _ => False
def extV (i : Nat) : LV → LV
  | .tup vs => vs.getD i .any
  | _ => .any
def extC (i : Nat) : LV → Prop
  | .tup vs => i < vs.length
  | _ => False
def setL : List LV → Nat → List LV → List LV
  | cs, _, [] => cs
  | cs, o, x :: r => setL (cs.set o x) (o + 1) r
def fillV : List LV → List (Nat × Nat × LV) → List LV
  | cs, [] => cs
  | cs, (o, _, v) :: r => fillV (setL cs o (flat v)) r
def fillC : Nat → List (Nat × Nat × LV) → Prop
  | _, [] => True
  | len, (o, z, v) :: r => flatOk v = true ∧ (flat v).length = z ∧ o + z ≤ len ∧ fillC len r
def cvtV (k : IntKind) : LV → LV
  | .sc (.int _ i) => arV k i
  | _ => .any
def cvtC (g : Bool) (k : IntKind) : LV → Prop
  | .sc (.int _ i) => arC g k i
  | _ => False
def lenV (h : LH) : LV → LV
  | .rsl _ n _ => .sc (.int .i64 n)
  | .sl _ _ _ _ n => .sc (.int .i64 n)
  | .nsl => .sc (.int .i64 0)
  | .sc (.string s) => .sc (.int .i64 s.size)
  | .mp k _ => match (h.f k).2 with
    | .map es => .sc (.int .i64 es.length)
    | _ => .any
  | .rmp es => .sc (.int .i64 es.length)
  | _ => .any
def lenC (h : LH) (kd : Nat) : LV → Prop
  | .rsl _ _ _ => kd = 1
  | .sl _ _ _ _ _ => kd = 1
  | .nsl => kd = 1
  | .sc (.string _) => kd = 0
  | .mp k ver => kd = 2 ∧ k < h.n ∧ (h.f k).1 = ver ∧ (h.f k).2.isMap = true
  | .rmp _ => kd = 2
  | _ => False
/-- What a length that was taken tells of itself. -/
def lenF : LV → Prop
  | .rsl _ n _ => n ≤ 9223372036854775807
  | .sl _ _ _ _ n => n ≤ 9223372036854775807
  | _ => True
def loOf : Option LV → Int
  | some (.sc (.int _ i)) => i
  | _ => 0
def hiOf (n : Nat) : Option LV → Int
  | some (.sc (.int _ i)) => i
  | _ => n
def bndOk : Option LV → Prop
  | none => True
  | some (.sc (.int _ _)) => True
  | _ => False
def slcsV (lo hi : Option LV) : LV → LV
  | .sc (.string s) => .sc (.string (s.extract (loOf lo).toNat (hiOf s.size hi).toNat))
  | _ => .any
def slcsC (g : Bool) (lo hi : Option LV) : LV → Prop
  | .sc (.string s) => bndOk lo ∧ bndOk hi ∧ (g = true → 0 ≤ loOf lo ∧ loOf lo ≤ hiOf s.size hi ∧ hiOf s.size hi ≤ s.size)
  | _ => False
def slcV (lo hi : Option LV) : LV → LV
  | .rsl sz n f => .rsl sz ((hiOf n hi).toNat - (loOf lo).toNat) (fun i => f ((loOf lo).toNat + i))
  | .sl k ver sz off n => .sl k ver sz (off + (loOf lo).toNat) ((hiOf n hi).toNat - (loOf lo).toNat)
  | _ => .any
def slcC (g : Bool) (sz : Nat) (lo hi : Option LV) : LV → Prop
  | .rsl sz' n _ => sz' = sz ∧ bndOk lo ∧ bndOk hi ∧ (g = true → 0 ≤ loOf lo ∧ loOf lo ≤ hiOf n hi ∧ hiOf n hi ≤ n)
  | .sl _ _ sz' _ n => sz' = sz ∧ bndOk lo ∧ bndOk hi ∧ (g = true → 0 ≤ loOf lo ∧ loOf lo ≤ hiOf n hi ∧ hiOf n hi ≤ n)
  | _ => False
def fadV (off : Nat) : LV → LV
  | .rptr cs => .rptr (cs.drop off)
  | .ptr k ver sz i c => .ptr k ver sz i (c + off)
  | _ => .any
def fadC (off : Nat) : LV → Prop
  | .rptr cs => off ≤ cs.length
  | .ptr _ _ _ _ _ => True
  | _ => False
def iadV : LV → LV → LV
  | .rsl _ _ f, .sc (.int _ i) => .rptr (f i.toNat)
  | .sl k ver sz off _, .sc (.int _ i) => .ptr k ver sz (off + i.toNat) 0
  | _, _ => .any
def iadC (h : LH) (g : Bool) (sz : Nat) : LV → LV → Prop
  | .rsl sz' n _, .sc (.int _ i) => sz' = sz ∧ (g = true → 0 ≤ i ∧ i < n)
  | .sl k ver sz' _ n, .sc (.int _ i) => sz' = sz ∧ k < h.n ∧ (h.f k).1 = ver ∧ (g = true → 0 ≤ i ∧ i < n)
  | _, _ => False
def iadaV (sz : Nat) : LV → LV → LV
  | .rptr cs, .sc (.int _ i) => .rptr (cs.drop (i.toNat * sz))
  | .ptr k ver sz' j c, .sc (.int _ i) => .ptr k ver sz' j (c + i.toNat * sz)
  | _, _ => .any
def iadaC (g : Bool) (len sz : Nat) : LV → LV → Prop
  | .rptr cs, .sc (.int _ i) => g = true → (0 ≤ i ∧ i < len) ∧ i.toNat * sz ≤ cs.length
  | .ptr _ _ _ _ _, .sc (.int _ i) => g = true → 0 ≤ i ∧ i < len
  | _, _ => False
def ldO (n : Option Nat) (i c : Nat) : LO → LV
  | .box cs => partV n (cs.drop c)
  | .ints xs => .sc (.int .i64 (xs.getD i 0))
  | .bools xs => .sc (.bool (xs.getD i false))
  | .row _ _ f => partV n ((f i).drop c)
  | _ => .any
def ldOC (g : Bool) (n : Option Nat) (sz i c : Nat) : LO → Prop
  | .box cs => i = 0 ∧ sz = 0 ∧ partC n (cs.drop c)
  | .ints xs => n = none ∧ c = 0 ∧ sz = 1 ∧ (g = true → i < xs.length)
  | .bools xs => n = none ∧ c = 0 ∧ sz = 1 ∧ (g = true → i < xs.length)
  | .row sz' m f => sz' = sz ∧ c + n.getD 1 ≤ sz ∧ (g = true → i < m ∧ (f i).length = sz)
  | _ => False
def ldV (n : Option Nat) (h : LH) : LV → LV
  | .rptr cs => partV n cs
  | .ptr k _ _ i c => ldO n i c (h.f k).2
  | _ => .any
def ldC (g : Bool) (n : Option Nat) (h : LH) : LV → Prop
  | .rptr cs => g = true → partC n cs
  | .ptr k ver sz i c => k < h.n ∧ (h.f k).1 = ver ∧ ldOC g n sz i c (h.f k).2
  | _ => False
def nilcC : LV → Prop
  | .rptr _ => True
  | .ptr _ _ _ _ _ => True
  | .fn _ _ => True
  | _ => False
def eqCell : LV → LV → Bool
  | .sc (.int _ a), .sc (.int _ b) => decide (a = b)
  | .sc (.string a), .sc (.string b) => decide (a = b)
  | .sc (.bool a), .sc (.bool b) => decide (a = b)
  | _, _ => false
def eqCellC : LV → LV → Prop
  | .sc (.int k _), .sc (.int k' _) => k = k'
  | .sc (.string _), .sc (.string _) => True
  | .sc (.bool _), .sc (.bool _) => True
  | _, _ => False
def eqL : List LV → List LV → Bool
  | [], [] => true
  | x :: xs, y :: ys => eqCell x y && eqL xs ys
  | _, _ => false
def eqLC : List LV → List LV → Prop
  | [], [] => True
  | x :: xs, y :: ys => eqCellC x y ∧ eqLC xs ys
  | _, _ => False
def eqaV (neg : Bool) : LV → LV → LV
  | .agg xs, .agg ys => .sc (.bool (bif neg then !(eqL xs ys) else eqL xs ys))
  | _, _ => .any
def kindL : List CK → List LV → Prop
  | [], [] => True
  | .i k :: r, .sc (.int k' _) :: q => k' = k ∧ kindL r q
  | .b :: r, .sc (.bool _) :: q => kindL r q
  | .s :: r, .sc (.string _) :: q => kindL r q
  | _, _ => False
def eqaC (ks : List CK) : LV → LV → Prop
  | .agg xs, .agg ys => kindL ks xs ∧ kindL ks ys
  | _, _ => False
def binbV (neg : Bool) : LV → LV → LV
  | .sc (.bool x), .sc (.bool y) => .sc (.bool (xor neg (decide (x = y))))
  | _, _ => .any

open Classical in
/-- The first entry at a key. -/
noncomputable def mfind : List (Value × LV) → Value → Option LV
  | [], _ => none
  | (k, v) :: r, x => if k = x then some v else mfind r x
def scV : LV → Value
  | .sc v => v
  | _ => undef
def keyV : LV → Value
  | .sc v => v
  | .agg cs => .agg (cs.map scV).toArray
  | _ => undef
def scalC : List LV → Prop
  | [] => True
  | .sc _ :: r => scalC r
  | _ :: _ => False
def keyC : LV → Prop
  | .sc _ => True
  | .agg cs => scalC cs
  | _ => False
def mapO : LO → List (Value × LV)
  | .map es => es
  | _ => []
def mapE (h : LH) : LV → List (Value × LV)
  | .mp k _ => mapO (h.f k).2
  | .rmp es => es
  | _ => []
def mapLive (h : LH) : LV → Prop
  | .mp k ver => k < h.n ∧ (h.f k).1 = ver ∧ (h.f k).2.isMap = true
  | .rmp _ => True
  | _ => False
noncomputable def lkpV (zero : Value) (ok : Bool) (es : List (Value × LV)) (x : Value) : LV :=
  match ok with
  | true => .tup [(mfind es x).getD (liftC zero), .sc (.bool (mfind es x).isSome)]
  | false => (mfind es x).getD (liftC zero)
/-- Keys that can be looked up. -/
def keysOk (P : Program) (t : TypeId) (es : List (Value × LV)) (x : Value) : Prop := (keyOf P t x).isSome = true ∧ ∀ kv, kv ∈ es → (keyOf P t kv.1).isSome = true

/-- An operand's value, without the mark of a guard. -/
def op1 (s : LS) (x : Operand) : LV := stripV (oev s x)
def opC (g : Bool) (s : LS) (x : Operand) : Prop := stripC g (oev s x)
def opL (s : LS) : List (Nat × Nat × Operand) → List (Nat × Nat × LV)
  | [] => []
  | (o, z, x) :: r => (o, z, op1 s x) :: opL s r
def opLC (g : Bool) (s : LS) : List (Nat × Nat × Operand) → Prop
  | [] => True
  | (_, _, x) :: r => opC g s x ∧ opLC g s r

/-- 0 - a, for the least number too. -/
def ngV : LV → LV
  | .sc (.int .i64 a) => .sc (.int .i64 (IntKind.i64.wrap (0 - a)))
  | _ => .any
def ngC : LV → Prop
  | .sc (.int .i64 _) => True
  | _ => False
noncomputable def pval (s : LS) (h : LH) : LOp → LV
  | .mov x => op1 s x
  | .pick c a b => selB (boolOf (op1 s c)) (op1 s a) (op1 s b)
  | .bin op x y => binV op (op1 s x) (op1 s y)
  | .binb neg x y => binbV neg (op1 s x) (op1 s y)
  | .un op x => unV op (op1 s x)
  | .part off n x => match op1 s x with
    | .agg cs => partV n (cs.drop off)
    | _ => .any
  | .idxs x i => idxsV (op1 s x) (op1 s i)
  | .idxa _ sz n x i => idxaV sz n (op1 s x) (op1 s i)
  | .ext x i => extV i (op1 s x)
  | .bld zero parts => .agg (fillV (zero.map liftC1) (opL s parts))
  | .cvt k x => cvtV k (op1 s x)
  | .len _ x => lenV h (op1 s x)
  | .slc _ x lo hi => slcV (lo.map (op1 s)) (hi.map (op1 s)) (op1 s x)
  | .slcs x lo hi => slcsV (lo.map (op1 s)) (hi.map (op1 s)) (op1 s x)
  | .fad off x => fadV off (op1 s x)
  | .iad _ x i => iadV (op1 s x) (op1 s i)
  | .iada _ sz x i => iadaV sz (op1 s x) (op1 s i)
  | .ld n x => ldV n h (op1 s x)
  | .mkf f caps => .fn f (caps.map (op1 s))
  | .nilc x => op1 s x
  | .eqa neg _ x y => eqaV neg (op1 s x) (op1 s y)
  | .lkp _ zero ok m k => lkpV zero ok (mapE h (op1 s m)) (keyV (op1 s k))
  | .ng0 y => ngV (op1 s y)

def pvc (P : Program) (g : Bool) (s : LS) (h : LH) : LOp → Prop
  | .mov x => opC g s x
  | .pick c a b => opC g s c ∧ isBool (op1 s c) ∧ opC (g && boolOf (op1 s c)) s a ∧ opC (g && !boolOf (op1 s c)) s b
  | .bin op x y => opC g s x ∧ opC g s y ∧ binC g op (op1 s x) (op1 s y)
  | .binb _ x y => opC g s x ∧ opC g s y ∧ isBool (op1 s x) ∧ isBool (op1 s y)
  | .un op x => opC g s x ∧ unC g op (op1 s x)
  | .part off n x => opC g s x ∧ match op1 s x with
    | .agg cs => partC n (cs.drop off)
    | _ => False
  | .idxs x i => opC g s x ∧ opC g s i ∧ idxsC g (op1 s x) (op1 s i)
  | .idxa len sz n x i => opC g s x ∧ opC g s i ∧ idxaC g len sz n (op1 s x) (op1 s i)
  | .ext x i => opC g s x ∧ extC i (op1 s x)
  | .bld zero parts => opLC g s parts ∧ fillC zero.length (opL s parts)
  | .cvt k x => opC g s x ∧ cvtC g k (op1 s x)
  | .len kd x => opC g s x ∧ lenC h kd (op1 s x)
  | .slc sz x lo hi => opC g s x ∧ (∀ y, lo = some y → opC g s y) ∧ (∀ y, hi = some y → opC g s y) ∧ slcC g sz (lo.map (op1 s)) (hi.map (op1 s)) (op1 s x)
  | .slcs x lo hi => opC g s x ∧ (∀ y, lo = some y → opC g s y) ∧ (∀ y, hi = some y → opC g s y) ∧ slcsC g (lo.map (op1 s)) (hi.map (op1 s)) (op1 s x)
  | .fad off x => opC g s x ∧ fadC off (op1 s x)
  | .iad sz x i => opC g s x ∧ opC g s i ∧ iadC h g sz (op1 s x) (op1 s i)
  | .iada len sz x i => opC g s x ∧ opC g s i ∧ iadaC g len sz (op1 s x) (op1 s i)
  | .ld n x => opC g s x ∧ ldC g n h (op1 s x)
  | .mkf _ caps => ∀ x, x ∈ caps → opC g s x
  | .nilc x => opC g s x ∧ nilcC (op1 s x)
  | .eqa _ n x y => opC g s x ∧ opC g s y ∧ eqaC n (op1 s x) (op1 s y)
  | .lkp kt _ _ m k => opC g s m ∧ opC g s k ∧ mapLive h (op1 s m) ∧ keyC (op1 s k) ∧ keysOk P kt (mapE h (op1 s m)) (keyV (op1 s k))
  | .ng0 y => opC g s y ∧ ngC (op1 s y)

/-- A fact that an operation tells of what it found. -/
def pfact (s : LS) : LOp → Prop
  | .len _ x => lenF (op1 s x)
  | _ => True
end Go.Proofs.Ytfhifkcbdpgomaa
