/- The lifted layer, part 3: the operations that only compute or read are what the model runs. Conditions: none. -/
import Derived.Test.YtfhifkcbdpgomaaL2
import Derived.IntWalk
namespace Go.Proofs.Ytfhifkcbdpgomaa
set_option linter.unusedSimpArgs false
set_option linter.unusedVariables false
open Go.RowKit

def sizeO (P : Program) (t : TypeId) : Option Nat := (P.info? t).map (·.size)
/-- How a variable of a type is loaded: one cell, or so many cells. -/
def ldK (P : Program) (t : TypeId) : Option (Option Nat) :=
  match P.underlying t, P.info? t with
  | some (.struct _), some i => some (some i.size)
  | some (.array _ _), some i => some (some i.size)
  | some _, some _ => some none
  | _, _ => none
def scalarT (P : Program) (t : TypeId) : Bool :=
  match P.underlying t, P.info? t with
  | some (.int _), some i => i.size == 1
  | some .string, some i => i.size == 1
  | some .bool, some i => i.size == 1
  | _, _ => false
def flatFields (P : Program) : List Field → Nat → Bool
  | [], _ => true
  | f :: r, k => f.offset == k && f.name != "_" && scalarT P f.type && flatFields P r (k + 1)

def placesO (P : Program) : List Field → Option (List (Nat × Nat))
  | [] => some []
  | f :: r => match P.info? f.type, placesO P r with
    | some i, some l => some ((f.offset, i.size) :: l)
    | _, _ => none
def partsO (pl : Nat → Option (Nat × Nat)) : List (Nat × Operand) → Option (List (Nat × Nat × Operand))
  | [] => some []
  | (i, x) :: r => match pl i, partsO pl r with
    | some (o, z), some l => some ((o, z, x) :: l)
    | _, _ => none
def zeroCells (P : Program) (t : TypeId) : Option (List Value) :=
  match P.info? t with
  | some i => match i.zero with
    | some v => if v.cells.all plainV then some v.cells.toList else none
    | none => none
  | none => none

/-- Types of keys that can be looked up. -/
def keyedB (P : Program) (k : TypeId) : Bool :=
  match P.underlying k with
  | some .string => true
  | some (.int _) => true
  | some .bool => true
  | some (.array _ _) => laidOutB P && decide (P.types.size + 2 ≤ 10000) && decide (k < P.types.size) && P.keyType k
  | some (.struct _) => laidOutB P && decide (P.types.size + 2 ≤ 10000) && decide (k < P.types.size) && P.keyType k
  | _ => false
def zeroV (P : Program) (t : TypeId) : Option Value :=
  match P.info? t with
  | some i => match i.zero with
    | some v => if aggOk v then some v else none
    | none => none
  | none => none

def cLen (P : Program) (b : Builtin) (args : List Operand) (tys : List TypeId) : Option LOp :=
  match b, args, tys with
  | .len, [x], [t] => match P.underlying t with
    | some .string => some (.len 0 x)
    | some (.slice _) => some (.len 1 x)
    | some (.map _ _) => some (.len 2 x)
    | _ => none
  | _, _, _ => none

/-- The kinds of a type's cells, where two values of it are compared cell by cell. -/
def eqKsF (P : Program) (g : TypeId → Option (List CK)) : List Field → Nat → Option (List CK)
  | [], _ => some []
  | f :: r, off => match g f.type, eqKsF P g r (off + P.cellsOf f.type), ldK P f.type with
    | some a, some b, some n => if f.offset = off ∧ f.name ≠ "_" ∧ a.length = P.cellsOf f.type ∧ n.getD 1 = a.length then some (a ++ b) else none
    | _, _, _ => none
def eqKs (P : Program) : Nat → TypeId → Option (List CK)
  | 0, _ => none
  | d + 1, t => match P.underlying t with
    | some (.int k) => some [.i k]
    | some .bool => some [.b]
    | some .string => some [.s]
    | some (.struct fs) => if P.stoodInHeld t = false then eqKsF P (eqKs P d) fs.toList 0 else none
    | some (.array n e) => match eqKs P d e, ldK P e with
      | some a, some z => if a.length = P.cellsOf e ∧ z.getD 1 = a.length then some (List.replicate n a).flatten else none
      | _, _ => none
    | _ => none
def aggT (P : Program) (t : TypeId) : Bool :=
  match P.underlying t with
  | some (.struct _) => true
  | some (.array _ _) => true
  | _ => false
def cEq (P : Program) (op : BinOp) (t : TypeId) (x y : Operand) : Option LOp :=
  match op, eqKs P 20 t with
  | .eql, some ks => if aggT P t = true ∧ P.eqGuardType P.depth t = false then some (.eqa false ks x y) else none
  | .neq, some ks => if aggT P t = true ∧ P.eqGuardType P.depth t = false then some (.eqa true ks x y) else none
  | _, _ => none
def isNg (op : BinOp) (x : Operand) (k : IntKind) : Bool :=
  match op, x, k with
  | .sub, .const (.int .i64 n), .i64 => n == 0
  | _, _, _ => false
def cOp (P : Program) : Op → Option LOp
  | .move x => some (.mov x)
  | .assign x => some (.mov x)
  | .pick c a b => some (.pick c a b)
  | .binOp op t x y _ => match P.underlying t with
    | some (.int k) => if isNg op x k = true then some (.ng0 y) else some (.bin op x y)
    | some .string => some (.bin op x y)
    | some .bool => match op with
      | .eql => some (.binb false x y)
      | .neq => some (.binb true x y)
      | _ => none
    | some (.struct _) => cEq P op t x y
    | some (.array _ _) => cEq P op t x y
    | _ => none
  | .unOp op _ x => some (.un op x)
  | .field t x i => match P.underlying t with
    | some (.struct fs) => match fs[i]? with
      | some f => (ldK P f.type).map fun n => .part f.offset n x
      | none => none
    | _ => none
  | .index t x i => match P.underlying t with
    | some .string => some (.idxs x i)
    | some (.array len e) => match ldK P e, sizeO P e with
      | some n, some z' => some (.idxa len z' n x i)
      | _, _ => none
    | _ => none
  | .extract x i => some (.ext x i)
  | .build t parts => match P.underlying t, zeroCells P t with
    | some (.struct fs), some z => match placesO P fs.toList with
      | some pl => (partsO (pl[·]?) parts.toList).map fun l => .bld z l
      | none => none
    | some (.array _ e), some z => match sizeO P e with
      | some n => (partsO (fun i => some (i * n, n)) parts.toList).map fun l => .bld z l
      | none => none
    | _, _ => none
  | .convert a b x => match P.underlying a, P.underlying b with
    | some (.int _), some (.int k) => some (.cvt k x)
    | _, _ => none
  | .call c => match c.callee with
    | .builtin b => cLen P b c.args.toList c.argTypes.toList
    | _ => none
  | .slice t x lo hi none => match P.underlying t with
    | some .string => some (.slcs x lo hi)
    | some (.slice e) => (sizeO P e).map fun z => .slc z x lo hi
    | _ => none
  | .fieldAddr t x i => match P.underlying t with
    | some (.struct fs) => match fs[i]? with
      | some f => match sizeO P f.type with
        | some (_ + 1) => some (.fad f.offset x)
        | _ => none
      | none => none
    | _ => none
  | .indexAddr t x i => match P.underlying t with
    | some (.slice e) => (sizeO P e).map fun z => .iad z x i
    | some (.array len e) => (sizeO P e).map fun z => .iada len z x i
    | _ => none
  | .load t x => (ldK P t).map fun n => .ld n x
  | .makeFunc fn first caps => match fn, first.toList with
    | .func f, [] => some (.mkf f caps.toList)
    | _, _ => none
  | .nilCheck x => some (.nilc x)
  | .lookup t m k ok => match P.underlying t with
    | some (.map kt e) => match zeroV P e with
      | some z => if keyedB P kt then some (.lkp kt z ok m k) else none
      | none => none
    | _ => none
  | _ => none

section
variable {P : Program} {R : RO} {ι : IM} {h : LH} {B : Nat} {w : World} {s : LS} {ρ : Operand → Value}

theorem wrap64_in {x : Int} (hx : In64 x) : IntKind.i64.wrap x = x := IntWalk.i64_in _ hx

theorem op1_ok (hs : ∀ x, Rv R ι h (oev s x) (ρ x)) {g : Bool} (hg : g = true) {x : Operand} (hc : opC g s x) : Rv R ι h (op1 s x) (ρ x) := by
  have := hs x
  unfold op1
  unfold opC at hc
  generalize oev s x = lv at *
  cases lv with
  | cnd g' v => exact this.cnd_inv (hc hg)
  | _ => exact this

theorem arV_ok {k : IntKind} {x : Int} (hc : arC true k x) : Rv R ι h (arV k x) (.int k (k.wrap x)) := by
  cases k <;> first
    | exact .ro (.sc _ rfl)
    | (simp only [arC, arV] at hc ⊢; rw [wrap64_in (hc trivial)]; exact .ro (.sc _ rfl))

theorem rv_sc {v : Value} (hp : plainV v = true) : Rv R ι h (.sc v) v := .ro (.sc _ hp)

theorem int_beq (a b : Int) : (a == b) = decide (a = b) := by
  by_cases e : a = b <;> simp [e]

theorem binI_ok {op : BinOp} {k k' : IntKind} {a b : Int} (hc : binIC true op k k' a b) (t : TypeId) :
    ∃ v, (binOp op t (.int k a) (.int k' b)).run P w = .ok v w ∧ Rv R ι h (binI op k a b) v := by
  cases op
  case add => obtain ⟨rfl, hc⟩ := hc; exact ⟨_, by simp [binOp, Op.intArith], arV_ok hc⟩
  case sub => obtain ⟨rfl, hc⟩ := hc; exact ⟨_, by simp [binOp, Op.intArith], arV_ok hc⟩
  case mul => obtain ⟨rfl, hc⟩ := hc; exact ⟨_, by simp [binOp, Op.intArith], arV_ok hc⟩
  case quo => obtain ⟨rfl, h0, hc⟩ := hc; exact ⟨_, by simp [binOp, Op.intDiv, h0], arV_ok hc⟩
  case rem => obtain ⟨rfl, h0⟩ := hc; exact ⟨_, by simp [binOp, Op.intDiv, h0], rv_sc rfl⟩
  case eql => obtain rfl := hc; exact ⟨.bool (a == b), by simp [binOp, Op.intCmp], by rw [int_beq]; exact rv_sc rfl⟩
  case neq => obtain rfl := hc; exact ⟨.bool (a != b), by simp [binOp, Op.intCmp], by rw [bne, int_beq]; exact rv_sc rfl⟩
  case lss => obtain rfl := hc; exact ⟨_, by simp [binOp, Op.intCmp], rv_sc rfl⟩
  case leq => obtain rfl := hc; exact ⟨_, by simp [binOp, Op.intCmp], rv_sc rfl⟩
  case gtr => obtain rfl := hc; exact ⟨_, by simp [binOp, Op.intCmp], rv_sc rfl⟩
  case geq => obtain rfl := hc; exact ⟨_, by simp [binOp, Op.intCmp], rv_sc rfl⟩
  case and => obtain rfl := hc; exact ⟨_, by simp [binOp, Op.intBits], rv_sc rfl⟩
  case or => obtain rfl := hc; exact ⟨_, by simp [binOp, Op.intBits], rv_sc rfl⟩
  case xor => obtain rfl := hc; exact ⟨_, by simp [binOp, Op.intBits], rv_sc rfl⟩
  case andNot => obtain rfl := hc; exact ⟨_, by simp [binOp, Op.intBits], rv_sc rfl⟩
  case shl =>
    obtain ⟨h0, hc⟩ := hc
    obtain ⟨h1, h2⟩ := h0 rfl
    have h3 : ¬ b < 0 := by omega
    have h4 : min b.toNat k.bits = b.toNat := Nat.min_eq_left h2
    exact ⟨_, by simp [binOp, Op.shift, h3, h4], arV_ok hc⟩
  case shr =>
    obtain ⟨h1, h2⟩ := hc rfl
    have h3 : ¬ b < 0 := by omega
    have h4 : min b.toNat k.bits = b.toNat := Nat.min_eq_left h2
    exact ⟨_, by simp [binOp, Op.shift, h3, h4], rv_sc rfl⟩

theorem ba_eq (a b : ByteArray) : (a.toList == b.toList) = decide (a = b) := by
  rw [ByteArray.toList_eq, ByteArray.toList_eq]
  by_cases e : a = b
  · subst e; simp
  · have hn : ¬ a.data = b.data := by
      intro h
      apply e
      cases a; cases b
      simp at h
      rw [h]
    simp [e, hn]

theorem binS_ok {op : BinOp} {a b : ByteArray} (hc : binSC true op a b) (t : TypeId) :
    ∃ v, (binOp op t (.string a) (.string b)).run P w = .ok v w ∧ Rv R ι h (binS op a b) v := by
  cases op <;> simp only [binSC] at hc
  case add =>
    have := hc trivial
    have hx : ¬ ((a.size + b.size : Nat) : Int) > IntKind.i64.max := by
      simp [IntKind.max, IntKind.signed, IntKind.bits]; omega
    refine ⟨.string (a ++ b), ?_, rv_sc rfl⟩
    simp only [binOp, Op.stringOp]
    rw [if_neg hx]; rfl
  all_goals refine ⟨_, by simp [binOp, Op.stringOp, ba_eq], rv_sc rfl⟩

theorem bin_ok {op : BinOp} {x y : LV} {vx vy : Value} (hx : Rv R ι h x vx) (hy : Rv R ι h y vy) (hc : binC true op x y) (t : TypeId) :
    ∃ v, (binOp op t vx vy).run P w = .ok v w ∧ Rv R ι h (binV op x y) v ∧ (∀ a b, (eqGuard op t a b vx vy).run P w = .ok () w) := by
  unfold binC at hc
  split at hc
  · obtain ⟨rfl, _⟩ := hx.sc_inv
    obtain ⟨rfl, _⟩ := hy.sc_inv
    obtain ⟨v, h1, h2⟩ := binI_ok (P := P) (w := w) (R := R) (ι := ι) (h := h) hc t
    exact ⟨v, h1, h2, fun a b => by unfold eqGuard; cases op <;> simp⟩
  · obtain ⟨rfl, _⟩ := hx.sc_inv
    obtain ⟨rfl, _⟩ := hy.sc_inv
    obtain ⟨v, h1, h2⟩ := binS_ok (P := P) (w := w) (R := R) (ι := ι) (h := h) hc t
    exact ⟨v, h1, h2, fun a b => by unfold eqGuard; cases op <;> simp⟩
  · exact hc.elim

theorem getD_el {α : Type} {l : List α} {d : α} {i : Nat} (h : i < l.length) : l.getD i d = l[i] := by
  rw [List.getD_eq_getElem?_getD, List.getElem?_eq_getElem h]; rfl

theorem add_mk (b o i : Nat) : Addr.add ⟨b, o, none⟩ i = ⟨b, o + i, none⟩ := by
  unfold Addr.add; by_cases h : i = 0 <;> simp [h]

theorem ro_cell (hr : Rep R ι h B w) {b o : Nat} {v : Value} (hc : roCell R b o = some v) : w.cell? ⟨b, o, none⟩ = some v := by
  unfold roCell at hc
  unfold World.cell?
  cases hb : R b with
  | none => rw [hb] at hc; simp at hc
  | some ob =>
    rw [hb] at hc
    simp only [hr.ro b ob hb]
    cases ob <;> simp_all

theorem ldK_none {t : TypeId} (hk : ldK P t = some none) : (isAgg t).run P w = .ok false w := by
  unfold ldK at hk
  simp only [isAgg, underlying, Sem.run_bind, run_program]
  cases hu : P.underlying t with
  | none => rw [hu] at hk; simp at hk
  | some d => rw [hu] at hk; cases d <;> cases hi : P.info? t <;> simp_all
theorem ldK_some {t : TypeId} {m : Nat} (hk : ldK P t = some (some m)) : (isAgg t).run P w = .ok true w ∧ (sizeOf t).run P w = .ok m w := by
  unfold ldK at hk
  simp only [isAgg, underlying, Sem.run_bind, run_program, sizeOf, typeInfo]
  cases hu : P.underlying t with
  | none => rw [hu] at hk; simp at hk
  | some d => rw [hu] at hk; cases d <;> cases hi : P.info? t <;> simp_all

theorem loadCellsFrom_ok (b o : Nat) (g : Nat → Value) : ∀ (n i : Nat) (acc : Array Value), (∀ j, j < n → w.cell? ⟨b, o + (i + j), none⟩ = some (g (i + j))) → acc.size = i → (∀ j, j < i → acc.getD j undef = g j) →
    ∃ vs : Array Value, (loadCellsFrom ⟨b, o, none⟩ i n acc).run P w = .ok vs w ∧ vs.size = i + n ∧ ∀ j, j < i + n → vs.getD j undef = g j := by
  intro n
  induction n with
  | zero => intro i acc _ hs ha; exact ⟨acc, rfl, by omega, fun j hj => ha j (by omega)⟩
  | succ n ih =>
    intro i acc hc hs ha
    have h0 := hc 0 (by omega)
    simp only [Nat.add_zero] at h0
    obtain ⟨vs, h1, h2, h3⟩ := ih (i + 1) (acc.push (g i)) (fun j hj => by
      have := hc (j + 1) (by omega)
      have e : i + 1 + j = i + (j + 1) := by omega
      rw [e]; exact this) (by simp [hs]) (fun j hj => by
      by_cases e : j = i
      · subst e; subst hs; simp [Array.getD]
      · have hj' : j < i := by omega
        have := ha j hj'
        simp only [Array.getD_eq_getD_getElem?] at this ⊢
        rw [Array.getElem?_push, if_neg (by omega)]; exact this)
    refine ⟨vs, ?_, by omega, fun j hj => h3 j (by omega)⟩
    simp only [loadCellsFrom, Sem.run_bind, add_mk, run_load, h0, Result.andThen_ok]
    exact h1

/-- Consecutive cells that stand for a list of lifted cells. -/
def CellsAt (R : RO) (ι : IM) (h : LH) (w : World) (b o : Nat) (cs : List LV) : Prop :=
  ∀ j c, cs[j]? = some c → ∃ v, w.cell? ⟨b, o + j, none⟩ = some v ∧ Rv R ι h c v ∧ plainV v = true

theorem ld_cells {t : TypeId} {n : Option Nat} {cs : List LV} {b o : Nat} (hk : ldK P t = some n) (hp : partC n cs) (hc : CellsAt R ι h w b o cs) :
    ∃ v, (Instr.loadAt t (.pointer (some ⟨b, o, none⟩))).run P w = .ok v w ∧ Rv R ι h (partV n cs) v := by
  cases n with
  | none =>
    simp only [partC] at hp
    obtain ⟨v, h1, h2, _⟩ := hc 0 (cs[0]'(by omega)) (List.getElem?_eq_getElem (by omega))
    refine ⟨v, ?_, ?_⟩
    · simp only [Nat.add_zero] at h1
      simp only [Instr.loadAt, Instr.sureAddr, loadVar, Sem.run_bind, Sem.run_pure, Result.andThen_ok, ldK_none hk, Bool.false_eq_true, if_false, run_load, h1]
    · simp only [partV]
      rw [getD_el (by omega)]; exact h2
  | some m =>
    simp only [partC] at hp
    have hg : ∀ j, ∃ v, j < m → w.cell? ⟨b, o + (0 + j), none⟩ = some v ∧ Rv R ι h (cs.getD j .any) v ∧ plainV v = true := by
      intro j
      by_cases hj : j < m
      · obtain ⟨v, h1, h2, h3⟩ := hc j (cs[j]'(by omega)) (List.getElem?_eq_getElem (by omega))
        exact ⟨v, fun _ => ⟨by rw [Nat.zero_add]; exact h1, by rw [getD_el (by omega)]; exact h2, h3⟩⟩
      · exact ⟨undef, fun h => absurd h hj⟩
    obtain ⟨g, hg⟩ := Classical.axiomOfChoice hg
    obtain ⟨vs, h1, h2, h3⟩ := loadCellsFrom_ok (P := P) (w := w) b o g m 0 #[] (fun j hj => by rw [(hg j hj).1, Nat.zero_add]) rfl (fun j hj => absurd hj (Nat.not_lt_zero _))
    refine ⟨.agg vs, ?_, ?_⟩
    · simp only [Instr.loadAt, Instr.sureAddr, loadVar, Sem.run_bind, Sem.run_pure, Result.andThen_ok, (ldK_some hk).1, (ldK_some hk).2, if_true, loadCells, h1]
    · simp only [partV]
      refine .agg _ _ ?_ ?_ ?_
      · simp; omega
      · intro i c hi
        have him : i < m := by
          have := (List.getElem?_eq_some_iff.1 hi).1
          simp at this; omega
        rw [h3 i (by omega)]
        have := (hg i him).2.1
        rw [getD_el (by omega)] at this
        have e : c = cs[i]'(by omega) := by
          have := (List.getElem?_eq_some_iff.1 hi).2
          rw [← this]; simp
        rw [e]; exact this
      · intro i hi
        rw [h3 i (by omega)]; exact (hg i (by omega)).2.2

theorem part_cells {t : TypeId} {n : Option Nat} {cs : List LV} {vs : Array Value} {off : Nat} (hk : ldK P t = some n) (hp : partC n (cs.drop off)) (hl : vs.size = cs.length)
    (hc : ∀ i c, cs[i]? = some c → Rv R ι h c (vs.getD i undef)) (hpl : ∀ i, i < vs.size → plainV (vs.getD i undef) = true) :
    ∃ v, (part t vs off).run P w = .ok v w ∧ Rv R ι h (partV n (cs.drop off)) v := by
  cases n with
  | none =>
    simp only [partC, List.length_drop] at hp
    have hlt : off < vs.size := by omega
    refine ⟨vs[off], ?_, ?_⟩
    · simp only [part, Sem.run_bind, ldK_none hk, Result.andThen_ok, Bool.false_eq_true, if_false, Array.getElem?_eq_getElem hlt, Sem.run_pure]
    · simp only [partV]
      have := hc off (cs[off]'(by omega)) (List.getElem?_eq_getElem (by omega))
      rw [Array.getD_eq_getD_getElem?, Array.getElem?_eq_getElem hlt] at this
      rw [getD_el (by simp; omega)]
      simpa using this
  | some m =>
    simp only [partC, List.length_drop] at hp
    refine ⟨.agg (vs.extract off (off + m)), ?_, ?_⟩
    · simp only [part, Sem.run_bind, (ldK_some hk).1, (ldK_some hk).2, Result.andThen_ok, if_true, Sem.run_pure]
    · simp only [partV]
      by_cases hm : m = 0
      · subst hm
        refine .agg _ _ (by simp; omega) (fun i c hi => by simp at hi) (fun i hi => by simp at hi; omega)
      have hsz : (vs.extract off (off + m)).size = m := by simp; omega
      have hget : ∀ i, i < m → (vs.extract off (off + m)).getD i undef = vs.getD (off + i) undef := by
        intro i hi
        simp only [Array.getD_eq_getD_getElem?]
        rw [Array.getElem?_extract, if_pos (by omega)]
      refine .agg _ _ (by rw [hsz]; simp; omega) ?_ ?_
      · intro i c hi
        have him : i < m := by
          have := (List.getElem?_eq_some_iff.1 hi).1
          simp at this; omega
        rw [hget i him]
        refine hc (off + i) c ?_
        rw [List.getElem?_take_of_lt him, List.getElem?_drop] at hi
        exact hi
      · intro i hi
        rw [hget i (by omega)]
        exact hpl _ (by omega)

theorem cellsOk_at (hr : Rep R ι h B w) {k ver sz i c : Nat} {x : Value} (hx : Rv R ι h (.ptr k ver sz i c) x) (hver : (h.f k).1 = ver) {n : Option Nat} (hc : ldOC true n sz i c (h.f k).2) :
    ∃ b o cs, x = .pointer (some ⟨b, o, none⟩) ∧ CellsAt R ι h w b o cs ∧ partC n cs ∧ partV n cs = ldO n i c (h.f k).2 := by
  obtain ⟨a, rfl, hk, hle, ha⟩ := hx.ptr_inv
  rw [ha hver.symm]
  clear ha hx
  generalize hob : (h.f k).2 = ob at *
  have hm0 : (ι k).m ≠ 0 ∨ ob.size = 0 := by
    by_cases hm : (ι k).m = 0
    · right
      have := hr.empty k hk (by rw [hob]; cases ob <;> simp_all [ldOC, LO.live]) (by rw [hob]; cases ob <;> simp_all [ldOC, LO.isMap]) hm
      rw [hob] at this; exact this
    · exact .inl hm
  have hcell : ob.size ≠ 0 → CellsOk R ι h w (ι k) ob := by
    intro h0
    have := hr.cells k hk (by rw [hob]; cases ob <;> simp_all [ldOC, LO.live]) (by rw [hob]; cases ob <;> simp_all [ldOC, LO.isMap]) (hm0.resolve_right h0)
    rw [hob] at this; exact this
  have key : ob.size ≠ 0 → ∀ i' c' lv, cellAt ob i' c' = some lv → ∃ v, w.cell? ⟨(ι k).b, (ι k).o + (i' * ob.sz + c'), none⟩ = some v ∧ Rv R ι h lv v ∧ plainV v = true := by
    intro h0 i' c' lv hl
    obtain ⟨cl, e, hw, hsz, _, hp, hcl⟩ := (hcell h0).ex
    obtain ⟨v, hv1, hv2⟩ := hcl i' c' lv hl
    refine ⟨v, ?_, hv2, ?_⟩
    · simp [World.cell?, hw, hv1]
    · have hlt := (Array.getElem?_eq_some_iff.1 hv1).1
      have := hp _ hlt
      rw [Array.getD_eq_getD_getElem?, hv1] at this
      exact this
  cases ob with
  | dead => simp [ldOC] at hc
  | map es => simp [ldOC] at hc
  | box cs =>
    obtain ⟨rfl, rfl, hp⟩ := hc
    refine ⟨_, _, cs.drop c, rfl, ?_, hp, rfl⟩
    intro j x hj
    rw [List.getElem?_drop] at hj
    have h0 : (LO.box cs).size ≠ 0 := by
      have := (List.getElem?_eq_some_iff.1 hj).1
      simp [LO.size]; intro e; subst e; simp at this
    obtain ⟨v, h1, h2, h3⟩ := key h0 0 (c + j) x (by simp [cellAt, hj])
    refine ⟨v, ?_, h2, h3⟩
    rw [← h1]; congr 2; simp only [LO.sz]; omega
  | ints xs =>
    obtain ⟨rfl, rfl, rfl, hlt⟩ := hc
    have hlt := hlt rfl
    refine ⟨_, _, [.sc (.int .i64 (xs.getD i 0))], rfl, ?_, by simp [partC], rfl⟩
    intro j x hj
    cases j with
    | succ j => simp at hj
    | zero =>
      simp at hj; subst hj
      obtain ⟨v, h1, h2, h3⟩ := key (by simp [LO.size]; intro e; subst e; simp at hlt) i 0 (.sc (.int .i64 xs[i])) (by simp [cellAt, hlt])
      refine ⟨v, ?_, by simpa [getD_el hlt, hlt] using h2, h3⟩
      rw [← h1]; congr 2
  | bools xs =>
    obtain ⟨rfl, rfl, rfl, hlt⟩ := hc
    have hlt := hlt rfl
    refine ⟨_, _, [.sc (.bool (xs.getD i false))], rfl, ?_, by simp [partC], rfl⟩
    intro j x hj
    cases j with
    | succ j => simp at hj
    | zero =>
      simp at hj; subst hj
      obtain ⟨v, h1, h2, h3⟩ := key (by simp [LO.size]; intro e; subst e; simp at hlt) i 0 (.sc (.bool xs[i])) (by simp [cellAt, hlt])
      refine ⟨v, ?_, by simpa [getD_el hlt, hlt] using h2, h3⟩
      rw [← h1]; congr 2
  | row sz' m f =>
    obtain ⟨rfl, hcn, hlt⟩ := hc
    obtain ⟨hlt, hfl⟩ := hlt rfl
    refine ⟨_, _, (f i).drop c, rfl, ?_, ?_, rfl⟩
    · intro j x hj
      rw [List.getElem?_drop] at hj
      have hcj : c + j < sz' := by have h9 := (List.getElem?_eq_some_iff.1 hj).1; omega
      obtain ⟨v, h1, h2, h3⟩ := key (Nat.mul_ne_zero (by omega) (by omega)) i (c + j) x (by simp [cellAt, hlt, hcj, hj])
      refine ⟨v, ?_, h2, h3⟩
      rw [← h1]; congr 2; simp only [LO.sz]; omega
    · cases n <;> simp [partC, hfl] at hcn ⊢ <;> omega

end
end Go.Proofs.Ytfhifkcbdpgomaa
