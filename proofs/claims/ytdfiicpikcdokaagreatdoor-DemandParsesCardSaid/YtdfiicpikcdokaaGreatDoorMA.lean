/- The lifted layer, part 0: what a world must hold ahead of a call: the table of the powers of ten, and what the shape of the variables tells: a number and two errors; The lifted layer, part 1: abstract values, abstract heaps, and what a world must hold to stand for them; The lifted layer, part 2: operations that only compute or read; The lifted layer, part 3: the operations that only compute or read are what the model runs; The lifted layer, part 4: every operation that only computes or reads, whole; The lifted layer, part 4e: structs and arrays compared cell by cell; The lifted layer, part 5: the one theorem on operations that only compute or read; The lifted layer, part 6: how the abstract heap changes with the world; The lifted layer, part 7: stores and new objects; The lifted layer, part 8: operations that make or change memory; The lifted layer, part 9: append. Conditions: none. -/
import Derived.Test.YtdfiicpikcdokaaGreatDoorProg
import Derived.WalkKit
import Derived.Lib.LaidTab
import Derived.Lib.ItoaNum
import Derived.Laws.BytesArg
import Derived.Below
import Derived.Maps.Keyed
import Derived.IntWalk
import Derived.Laws.StructEq
import Derived.ChangeKeysEq
import Derived.DeepKeys5
namespace Go.Proofs.YtdfiicpikcdokaaGreatDoor
open Go.RowKit

def IfcAt (w : World) (g : Nat) : Prop := ∃ ev, w.cell? ⟨g, 0, none⟩ = some ev ∧ (ev = .nilIface ∨ ∃ te pe, ev = .iface te pe)
def GX (w : World) : Prop := Lib.TabIs Tryz.prog w "internal/strconv.uint64pow10" .u64 Lib.pow10Tab ∧ (∃ m, w.cell? ⟨1, 0, none⟩ = some (.int .i64 m)) ∧ IfcAt w 4 ∧ IfcAt w 5
theorem cell_ext0 {W w : World} (hw : ∀ (b : Nat) (o : Obj), W.heap[b]? = some o → w.heap[b]? = some o) {g : Nat} {v : Value} (h : W.cell? ⟨g, 0, none⟩ = some v) : w.cell? ⟨g, 0, none⟩ = some v := by
  unfold World.cell? at h ⊢
  cases e : W.heap[g]? with
  | none => simp only [e] at h; simp at h
  | some o => simp only [e] at h; simp only [hw g o e]; exact h
theorem IfcAt.ext {W w : World} (hw : ∀ (b : Nat) (o : Obj), W.heap[b]? = some o → w.heap[b]? = some o) {g : Nat} (h : IfcAt W g) : IfcAt w g := by
  obtain ⟨ev, h1, h2⟩ := h
  exact ⟨ev, cell_ext0 hw h1, h2⟩
theorem GX.ext {W w : World} (hw : ∀ (b : Nat) (o : Obj), W.heap[b]? = some o → w.heap[b]? = some o) (h : GX W) : GX w := by
  obtain ⟨h, ⟨m, hm⟩, h3, h4⟩ := h
  refine ⟨?_, ⟨m, cell_ext0 hw hm⟩, h3.ext hw, h4.ext hw⟩
  unfold Lib.TabIs World.var? at h ⊢
  obtain ⟨g, hg, h3⟩ := Option.bind_eq_some_iff.1 h
  rw [hg]
  simp only [Option.bind_some]
  cases e : W.heap[g]? with
  | none => rw [e] at h3; simp at h3
  | some o => rw [hw g o e]; rw [e] at h3; exact h3
def tailCalls : List Nat := []
end Go.Proofs.YtdfiicpikcdokaaGreatDoor
namespace Go.Proofs.YtdfiicpikcdokaaGreatDoor
set_option linter.unusedSimpArgs false
set_option linter.unusedVariables false
open Go.RowKit

abbrev RO := Nat → Option Obj

inductive LV where
  | any
  | sc (v : Value)
  | nsl
  | agg (cs : List LV)
  | rsl (sz n : Nat) (f : Nat → List LV)
  | rptr (cs : List LV)
  | rmp (es : List (Value × LV))
  | sl (k ver sz off len : Nat)
  | ptr (k ver sz i c : Nat)
  | mp (k ver : Nat)
  | fn (f : FuncId) (caps : List LV)
  | tup (vs : List LV)
  | cnd (g : Bool) (v : LV)
  | ifc (b : Bool)

instance : Inhabited LV := ⟨.any⟩

inductive LO where
  | dead
  | box (cs : List LV)
  | ints (xs : List Int)
  | bools (xs : List Bool)
  | row (sz n : Nat) (f : Nat → List LV)
  | map (es : List (Value × LV))
  | tbox (t : TypeId) (cs : List LV)
  | byt (t : TypeId) (xs : List Int)

structure LH where
  n : Nat
  f : Nat → Nat × LO

def plainV : Value → Bool
  | .agg _ => false
  | .tuple _ => false
  | _ => true

def ifcV : Value → Option Bool
  | .nilIface => some true
  | .iface _ _ => some false
  | _ => none

def roCell (R : RO) (b off : Nat) : Option Value :=
  match R b with
  | some (.cells c _ _) => c[off]?
  | _ => none

inductive Ro (R : RO) : LV → Value → Prop where
  | sc (v : Value) (h : plainV v = true) : Ro R (.sc v) v
  | nsl : Ro R .nsl (.slice none 0 0)
  | agg (cs : List LV) (vs : Array Value) (hl : vs.size = cs.length) (h : ∀ i c, cs[i]? = some c → Ro R c (vs.getD i undef)) (hp : ∀ i, i < vs.size → plainV (vs.getD i undef) = true) : Ro R (.agg cs) (.agg vs)
  | tup (cs : List LV) (vs : Array Value) (hl : vs.size = cs.length) (h : ∀ i c, cs[i]? = some c → Ro R c (vs.getD i undef)) : Ro R (.tup cs) (.tuple vs)
  | rsl (sz n : Nat) (f : Nat → List LV) (a : Option Addr) (cap : Nat) (b o : Nat) (g : Nat → Nat → Value) (hc : n ≤ cap) (hm : cap ≤ maxLen)
      (ha : 0 < n → a = some ⟨b, o, none⟩)
      (hf : ∀ i, i < n → (f i).length = sz) (hcell : ∀ i j, i < n → j < sz → roCell R b (o + i * sz + j) = some (g i j))
      (hv : ∀ i j c, i < n → (f i)[j]? = some c → Ro R c (g i j)) (hp : ∀ i j, i < n → j < sz → plainV (g i j) = true) : Ro R (.rsl sz n f) (.slice a n cap)
  | rptr (cs : List LV) (b o : Nat) (g : Nat → Value) (hcell : ∀ j, j < cs.length → roCell R b (o + j) = some (g j)) (hv : ∀ j c, cs[j]? = some c → Ro R c (g j)) (hp : ∀ j, j < cs.length → plainV (g j) = true) :
      Ro R (.rptr cs) (.pointer (some ⟨b, o, none⟩))
  | fn (f : FuncId) (cs : List LV) (vs : Array Value) (hl : vs.size = cs.length) (h : ∀ i c, cs[i]? = some c → Ro R c (vs.getD i undef)) : Ro R (.fn f cs) (.func (.func f) #[] vs)
  | rmp (es : List (Value × LV)) (b : Nat) (ents : Array MapEntry) (clock : Nat) (hb : R b = some (.map ents clock)) (hl : ents.size = es.length) (hn : (es.map (·.1)).Nodup)
      (hk : ∀ (i : Nat) (kv : Value × LV), es[i]? = some kv → ∃ e : MapEntry, ents[i]? = some e ∧ e.key = kv.1) (hv : ∀ (i : Nat) (kv : Value × LV) (e : MapEntry), es[i]? = some kv → ents[i]? = some e → Ro R kv.2 e.val) : Ro R (.rmp es) (.map (some b))
  | ifc (b : Bool) (v : Value) (h : ifcV v = some b) : Ro R (.ifc b) v

def RoLe (R R' : RO) : Prop := ∀ b o, R b = some o → R' b = some o

theorem roCell_le {R R' : RO} (h : RoLe R R') {b off : Nat} {v : Value} (hc : roCell R b off = some v) : roCell R' b off = some v := by
  unfold roCell at hc ⊢
  cases hb : R b with
  | none => rw [hb] at hc; simp at hc
  | some o => rw [h b o hb]; rw [hb] at hc; exact hc

theorem Ro.mono {R R' : RO} (h : RoLe R R') {lv : LV} {v : Value} (hr : Ro R lv v) : Ro R' lv v := by
  induction hr with
  | sc v hp => exact .sc v hp
  | nsl => exact .nsl
  | agg cs vs hl _ hp ih => exact .agg cs vs hl ih hp
  | tup cs vs hl _ ih => exact .tup cs vs hl ih
  | rsl sz n f a cap b o g hc hm ha hf hcell _ hp ih => exact .rsl sz n f a cap b o g hc hm ha hf (fun i j hi hj => roCell_le h (hcell i j hi hj)) ih hp
  | rptr cs b o g hcell _ hp ih => exact .rptr cs b o g (fun j hj => roCell_le h (hcell j hj)) ih hp
  | fn f cs vs hl _ ih => exact .fn f cs vs hl ih
  | rmp es b ents clock hb hl hn hk _ ih => exact .rmp es b ents clock (h _ _ hb) hl hn hk ih
  | ifc b v hv => exact .ifc b v hv

structure IA where
  b : Nat
  o : Nat
  m : Nat
instance : Inhabited IA := ⟨⟨0, 0, 0⟩⟩
abbrev IM := Nat → IA

inductive Rv (R : RO) (ι : IM) (h : LH) : LV → Value → Prop where
  | any (v : Value) : Rv R ι h .any v
  | ro {lv : LV} {v : Value} (hr : Ro R lv v) : Rv R ι h lv v
  | agg (cs : List LV) (vs : Array Value) (hl : vs.size = cs.length) (hc : ∀ i c, cs[i]? = some c → Rv R ι h c (vs.getD i undef)) (hp : ∀ i, i < vs.size → plainV (vs.getD i undef) = true) : Rv R ι h (.agg cs) (.agg vs)
  | tup (cs : List LV) (vs : Array Value) (hl : vs.size = cs.length) (hc : ∀ i c, cs[i]? = some c → Rv R ι h c (vs.getD i undef)) : Rv R ι h (.tup cs) (.tuple vs)
  | fn (f : FuncId) (cs : List LV) (vs : Array Value) (hl : vs.size = cs.length) (hc : ∀ i c, cs[i]? = some c → Rv R ι h c (vs.getD i undef)) : Rv R ι h (.fn f cs) (.func (.func f) #[] vs)
  | cnd (g : Bool) (lv : LV) (v : Value) (hc : g = true → Rv R ι h lv v) (hu : g = false → v = undef) : Rv R ι h (.cnd g lv) v
  | sl (k ver sz off len : Nat) (a : Option Addr) (cap : Nat) (hk : k < h.n) (hver : ver ≤ (h.f k).1) (hlc : len ≤ cap) (hm : cap ≤ maxLen)
      (hz : cap = 0 ∨ (ver = (h.f k).1 → a = some ⟨(ι k).b, (ι k).o + off * sz, none⟩ ∧ (off + cap) * sz ≤ (ι k).m)) : Rv R ι h (.sl k ver sz off len) (.slice a len cap)
  | ptr (k ver sz i c : Nat) (a : Addr) (hk : k < h.n) (hver : ver ≤ (h.f k).1) (ha : ver = (h.f k).1 → a = ⟨(ι k).b, (ι k).o + (i * sz + c), none⟩) : Rv R ι h (.ptr k ver sz i c) (.pointer (some a))
  | mp (k ver : Nat) (b : Nat) (hk : k < h.n) (hver : ver ≤ (h.f k).1) (hb : ver = (h.f k).1 → b = (ι k).b) : Rv R ι h (.mp k ver) (.map (some b))

def LO.sz : LO → Nat
  | .dead => 0
  | .box _ => 0
  | .ints _ => 1
  | .bools _ => 1
  | .row sz _ _ => sz
  | .map _ => 0
  | .tbox _ _ => 0
  | .byt _ _ => 1

def LO.size : LO → Nat
  | .dead => 0
  | .box cs => cs.length
  | .ints xs => xs.length
  | .bools xs => xs.length
  | .row sz n _ => n * sz
  | .map _ => 0
  | .tbox _ cs => cs.length
  | .byt _ xs => xs.length

def cellAt : LO → Nat → Nat → Option LV
  | .box cs, i, c => if i = 0 then cs[c]? else none
  | .ints xs, i, c => if c = 0 then (xs[i]?).map fun x => .sc (.int .i64 x) else none
  | .bools xs, i, c => if c = 0 then (xs[i]?).map fun x => .sc (.bool x) else none
  | .row sz n f, i, c => if i < n ∧ c < sz then (f i)[c]? else none
  | .tbox _ cs, i, c => if i = 0 then cs[c]? else none
  | .byt _ xs, i, c => if c = 0 then (xs[i]?).map fun x => .sc (.int .u8 x) else none
  | _, _, _ => none

def LO.isMap : LO → Bool
  | .map _ => true
  | _ => false
def LO.live : LO → Bool
  | .dead => false
  | _ => true

structure CellsOk (R : RO) (ι : IM) (h : LH) (w : World) (x : IA) (ob : LO) : Prop where
  ex : ∃ c e, w.heap[x.b]? = some (.cells c e (0, 0)) ∧ c.size = x.o + x.m ∧ ob.size ≤ x.m ∧ (∀ j, j < c.size → plainV (c.getD j undef) = true) ∧
    ∀ i c', ∀ lv, cellAt ob i c' = some lv → ∃ v, c[x.o + (i * ob.sz + c')]? = some v ∧ Rv R ι h lv v

def tyC (w : World) : LO → IA → Prop
  | .tbox t cs, x => x.o = 0 ∧ x.m = cs.length ∧ (x.m ≠ 0 → ∃ c, w.heap[x.b]? = some (.cells c t (0, 0)))
  | .byt t _, x => x.o = 0 ∧ (x.m ≠ 0 → ∃ c, w.heap[x.b]? = some (.cells c t (0, 0)))
  | _, _ => True
theorem tyC.heap {w w' : World} {ob : LO} {x : IA} (h : tyC w ob x) (hb : ob.live = true → x.m ≠ 0 → w'.heap[x.b]? = w.heap[x.b]?) : tyC w' ob x := by
  cases ob with
  | tbox t cs => exact ⟨h.1, h.2.1, fun h0 => by rw [hb rfl h0]; exact h.2.2 h0⟩
  | byt t xs => exact ⟨h.1, fun h0 => by rw [hb rfl h0]; exact h.2 h0⟩
  | _ => trivial

def Gl (R : RO) : Prop := ∀ w : World, (∀ b o, R b = some o → w.heap[b]? = some o) → GX w
theorem Gl.mono {R R' : RO} (g : Gl R) (h : RoLe R R') : Gl R' := fun w hw => g w fun b o hb => hw b o (h b o hb)
theorem Gl.of {R : RO} {W : World} (hR : ∀ b, R b = W.heap[b]?) (g : GX W) : Gl R := fun w hw => GX.ext (fun b o hb => hw b o (by rw [hR]; exact hb)) g
structure Rep (R : RO) (ι : IM) (h : LH) (B : Nat) (w : World) : Prop where
  ro : ∀ b o, R b = some o → w.heap[b]? = some o
  cells : ∀ k, k < h.n → (h.f k).2.live = true → (h.f k).2.isMap = false → (ι k).m ≠ 0 → CellsOk R ι h w (ι k) (h.f k).2
  empty : ∀ k, k < h.n → (h.f k).2.live = true → (h.f k).2.isMap = false → (ι k).m = 0 → (h.f k).2.size = 0
  base : ∀ k, k < h.n → (h.f k).2.live = true → ((ι k).m ≠ 0 ∨ (h.f k).2.isMap = true) → B ≤ (ι k).b ∧ (ι k).b < w.heap.size ∧ R (ι k).b = none
  apart : ∀ k k', k < h.n → k' < h.n → (h.f k).2.live = true → (h.f k').2.live = true → ((ι k).m ≠ 0 ∨ (h.f k).2.isMap = true) → ((ι k').m ≠ 0 ∨ (h.f k').2.isMap = true) → (ι k).b = (ι k').b → k = k'
  maps : ∀ k es, k < h.n → (h.f k).2 = .map es → ∃ ents clock, w.heap[(ι k).b]? = some (.map ents clock) ∧ ents.size = es.length ∧ ((∀ (i : Nat) (e : MapEntry), ents[i]? = some e → e.born < clock) ∧ (es.map (·.1)).Nodup) ∧
    ∀ (i : Nat) (kv : Value × LV), es[i]? = some kv → ∃ e : MapEntry, ents[i]? = some e ∧ e.key = kv.1 ∧ Rv R ι h kv.2 e.val
  ty : ∀ k, k < h.n → tyC w (h.f k).2 (ι k)
  gl : Gl R

structure Mono (R : RO) (ι : IM) (h : LH) (R' : RO) (ι' : IM) (h' : LH) : Prop where
  ro : RoLe R R'
  n : h.n ≤ h'.n
  ver : ∀ k, k < h.n → (h.f k).1 ≤ (h'.f k).1
  same : ∀ k, k < h.n → (h.f k).1 = (h'.f k).1 → ι' k = ι k

theorem Mono.refl (R : RO) (ι : IM) (h : LH) : Mono R ι h R ι h := ⟨fun _ _ h => h, Nat.le_refl _, fun _ _ => Nat.le_refl _, fun _ _ _ => rfl⟩

theorem Mono.trans {R ι h R1 ι1 h1 R2 ι2 h2} (a : Mono R ι h R1 ι1 h1) (b : Mono R1 ι1 h1 R2 ι2 h2) : Mono R ι h R2 ι2 h2 :=
  ⟨fun x o hx => b.ro _ _ (a.ro _ _ hx), Nat.le_trans a.n b.n, fun k hk => Nat.le_trans (a.ver k hk) (b.ver k (Nat.lt_of_lt_of_le hk a.n)), fun k hk he => by
    have h1 := a.ver k hk
    have h2 := b.ver k (Nat.lt_of_lt_of_le hk a.n)
    rw [b.same k (Nat.lt_of_lt_of_le hk a.n) (by omega), a.same k hk (by omega)]⟩

theorem Rv.mono {R ι h R' ι' h'} (m : Mono R ι h R' ι' h') {lv : LV} {v : Value} (hr : Rv R ι h lv v) : Rv R' ι' h' lv v := by
  induction hr with
  | any v => exact .any v
  | ro hr => exact .ro (hr.mono m.ro)
  | agg cs vs hl _ hp ih => exact .agg cs vs hl ih hp
  | tup cs vs hl _ ih => exact .tup cs vs hl ih
  | fn f cs vs hl _ ih => exact .fn f cs vs hl ih
  | cnd g lv v _ hu ih => exact .cnd g lv v ih hu
  | sl k ver sz off len a cap hk hver hlc hm hz =>
    have h1 := m.ver k hk
    refine .sl k ver sz off len a cap (Nat.lt_of_lt_of_le hk m.n) (Nat.le_trans hver h1) hlc hm ?_
    rcases hz with h0 | h0
    · exact .inl h0
    · refine .inr fun e => ?_
      have e2 : ver = (h.f k).1 := by omega
      rw [m.same k hk (by omega)]
      exact h0 e2
  | ptr k ver sz i c a hk hver ha =>
    have h1 := m.ver k hk
    refine .ptr k ver sz i c a (Nat.lt_of_lt_of_le hk m.n) (Nat.le_trans hver h1) fun e => ?_
    rw [m.same k hk (by omega)]
    exact ha (by omega)
  | mp k ver b hk hver hb =>
    have h1 := m.ver k hk
    refine .mp k ver b (Nat.lt_of_lt_of_le hk m.n) (Nat.le_trans hver h1) fun e => ?_
    rw [m.same k hk (by omega)]
    exact hb (by omega)

section inv
variable {R : RO} {ι : IM} {h : LH}
theorem Rv.sc_inv {v x : Value} (hr : Rv R ι h (.sc v) x) : x = v ∧ plainV v = true := by
  cases hr with
  | ro hr => cases hr with
    | sc _ hp => exact ⟨rfl, hp⟩
theorem Rv.nsl_inv {x : Value} (hr : Rv R ι h .nsl x) : x = .slice none 0 0 := by
  cases hr with
  | ro hr => cases hr; rfl
theorem Rv.agg_inv {cs : List LV} {x : Value} (hr : Rv R ι h (.agg cs) x) :
    ∃ vs : Array Value, x = .agg vs ∧ vs.size = cs.length ∧ (∀ i c, cs[i]? = some c → Rv R ι h c (vs.getD i undef)) ∧ ∀ i, i < vs.size → plainV (vs.getD i undef) = true := by
  cases hr with
  | ro hr => cases hr with
    | agg _ vs hl hc hp => exact ⟨vs, rfl, hl, fun i c hi => .ro (hc i c hi), hp⟩
  | agg _ vs hl hc hp => exact ⟨vs, rfl, hl, hc, hp⟩
theorem Rv.tup_inv {cs : List LV} {x : Value} (hr : Rv R ι h (.tup cs) x) :
    ∃ vs : Array Value, x = .tuple vs ∧ vs.size = cs.length ∧ (∀ i c, cs[i]? = some c → Rv R ι h c (vs.getD i undef)) := by
  cases hr with
  | ro hr => cases hr with
    | tup _ vs hl hc => exact ⟨vs, rfl, hl, fun i c hi => .ro (hc i c hi)⟩
  | tup _ vs hl hc => exact ⟨vs, rfl, hl, hc⟩
theorem Rv.fn_inv {f : FuncId} {cs : List LV} {x : Value} (hr : Rv R ι h (.fn f cs) x) :
    ∃ vs : Array Value, x = .func (.func f) #[] vs ∧ vs.size = cs.length ∧ (∀ i c, cs[i]? = some c → Rv R ι h c (vs.getD i undef)) := by
  cases hr with
  | ro hr => cases hr with
    | fn _ _ vs hl hc => exact ⟨vs, rfl, hl, fun i c hi => .ro (hc i c hi)⟩
  | fn _ _ vs hl hc => exact ⟨vs, rfl, hl, hc⟩
theorem Rv.rsl_inv {sz n : Nat} {f : Nat → List LV} {x : Value} (hr : Rv R ι h (.rsl sz n f) x) : Ro R (.rsl sz n f) x := by
  cases hr with
  | ro hr => exact hr
theorem Rv.rptr_inv {cs : List LV} {x : Value} (hr : Rv R ι h (.rptr cs) x) : Ro R (.rptr cs) x := by
  cases hr with
  | ro hr => exact hr
theorem Rv.ifc_inv {b : Bool} {x : Value} (hr : Rv R ι h (.ifc b) x) : ifcV x = some b := by
  cases hr with
  | ro hr => cases hr with
    | ifc _ _ hv => exact hv
theorem Rv.rmp_inv {es : List (Value × LV)} {x : Value} (hr : Rv R ι h (.rmp es) x) : Ro R (.rmp es) x := by
  cases hr with
  | ro hr => exact hr
theorem Rv.sl_inv {k ver sz off len : Nat} {x : Value} (hr : Rv R ι h (.sl k ver sz off len) x) :
    ∃ a cap, x = .slice a len cap ∧ k < h.n ∧ ver ≤ (h.f k).1 ∧ len ≤ cap ∧ cap ≤ maxLen ∧ (cap = 0 ∨ (ver = (h.f k).1 → a = some ⟨(ι k).b, (ι k).o + off * sz, none⟩ ∧ (off + cap) * sz ≤ (ι k).m)) := by
  cases hr with
  | ro hr => cases hr
  | sl _ _ _ _ _ a cap hk hver hlc hm hz => exact ⟨a, cap, rfl, hk, hver, hlc, hm, hz⟩
theorem Rv.ptr_inv {k ver sz i c : Nat} {x : Value} (hr : Rv R ι h (.ptr k ver sz i c) x) :
    ∃ a, x = .pointer (some a) ∧ k < h.n ∧ ver ≤ (h.f k).1 ∧ (ver = (h.f k).1 → a = ⟨(ι k).b, (ι k).o + (i * sz + c), none⟩) := by
  cases hr with
  | ro hr => cases hr
  | ptr _ _ _ _ _ a hk hver ha => exact ⟨a, rfl, hk, hver, ha⟩
theorem Rv.mp_inv {k ver : Nat} {x : Value} (hr : Rv R ι h (.mp k ver) x) :
    ∃ b, x = .map (some b) ∧ k < h.n ∧ ver ≤ (h.f k).1 ∧ (ver = (h.f k).1 → b = (ι k).b) := by
  cases hr with
  | ro hr => cases hr
  | mp _ _ b hk hver hb => exact ⟨b, rfl, hk, hver, hb⟩
theorem Rv.cnd_inv {g : Bool} {lv : LV} {x : Value} (hr : Rv R ι h (.cnd g lv) x) (hg : g = true) : Rv R ι h lv x := by
  cases hr with
  | ro hr => cases hr
  | cnd _ _ _ hc _ => exact hc hg
theorem Rv.cnd_undef {g : Bool} {lv : LV} {x : Value} (hr : Rv R ι h (.cnd g lv) x) (hg : g = false) : x = undef := by
  cases hr with
  | ro hr => cases hr
  | cnd _ _ _ _ hu => exact hu hg
end inv

def isCell : LV → Bool
  | .sc _ => true
  | .nsl => true
  | .rsl _ _ _ => true
  | .rptr _ => true
  | .rmp _ => true
  | .sl _ _ _ _ _ => true
  | .ptr _ _ _ _ _ => true
  | .mp _ _ => true
  | .fn _ _ => true
  | .ifc _ => true
  | _ => false

theorem Rv.plain {R : RO} {ι : IM} {h : LH} {lv : LV} {v : Value} (hr : Rv R ι h lv v) (hc : isCell lv = true) : plainV v = true := by
  cases lv <;> simp [isCell] at hc
  · exact (hr.sc_inv).1 ▸ (hr.sc_inv).2
  · rw [hr.nsl_inv]; rfl
  · cases hr.rsl_inv; rfl
  · cases hr.rptr_inv; rfl
  · cases hr.rmp_inv; rfl
  · obtain ⟨_, _, rfl, _⟩ := hr.sl_inv; rfl
  · obtain ⟨_, rfl, _⟩ := hr.ptr_inv; rfl
  · obtain ⟨_, rfl, _⟩ := hr.mp_inv; rfl
  · obtain ⟨_, rfl, _⟩ := hr.fn_inv; rfl
  · have hv := hr.ifc_inv
    cases v <;> first | rfl | simp [ifcV] at hv

theorem cells_plain {v : Value} (h : plainV v = true) : v.cells = #[v] := by
  cases v <;> simp_all [Value.cells, plainV]

def flat : LV → List LV
  | .agg cs => cs
  | v => [v]
def flatOk : LV → Bool
  | .agg _ => true
  | v => isCell v

theorem Rv.flat {R : RO} {ι : IM} {h : LH} {lv : LV} {v : Value} (hr : Rv R ι h lv v) (hc : flatOk lv = true) :
    v.cells.size = (flat lv).length ∧ (∀ i c, (flat lv)[i]? = some c → Rv R ι h c (v.cells.getD i undef)) ∧ ∀ i, i < v.cells.size → plainV (v.cells.getD i undef) = true := by
  by_cases ha : ∃ cs, lv = .agg cs
  · obtain ⟨cs, rfl⟩ := ha
    obtain ⟨vs, rfl, hl, hcs, hp⟩ := hr.agg_inv
    exact ⟨hl, hcs, hp⟩
  · have hcell : isCell lv = true := by
      cases lv <;> simp_all [flatOk]
    have hf : Go.Proofs.YtdfiicpikcdokaaGreatDoor.flat lv = [lv] := by cases lv <;> simp_all [Go.Proofs.YtdfiicpikcdokaaGreatDoor.flat]
    have hp := hr.plain hcell
    rw [hf, cells_plain hp]
    refine ⟨rfl, fun i c hi => ?_, fun i hi => ?_⟩
    · cases i with
      | zero => simp at hi; subst hi; exact hr
      | succ i => simp at hi
    · have : i = 0 := by simp at hi; omega
      subst this; exact hp

end Go.Proofs.YtdfiicpikcdokaaGreatDoor
namespace Go.Proofs.YtdfiicpikcdokaaGreatDoor
set_option linter.unusedSimpArgs false
set_option linter.unusedVariables false
open Go.RowKit

abbrev LS := Nat → LV
def upd (s : LS) (i : Nat) (v : LV) : LS := fun j => if j = i then v else s j

def liftC1 : Value → LV
  | .slice none 0 0 => .nsl
  | .agg _ => .any
  | .tuple _ => .any
  | v => .sc v
def liftC : Value → LV
  | .agg cs => .agg (cs.toList.map liftC1)
  | .tuple _ => .any
  | v => liftC1 v
def aggOk : Value → Bool
  | .agg cs => cs.all plainV
  | _ => true

def oev (s : LS) : Operand → LV
  | .tmp t => s t
  | .const v => if aggOk v then liftC v else .any
  | .global _ => .any
  | .func f => .fn f []

inductive CK where
  | i (k : IntKind)
  | b
  | s

inductive LOp where
  | mov (x : Operand)
  | pick (c a b : Operand)
  | bin (op : BinOp) (x y : Operand)
  | binb (neg : Bool) (x y : Operand)
  | un (op : UnOp) (x : Operand)
  | part (off : Nat) (n : Option Nat) (x : Operand)
  | idxs (x i : Operand)
  | idxa (len sz : Nat) (n : Option Nat) (x i : Operand)
  | ext (x : Operand) (i : Nat)
  | bld (zero : List Value) (parts : List (Nat × Nat × Operand))
  | cvt (k : IntKind) (x : Operand)
  | len (kd : Nat) (x : Operand)
  | slc (sz : Nat) (x : Operand) (lo hi : Option Operand)
  | slcs (x : Operand) (lo hi : Option Operand)
  | fad (off : Nat) (x : Operand)
  | iad (sz : Nat) (x i : Operand)
  | iada (len sz : Nat) (x i : Operand)
  | ld (n : Option Nat) (x : Operand)
  | mkf (f : FuncId) (caps : List Operand)
  | nilc (x : Operand)
  | eqa (neg : Bool) (ks : List CK) (x y : Operand)
  | lkp (kt : TypeId) (zero : Value) (ok : Bool) (m k : Operand)
  | ng0 (y : Operand)
  | nile (x : Operand)
  | nili (neg : Bool) (x : Operand)
  | b2s (x : Operand)
  | mx (mn : Bool) (x y : Operand)

def stripV : LV → LV
  | .cnd _ v => v
  | v => v
def stripC (g : Bool) : LV → Prop
  | .cnd g' _ => g = true → g' = true
  | _ => True

def In64 (x : Int) : Prop := -9223372036854775808 ≤ x ∧ x ≤ 9223372036854775807

def arV (k : IntKind) (x : Int) : LV :=
  match k with
  | .i64 => .sc (.int .i64 x)
  | k => .sc (.int k (k.wrap x))
def arC (g : Bool) (k : IntKind) (x : Int) : Prop :=
  match k with
  | .i64 => g = true → In64 x
  | _ => True

def binI (op : BinOp) (k : IntKind) (a b : Int) : LV :=
  match op with
  | .add => arV k (a + b)
  | .sub => arV k (a - b)
  | .mul => arV k (a * b)
  | .quo => arV k (a.tdiv b)
  | .rem => .sc (.int k (a.tmod b))
  | .eql => .sc (.bool (decide (a = b)))
  | .neq => .sc (.bool (!decide (a = b)))
  | .lss => .sc (.bool (decide (a < b)))
  | .leq => .sc (.bool (decide (a ≤ b)))
  | .gtr => .sc (.bool (decide (b < a)))
  | .geq => .sc (.bool (decide (b ≤ a)))
  | .shl => arV k (a * 2 ^ b.toNat)
  | .shr => .sc (.int k (a.fdiv (2 ^ b.toNat)))
  | .and => .sc (.int k (k.wrap ((BitVec.ofInt k.bits a &&& BitVec.ofInt k.bits b).toNat)))
  | .or => .sc (.int k (k.wrap ((BitVec.ofInt k.bits a ||| BitVec.ofInt k.bits b).toNat)))
  | .xor => .sc (.int k (k.wrap ((BitVec.ofInt k.bits a ^^^ BitVec.ofInt k.bits b).toNat)))
  | .andNot => .sc (.int k (k.wrap ((BitVec.ofInt k.bits a &&& ~~~BitVec.ofInt k.bits b).toNat)))
def binIC (g : Bool) (op : BinOp) (k k' : IntKind) (a b : Int) : Prop :=
  match op with
  | .add => k = k' ∧ arC g k (a + b)
  | .sub => k = k' ∧ arC g k (a - b)
  | .mul => k = k' ∧ arC g k (a * b)
  | .quo => k = k' ∧ (g = true → b ≠ 0) ∧ arC g k (a.tdiv b)
  | .rem => k = k' ∧ (g = true → b ≠ 0)
  | .shl => (g = true → 0 ≤ b ∧ b.toNat ≤ k.bits) ∧ arC g k (a * 2 ^ b.toNat)
  | .shr => g = true → 0 ≤ b ∧ b.toNat ≤ k.bits
  | _ => k = k'
def binS (op : BinOp) (a b : ByteArray) : LV :=
  match op with
  | .add => .sc (.string (a ++ b))
  | .eql => .sc (.bool (decide (a = b)))
  | .neq => .sc (.bool (!decide (a = b)))
  | .lss => .sc (.bool (Op.bytesLess a.toList b.toList))
  | .leq => .sc (.bool (Op.bytesLess a.toList b.toList || decide (a = b)))
  | .gtr => .sc (.bool (!(Op.bytesLess a.toList b.toList || decide (a = b))))
  | .geq => .sc (.bool (!Op.bytesLess a.toList b.toList))
  | _ => .any
def binSC (g : Bool) (op : BinOp) (a b : ByteArray) : Prop :=
  match op with
  | .add => g = true → a.size + b.size ≤ 9223372036854775807
  | .eql | .neq | .lss | .leq | .gtr | .geq => True
  | _ => False
def binV (op : BinOp) : LV → LV → LV
  | .sc (.int k a), .sc (.int _ b) => binI op k a b
  | .sc (.string a), .sc (.string b) => binS op a b
  | _, _ => .any
def binC (g : Bool) (op : BinOp) : LV → LV → Prop
  | .sc (.int k a), .sc (.int k' b) => binIC g op k k' a b
  | .sc (.string a), .sc (.string b) => binSC g op a b
  | _, _ => False
def unV (op : UnOp) : LV → LV
  | .sc (.int k a) => match op with
    | .neg => arV k (0 - a)
    | _ => .any
  | .sc (.bool b) => match op with
    | .not => .sc (.bool (!b))
    | _ => .any
  | _ => .any
def unC (g : Bool) (op : UnOp) : LV → Prop
  | .sc (.int k a) => match op with
    | .neg => arC g k (0 - a)
    | _ => False
  | .sc (.bool _) => match op with
    | .not => True
    | _ => False
  | _ => False
def selB (c : Bool) : LV → LV → LV
  | .sc (.bool x), .sc (.bool y) => .sc (.bool (bif c then x else y))
  | a, b => bif c then a else b
def boolOf : LV → Bool
  | .sc (.bool b) => b
  | _ => false
def isBool : LV → Prop
  | .sc (.bool _) => True
  | _ => False
def partV (n : Option Nat) (cs : List LV) : LV :=
  match n with
  | none => cs.getD 0 .any
  | some m => .agg (cs.take m)
def partC (n : Option Nat) (cs : List LV) : Prop :=
  match n with
  | none => 1 ≤ cs.length
  | some m => m ≤ cs.length
def sbyte (s : ByteArray) (i : Nat) : UInt8 := s.data.getD i 0
def intOfV : LV → Int
  | .sc (.int _ i) => i
  | _ => 0
def idxsV : LV → LV → LV
  | .sc (.string s), .sc (.int _ i) => .sc (.int .u8 ((sbyte s i.toNat).toNat : Int))
  | _, _ => .any
def idxsC (g : Bool) : LV → LV → Prop
  | .sc (.string s), .sc (.int _ i) => g = true → 0 ≤ i ∧ i.toNat < s.size
  | _, _ => False
def idxaV (sz : Nat) (n : Option Nat) : LV → LV → LV
  | .agg cs, .sc (.int _ i) => partV n (cs.drop (i.toNat * sz))
  | _, _ => .any
def idxaC (g : Bool) (len sz : Nat) (n : Option Nat) : LV → LV → Prop
  | .agg cs, .sc (.int _ i) => g = true → (0 ≤ i ∧ i < len) ∧ partC n (cs.drop (i.toNat * sz))
  | _, _ => False
def extV (i : Nat) : LV → LV
  | .tup vs => vs.getD i .any
  | _ => .any
def extC (i : Nat) : LV → Prop
  | .tup vs => i < vs.length
  | _ => False
def setL : List LV → Nat → List LV → List LV
  | cs, _, [] => cs
  | cs, o, x :: r => setL (cs.set o x) (o + 1) r
def fillV : List LV → List (Nat × Nat × LV) → List LV
  | cs, [] => cs
  | cs, (o, _, v) :: r => fillV (setL cs o (flat v)) r
def fillC : Nat → List (Nat × Nat × LV) → Prop
  | _, [] => True
  | len, (o, z, v) :: r => flatOk v = true ∧ (flat v).length = z ∧ o + z ≤ len ∧ fillC len r
def cvtV (k : IntKind) : LV → LV
  | .sc (.int _ i) => arV k i
  | _ => .any
def cvtC (g : Bool) (k : IntKind) : LV → Prop
  | .sc (.int _ i) => arC g k i
  | _ => False
def lenV (h : LH) : LV → LV
  | .rsl _ n _ => .sc (.int .i64 n)
  | .sl _ _ _ _ n => .sc (.int .i64 n)
  | .nsl => .sc (.int .i64 0)
  | .sc (.string s) => .sc (.int .i64 s.size)
  | .mp k _ => match (h.f k).2 with
    | .map es => .sc (.int .i64 es.length)
    | _ => .any
  | .rmp es => .sc (.int .i64 es.length)
  | _ => .any
def lenC (h : LH) (kd : Nat) : LV → Prop
  | .rsl _ _ _ => kd = 1
  | .sl _ _ _ _ _ => kd = 1
  | .nsl => kd = 1
  | .sc (.string _) => kd = 0
  | .mp k ver => kd = 2 ∧ k < h.n ∧ (h.f k).1 = ver ∧ (h.f k).2.isMap = true
  | .rmp _ => kd = 2
  | _ => False
def lenF : LV → Prop
  | .rsl _ n _ => n ≤ 9223372036854775807
  | .sl _ _ _ _ n => n ≤ 9223372036854775807
  | _ => True
def loOf : Option LV → Int
  | some (.sc (.int _ i)) => i
  | _ => 0
def hiOf (n : Nat) : Option LV → Int
  | some (.sc (.int _ i)) => i
  | _ => n
def bndOk : Option LV → Prop
  | none => True
  | some (.sc (.int _ _)) => True
  | _ => False
def slcsV (lo hi : Option LV) : LV → LV
  | .sc (.string s) => .sc (.string (s.extract (loOf lo).toNat (hiOf s.size hi).toNat))
  | _ => .any
def slcsC (g : Bool) (lo hi : Option LV) : LV → Prop
  | .sc (.string s) => bndOk lo ∧ bndOk hi ∧ (g = true → 0 ≤ loOf lo ∧ loOf lo ≤ hiOf s.size hi ∧ hiOf s.size hi ≤ s.size)
  | _ => False
def slcV (lo hi : Option LV) : LV → LV
  | .rsl sz n f => .rsl sz ((hiOf n hi).toNat - (loOf lo).toNat) (fun i => f ((loOf lo).toNat + i))
  | .sl k ver sz off n => .sl k ver sz (off + (loOf lo).toNat) ((hiOf n hi).toNat - (loOf lo).toNat)
  | _ => .any
def slcC (g : Bool) (sz : Nat) (lo hi : Option LV) : LV → Prop
  | .rsl sz' n _ => sz' = sz ∧ bndOk lo ∧ bndOk hi ∧ (g = true → 0 ≤ loOf lo ∧ loOf lo ≤ hiOf n hi ∧ hiOf n hi ≤ n)
  | .sl _ _ sz' _ n => sz' = sz ∧ bndOk lo ∧ bndOk hi ∧ (g = true → 0 ≤ loOf lo ∧ loOf lo ≤ hiOf n hi ∧ hiOf n hi ≤ n)
  | _ => False
def fadV (off : Nat) : LV → LV
  | .rptr cs => .rptr (cs.drop off)
  | .ptr k ver sz i c => .ptr k ver sz i (c + off)
  | _ => .any
def fadC (off : Nat) : LV → Prop
  | .rptr cs => off ≤ cs.length
  | .ptr _ _ _ _ _ => True
  | _ => False
def iadV : LV → LV → LV
  | .rsl _ _ f, .sc (.int _ i) => .rptr (f i.toNat)
  | .sl k ver sz off _, .sc (.int _ i) => .ptr k ver sz (off + i.toNat) 0
  | _, _ => .any
def iadC (h : LH) (g : Bool) (sz : Nat) : LV → LV → Prop
  | .rsl sz' n _, .sc (.int _ i) => sz' = sz ∧ (g = true → 0 ≤ i ∧ i < n)
  | .sl k ver sz' _ n, .sc (.int _ i) => sz' = sz ∧ k < h.n ∧ (h.f k).1 = ver ∧ (g = true → 0 ≤ i ∧ i < n)
  | _, _ => False
def iadaV (sz : Nat) : LV → LV → LV
  | .rptr cs, .sc (.int _ i) => .rptr (cs.drop (i.toNat * sz))
  | .ptr k ver sz' j c, .sc (.int _ i) => .ptr k ver sz' j (c + i.toNat * sz)
  | _, _ => .any
def iadaC (g : Bool) (len sz : Nat) : LV → LV → Prop
  | .rptr cs, .sc (.int _ i) => g = true → (0 ≤ i ∧ i < len) ∧ i.toNat * sz ≤ cs.length
  | .ptr _ _ _ _ _, .sc (.int _ i) => g = true → 0 ≤ i ∧ i < len
  | _, _ => False
def ldO (n : Option Nat) (i c : Nat) : LO → LV
  | .box cs => partV n (cs.drop c)
  | .ints xs => .sc (.int .i64 (xs.getD i 0))
  | .bools xs => .sc (.bool (xs.getD i false))
  | .row _ _ f => partV n ((f i).drop c)
  | .tbox _ cs => partV n (cs.drop c)
  | _ => .any
def ldOC (g : Bool) (n : Option Nat) (sz i c : Nat) : LO → Prop
  | .box cs => i = 0 ∧ sz = 0 ∧ partC n (cs.drop c)
  | .ints xs => n = none ∧ c = 0 ∧ sz = 1 ∧ (g = true → i < xs.length)
  | .bools xs => n = none ∧ c = 0 ∧ sz = 1 ∧ (g = true → i < xs.length)
  | .row sz' m f => sz' = sz ∧ c + n.getD 1 ≤ sz ∧ (g = true → i < m ∧ (f i).length = sz)
  | .tbox _ cs => i = 0 ∧ sz = 0 ∧ partC n (cs.drop c)
  | _ => False
def ldV (n : Option Nat) (h : LH) : LV → LV
  | .rptr cs => partV n cs
  | .ptr k _ _ i c => ldO n i c (h.f k).2
  | _ => .any
def ldC (g : Bool) (n : Option Nat) (h : LH) : LV → Prop
  | .rptr cs => g = true → partC n cs
  | .ptr k ver sz i c => k < h.n ∧ (h.f k).1 = ver ∧ ldOC g n sz i c (h.f k).2
  | _ => False
def nilcC : LV → Prop
  | .rptr _ => True
  | .ptr _ _ _ _ _ => True
  | .fn _ _ => True
  | _ => False
def eqCell : LV → LV → Bool
  | .sc (.int _ a), .sc (.int _ b) => decide (a = b)
  | .sc (.string a), .sc (.string b) => decide (a = b)
  | .sc (.bool a), .sc (.bool b) => decide (a = b)
  | _, _ => false
def eqL : List LV → List LV → Bool
  | [], [] => true
  | x :: xs, y :: ys => eqCell x y && eqL xs ys
  | _, _ => false
def eqaV (neg : Bool) : LV → LV → LV
  | .agg xs, .agg ys => .sc (.bool (bif neg then !(eqL xs ys) else eqL xs ys))
  | _, _ => .any
def kindL : List CK → List LV → Prop
  | [], [] => True
  | .i k :: r, .sc (.int k' _) :: q => k' = k ∧ kindL r q
  | .b :: r, .sc (.bool _) :: q => kindL r q
  | .s :: r, .sc (.string _) :: q => kindL r q
  | _, _ => False
def eqaC (ks : List CK) : LV → LV → Prop
  | .agg xs, .agg ys => kindL ks xs ∧ kindL ks ys
  | _, _ => False
def binbV (neg : Bool) : LV → LV → LV
  | .sc (.bool x), .sc (.bool y) => .sc (.bool (xor neg (decide (x = y))))
  | _, _ => .any

open Classical in
noncomputable def mfind : List (Value × LV) → Value → Option LV
  | [], _ => none
  | (k, v) :: r, x => if k = x then some v else mfind r x
def scV : LV → Value
  | .sc v => v
  | _ => undef
def keyV : LV → Value
  | .sc v => v
  | .agg cs => .agg (cs.map scV).toArray
  | _ => undef
def scalC : List LV → Prop
  | [] => True
  | .sc _ :: r => scalC r
  | _ :: _ => False
def keyC : LV → Prop
  | .sc _ => True
  | .agg cs => scalC cs
  | _ => False
def mapO : LO → List (Value × LV)
  | .map es => es
  | _ => []
def mapE (h : LH) : LV → List (Value × LV)
  | .mp k _ => mapO (h.f k).2
  | .rmp es => es
  | _ => []
def mapLive (h : LH) : LV → Prop
  | .mp k ver => k < h.n ∧ (h.f k).1 = ver ∧ (h.f k).2.isMap = true
  | .rmp _ => True
  | _ => False
noncomputable def lkpV (zero : Value) (ok : Bool) (es : List (Value × LV)) (x : Value) : LV :=
  match ok with
  | true => .tup [(mfind es x).getD (liftC zero), .sc (.bool (mfind es x).isSome)]
  | false => (mfind es x).getD (liftC zero)
def keysOk (P : Program) (t : TypeId) (es : List (Value × LV)) (x : Value) : Prop := (keyOf P t x).isSome = true ∧ ∀ kv, kv ∈ es → (keyOf P t kv.1).isSome = true

def op1 (s : LS) (x : Operand) : LV := stripV (oev s x)
def opC (g : Bool) (s : LS) (x : Operand) : Prop := stripC g (oev s x)
def opL (s : LS) : List (Nat × Nat × Operand) → List (Nat × Nat × LV)
  | [] => []
  | (o, z, x) :: r => (o, z, op1 s x) :: opL s r
def opLC (g : Bool) (s : LS) : List (Nat × Nat × Operand) → Prop
  | [] => True
  | (_, _, x) :: r => opC g s x ∧ opLC g s r

def ngV : LV → LV
  | .sc (.int .i64 a) => .sc (.int .i64 (IntKind.i64.wrap (0 - a)))
  | _ => .any
def ngC : LV → Prop
  | .sc (.int .i64 _) => True
  | _ => False
def mxV (mn : Bool) : LV → LV → LV
  | .sc (.int k a), .sc (.int _ b) => .sc (.int k (bif mn then (if b < a then b else a) else (if b > a then b else a)))
  | _, _ => .any
def mxC : LV → LV → Prop
  | .sc (.int _ _), .sc (.int _ _) => True
  | _, _ => False
def nileV : LV → LV
  | .nsl => .sc (.bool true)
  | _ => .sc (.bool false)
def nileC (h : LH) : LV → Prop
  | .nsl => True
  | .rsl _ n _ => 0 < n
  | .sl k ver _ _ len => 0 < len ∧ k < h.n ∧ (h.f k).1 = ver
  | _ => False
def niliV (neg : Bool) : LV → LV
  | .ifc b => .sc (.bool (neg ^^ b))
  | .sc .nilIface => .sc (.bool !neg)
  | _ => .any
def niliC : LV → Prop
  | .ifc _ => True
  | .sc .nilIface => True
  | _ => False
def u8Of : LV → Int
  | .sc (.int .u8 x) => x
  | _ => 0
def u8L : List LV → Prop
  | [.sc (.int .u8 _)] => True
  | _ => False
def b2sV : LV → LV
  | .rsl _ n f => .sc (.string (strOfNums ((List.range n).map fun i => u8Of ((f i).getD 0 .any))))
  | _ => .any
def b2sC : LV → Prop
  | .rsl sz n f => sz = 1 ∧ 0 < n ∧ ∀ i, i < n → u8L (f i)
  | _ => False
noncomputable def pval (s : LS) (h : LH) : LOp → LV
  | .mov x => op1 s x
  | .pick c a b => selB (boolOf (op1 s c)) (op1 s a) (op1 s b)
  | .bin op x y => binV op (op1 s x) (op1 s y)
  | .binb neg x y => binbV neg (op1 s x) (op1 s y)
  | .un op x => unV op (op1 s x)
  | .part off n x => match op1 s x with
    | .agg cs => partV n (cs.drop off)
    | _ => .any
  | .idxs x i => idxsV (op1 s x) (op1 s i)
  | .idxa _ sz n x i => idxaV sz n (op1 s x) (op1 s i)
  | .ext x i => extV i (op1 s x)
  | .bld zero parts => .agg (fillV (zero.map liftC1) (opL s parts))
  | .cvt k x => cvtV k (op1 s x)
  | .len _ x => lenV h (op1 s x)
  | .slc _ x lo hi => slcV (lo.map (op1 s)) (hi.map (op1 s)) (op1 s x)
  | .slcs x lo hi => slcsV (lo.map (op1 s)) (hi.map (op1 s)) (op1 s x)
  | .fad off x => fadV off (op1 s x)
  | .iad _ x i => iadV (op1 s x) (op1 s i)
  | .iada _ sz x i => iadaV sz (op1 s x) (op1 s i)
  | .ld n x => ldV n h (op1 s x)
  | .mkf f caps => .fn f (caps.map (op1 s))
  | .nilc x => op1 s x
  | .eqa neg _ x y => eqaV neg (op1 s x) (op1 s y)
  | .lkp _ zero ok m k => lkpV zero ok (mapE h (op1 s m)) (keyV (op1 s k))
  | .ng0 y => ngV (op1 s y)
  | .nile x => nileV (op1 s x)
  | .nili neg x => niliV neg (op1 s x)
  | .b2s x => b2sV (op1 s x)
  | .mx mn x y => mxV mn (op1 s x) (op1 s y)

def pvc (P : Program) (g : Bool) (s : LS) (h : LH) : LOp → Prop
  | .mov x => opC g s x
  | .pick c a b => opC g s c ∧ isBool (op1 s c) ∧ opC (g && boolOf (op1 s c)) s a ∧ opC (g && !boolOf (op1 s c)) s b
  | .bin op x y => opC g s x ∧ opC g s y ∧ binC g op (op1 s x) (op1 s y)
  | .binb _ x y => opC g s x ∧ opC g s y ∧ isBool (op1 s x) ∧ isBool (op1 s y)
  | .un op x => opC g s x ∧ unC g op (op1 s x)
  | .part off n x => opC g s x ∧ match op1 s x with
    | .agg cs => partC n (cs.drop off)
    | _ => False
  | .idxs x i => opC g s x ∧ opC g s i ∧ idxsC g (op1 s x) (op1 s i)
  | .idxa len sz n x i => opC g s x ∧ opC g s i ∧ idxaC g len sz n (op1 s x) (op1 s i)
  | .ext x i => opC g s x ∧ extC i (op1 s x)
  | .bld zero parts => opLC g s parts ∧ fillC zero.length (opL s parts)
  | .cvt k x => opC g s x ∧ cvtC g k (op1 s x)
  | .len kd x => opC g s x ∧ lenC h kd (op1 s x)
  | .slc sz x lo hi => opC g s x ∧ (∀ y, lo = some y → opC g s y) ∧ (∀ y, hi = some y → opC g s y) ∧ slcC g sz (lo.map (op1 s)) (hi.map (op1 s)) (op1 s x)
  | .slcs x lo hi => opC g s x ∧ (∀ y, lo = some y → opC g s y) ∧ (∀ y, hi = some y → opC g s y) ∧ slcsC g (lo.map (op1 s)) (hi.map (op1 s)) (op1 s x)
  | .fad off x => opC g s x ∧ fadC off (op1 s x)
  | .iad sz x i => opC g s x ∧ opC g s i ∧ iadC h g sz (op1 s x) (op1 s i)
  | .iada len sz x i => opC g s x ∧ opC g s i ∧ iadaC g len sz (op1 s x) (op1 s i)
  | .ld n x => opC g s x ∧ ldC g n h (op1 s x)
  | .mkf _ caps => ∀ x, x ∈ caps → opC g s x
  | .nilc x => opC g s x ∧ nilcC (op1 s x)
  | .eqa _ n x y => opC g s x ∧ opC g s y ∧ eqaC n (op1 s x) (op1 s y)
  | .lkp kt _ _ m k => opC g s m ∧ opC g s k ∧ mapLive h (op1 s m) ∧ keyC (op1 s k) ∧ keysOk P kt (mapE h (op1 s m)) (keyV (op1 s k))
  | .ng0 y => opC g s y ∧ ngC (op1 s y)
  | .nile x => opC g s x ∧ nileC h (op1 s x)
  | .nili _ x => opC g s x ∧ niliC (op1 s x)
  | .b2s x => opC g s x ∧ b2sC (op1 s x)
  | .mx _ x y => opC g s x ∧ opC g s y ∧ mxC (op1 s x) (op1 s y)

def pfact (s : LS) : LOp → Prop
  | .len _ x => lenF (op1 s x)
  | _ => True
end Go.Proofs.YtdfiicpikcdokaaGreatDoor
namespace Go.Proofs.YtdfiicpikcdokaaGreatDoor
set_option linter.unusedSimpArgs false
set_option linter.unusedVariables false
open Go.RowKit

def sizeO (P : Program) (t : TypeId) : Option Nat := (P.info? t).map (·.size)
def ldK (P : Program) (t : TypeId) : Option (Option Nat) :=
  match P.underlying t, P.info? t with
  | some (.struct _), some i => some (some i.size)
  | some (.array _ _), some i => some (some i.size)
  | some _, some _ => some none
  | _, _ => none
def placesO (P : Program) : List Field → Option (List (Nat × Nat))
  | [] => some []
  | f :: r => match P.info? f.type, placesO P r with
    | some i, some l => some ((f.offset, i.size) :: l)
    | _, _ => none
def partsO (pl : Nat → Option (Nat × Nat)) : List (Nat × Operand) → Option (List (Nat × Nat × Operand))
  | [] => some []
  | (i, x) :: r => match pl i, partsO pl r with
    | some (o, z), some l => some ((o, z, x) :: l)
    | _, _ => none
def zeroCells (P : Program) (t : TypeId) : Option (List Value) :=
  match P.info? t with
  | some i => match i.zero with
    | some v => if v.cells.all plainV then some v.cells.toList else none
    | none => none
  | none => none

def keyedB (P : Program) (k : TypeId) : Bool :=
  match P.underlying k with
  | some .string => true
  | some (.int _) => true
  | some .bool => true
  | some (.array _ _) => laidOutB P && decide (P.types.size + 2 ≤ 10000) && decide (k < P.types.size) && P.keyType k
  | some (.struct _) => laidOutB P && decide (P.types.size + 2 ≤ 10000) && decide (k < P.types.size) && P.keyType k
  | _ => false
def zeroV (P : Program) (t : TypeId) : Option Value :=
  match P.info? t with
  | some i => match i.zero with
    | some v => if aggOk v then some v else none
    | none => none
  | none => none

def cLen (P : Program) (b : Builtin) (args : List Operand) (tys : List TypeId) : Option LOp :=
  match b, args, tys with
  | .len, [x], [t] => match P.underlying t with
    | some .string => some (.len 0 x)
    | some (.slice _) => some (.len 1 x)
    | some (.map _ _) => some (.len 2 x)
    | _ => none
  | .max, [x, y], _ => some (.mx false x y)
  | .min, [x, y], _ => some (.mx true x y)
  | _, _, _ => none

def eqKsF (P : Program) (g : TypeId → Option (List CK)) : List Field → Nat → Option (List CK)
  | [], _ => some []
  | f :: r, off => match g f.type, eqKsF P g r (off + P.cellsOf f.type), ldK P f.type with
    | some a, some b, some n => if f.offset = off ∧ f.name ≠ "_" ∧ a.length = P.cellsOf f.type ∧ n.getD 1 = a.length then some (a ++ b) else none
    | _, _, _ => none
def eqKs (P : Program) : Nat → TypeId → Option (List CK)
  | 0, _ => none
  | d + 1, t => match P.underlying t with
    | some (.int k) => some [.i k]
    | some .bool => some [.b]
    | some .string => some [.s]
    | some (.struct fs) => if P.stoodInHeld t = false then eqKsF P (eqKs P d) fs.toList 0 else none
    | some (.array n e) => match eqKs P d e, ldK P e with
      | some a, some z => if a.length = P.cellsOf e ∧ z.getD 1 = a.length then some (List.replicate n a).flatten else none
      | _, _ => none
    | _ => none
def aggT (P : Program) (t : TypeId) : Bool :=
  match P.underlying t with
  | some (.struct _) => true
  | some (.array _ _) => true
  | _ => false
def cEq (P : Program) (op : BinOp) (t : TypeId) (x y : Operand) : Option LOp :=
  match op, eqKs P 20 t with
  | .eql, some ks => if aggT P t = true ∧ P.eqGuardType P.depth t = false then some (.eqa false ks x y) else none
  | .neq, some ks => if aggT P t = true ∧ P.eqGuardType P.depth t = false then some (.eqa true ks x y) else none
  | _, _ => none
def isNg (op : BinOp) (x : Operand) (k : IntKind) : Bool :=
  match op, x, k with
  | .sub, .const (.int .i64 n), .i64 => n == 0
  | _, _, _ => false
def isNil (op : BinOp) (y : Operand) : Bool :=
  match op, y with
  | .eql, .const (.slice none 0 0) => true
  | _, _ => false
def isNilI (op : BinOp) (y : Operand) : Option Bool :=
  match op, y with
  | .eql, .const .nilIface => some false
  | .neq, .const .nilIface => some true
  | _, _ => none
def cOp (P : Program) : Op → Option LOp
  | .move x => some (.mov x)
  | .assign x => some (.mov x)
  | .pick c a b => some (.pick c a b)
  | .binOp op t x y _ => match P.underlying t with
    | some (.int k) => if isNg op x k = true then some (.ng0 y) else some (.bin op x y)
    | some .string => some (.bin op x y)
    | some .bool => match op with
      | .eql => some (.binb false x y)
      | .neq => some (.binb true x y)
      | _ => none
    | some (.struct _) => cEq P op t x y
    | some (.array _ _) => cEq P op t x y
    | some (.slice _) => if isNil op y = true then some (.nile x) else none
    | some (.interface _) => match isNilI op y with
      | some neg => some (.nili neg x)
      | none => none
    | _ => none
  | .unOp op _ x => some (.un op x)
  | .field t x i => match P.underlying t with
    | some (.struct fs) => match fs[i]? with
      | some f => (ldK P f.type).map fun n => .part f.offset n x
      | none => none
    | _ => none
  | .index t x i => match P.underlying t with
    | some .string => some (.idxs x i)
    | some (.array len e) => match ldK P e, sizeO P e with
      | some n, some z' => some (.idxa len z' n x i)
      | _, _ => none
    | _ => none
  | .extract x i => some (.ext x i)
  | .build t parts => match P.underlying t, zeroCells P t with
    | some (.struct fs), some z => match placesO P fs.toList with
      | some pl => (partsO (pl[·]?) parts.toList).map fun l => .bld z l
      | none => none
    | some (.array _ e), some z => match sizeO P e with
      | some n => (partsO (fun i => some (i * n, n)) parts.toList).map fun l => .bld z l
      | none => none
    | _, _ => none
  | .convert a b x => match P.underlying a, P.underlying b with
    | some (.int _), some (.int k) => some (.cvt k x)
    | some (.slice e), some .string => match P.underlying e with
      | some (.int .u8) => some (.b2s x)
      | _ => none
    | _, _ => none
  | .call c => match c.callee with
    | .builtin b => cLen P b c.args.toList c.argTypes.toList
    | _ => none
  | .slice t x lo hi none => match P.underlying t with
    | some .string => some (.slcs x lo hi)
    | some (.slice e) => (sizeO P e).map fun z => .slc z x lo hi
    | _ => none
  | .fieldAddr t x i => match P.underlying t with
    | some (.struct fs) => match fs[i]? with
      | some f => match sizeO P f.type with
        | some (_ + 1) => some (.fad f.offset x)
        | _ => none
      | none => none
    | _ => none
  | .indexAddr t x i => match P.underlying t with
    | some (.slice e) => (sizeO P e).map fun z => .iad z x i
    | some (.array len e) => (sizeO P e).map fun z => .iada len z x i
    | _ => none
  | .load t x => (ldK P t).map fun n => .ld n x
  | .makeFunc fn first caps => match fn, first.toList with
    | .func f, [] => some (.mkf f caps.toList)
    | _, _ => none
  | .nilCheck x => some (.nilc x)
  | .lookup t m k ok => match P.underlying t with
    | some (.map kt e) => match zeroV P e with
      | some z => if keyedB P kt then some (.lkp kt z ok m k) else none
      | none => none
    | _ => none
  | _ => none

section
variable {P : Program} {R : RO} {ι : IM} {h : LH} {B : Nat} {w : World} {s : LS} {ρ : Operand → Value}

theorem wrap64_in {x : Int} (hx : In64 x) : IntKind.i64.wrap x = x := IntWalk.i64_in _ hx

theorem op1_ok (hs : ∀ x, Rv R ι h (oev s x) (ρ x)) {g : Bool} (hg : g = true) {x : Operand} (hc : opC g s x) : Rv R ι h (op1 s x) (ρ x) := by
  have := hs x
  unfold op1
  unfold opC at hc
  generalize oev s x = lv at *
  cases lv with
  | cnd g' v => exact this.cnd_inv (hc hg)
  | _ => exact this

theorem arV_ok {k : IntKind} {x : Int} (hc : arC true k x) : Rv R ι h (arV k x) (.int k (k.wrap x)) := by
  cases k <;> first
    | exact .ro (.sc _ rfl)
    | (simp only [arC, arV] at hc ⊢; rw [wrap64_in (hc trivial)]; exact .ro (.sc _ rfl))

theorem rv_sc {v : Value} (hp : plainV v = true) : Rv R ι h (.sc v) v := .ro (.sc _ hp)

theorem int_beq (a b : Int) : (a == b) = decide (a = b) := by
  by_cases e : a = b <;> simp [e]

theorem binI_ok {op : BinOp} {k k' : IntKind} {a b : Int} (hc : binIC true op k k' a b) (t : TypeId) :
    ∃ v, (binOp op t (.int k a) (.int k' b)).run P w = .ok v w ∧ Rv R ι h (binI op k a b) v := by
  cases op
  case add => obtain ⟨rfl, hc⟩ := hc; exact ⟨_, by simp [binOp, Op.intArith], arV_ok hc⟩
  case sub => obtain ⟨rfl, hc⟩ := hc; exact ⟨_, by simp [binOp, Op.intArith], arV_ok hc⟩
  case mul => obtain ⟨rfl, hc⟩ := hc; exact ⟨_, by simp [binOp, Op.intArith], arV_ok hc⟩
  case quo => obtain ⟨rfl, h0, hc⟩ := hc; exact ⟨_, by simp [binOp, Op.intDiv, h0], arV_ok hc⟩
  case rem => obtain ⟨rfl, h0⟩ := hc; exact ⟨_, by simp [binOp, Op.intDiv, h0], rv_sc rfl⟩
  case eql => obtain rfl := hc; exact ⟨.bool (a == b), by simp [binOp, Op.intCmp], by rw [int_beq]; exact rv_sc rfl⟩
  case neq => obtain rfl := hc; exact ⟨.bool (a != b), by simp [binOp, Op.intCmp], by rw [bne, int_beq]; exact rv_sc rfl⟩
  case lss => obtain rfl := hc; exact ⟨_, by simp [binOp, Op.intCmp], rv_sc rfl⟩
  case leq => obtain rfl := hc; exact ⟨_, by simp [binOp, Op.intCmp], rv_sc rfl⟩
  case gtr => obtain rfl := hc; exact ⟨_, by simp [binOp, Op.intCmp], rv_sc rfl⟩
  case geq => obtain rfl := hc; exact ⟨_, by simp [binOp, Op.intCmp], rv_sc rfl⟩
  case and => obtain rfl := hc; exact ⟨_, by simp [binOp, Op.intBits], rv_sc rfl⟩
  case or => obtain rfl := hc; exact ⟨_, by simp [binOp, Op.intBits], rv_sc rfl⟩
  case xor => obtain rfl := hc; exact ⟨_, by simp [binOp, Op.intBits], rv_sc rfl⟩
  case andNot => obtain rfl := hc; exact ⟨_, by simp [binOp, Op.intBits], rv_sc rfl⟩
  case shl =>
    obtain ⟨h0, hc⟩ := hc
    obtain ⟨h1, h2⟩ := h0 rfl
    have h3 : ¬ b < 0 := by omega
    have h4 : min b.toNat k.bits = b.toNat := Nat.min_eq_left h2
    exact ⟨_, by simp [binOp, Op.shift, h3, h4], arV_ok hc⟩
  case shr =>
    obtain ⟨h1, h2⟩ := hc rfl
    have h3 : ¬ b < 0 := by omega
    have h4 : min b.toNat k.bits = b.toNat := Nat.min_eq_left h2
    exact ⟨_, by simp [binOp, Op.shift, h3, h4], rv_sc rfl⟩

theorem ba_eq (a b : ByteArray) : (a.toList == b.toList) = decide (a = b) := by
  rw [ByteArray.toList_eq, ByteArray.toList_eq]
  by_cases e : a = b
  · subst e; simp
  · have hn : ¬ a.data = b.data := by
      intro h
      apply e
      cases a; cases b
      simp at h
      rw [h]
    simp [e, hn]

theorem binS_ok {op : BinOp} {a b : ByteArray} (hc : binSC true op a b) (t : TypeId) :
    ∃ v, (binOp op t (.string a) (.string b)).run P w = .ok v w ∧ Rv R ι h (binS op a b) v := by
  cases op <;> simp only [binSC] at hc
  case add =>
    have := hc trivial
    have hx : ¬ ((a.size + b.size : Nat) : Int) > IntKind.i64.max := by
      simp [IntKind.max, IntKind.signed, IntKind.bits]; omega
    refine ⟨.string (a ++ b), ?_, rv_sc rfl⟩
    simp only [binOp, Op.stringOp]
    rw [if_neg hx]; rfl
  all_goals refine ⟨_, by simp [binOp, Op.stringOp, ba_eq], rv_sc rfl⟩

theorem bin_ok {op : BinOp} {x y : LV} {vx vy : Value} (hx : Rv R ι h x vx) (hy : Rv R ι h y vy) (hc : binC true op x y) (t : TypeId) :
    ∃ v, (binOp op t vx vy).run P w = .ok v w ∧ Rv R ι h (binV op x y) v ∧ (∀ a b, (eqGuard op t a b vx vy).run P w = .ok () w) := by
  unfold binC at hc
  split at hc
  · obtain ⟨rfl, _⟩ := hx.sc_inv
    obtain ⟨rfl, _⟩ := hy.sc_inv
    obtain ⟨v, h1, h2⟩ := binI_ok (P := P) (w := w) (R := R) (ι := ι) (h := h) hc t
    exact ⟨v, h1, h2, fun a b => by unfold eqGuard; cases op <;> simp⟩
  · obtain ⟨rfl, _⟩ := hx.sc_inv
    obtain ⟨rfl, _⟩ := hy.sc_inv
    obtain ⟨v, h1, h2⟩ := binS_ok (P := P) (w := w) (R := R) (ι := ι) (h := h) hc t
    exact ⟨v, h1, h2, fun a b => by unfold eqGuard; cases op <;> simp⟩
  · exact hc.elim

theorem getD_el {α : Type} {l : List α} {d : α} {i : Nat} (h : i < l.length) : l.getD i d = l[i] := by
  rw [List.getD_eq_getElem?_getD, List.getElem?_eq_getElem h]; rfl

theorem add_mk (b o i : Nat) : Addr.add ⟨b, o, none⟩ i = ⟨b, o + i, none⟩ := by
  unfold Addr.add; by_cases h : i = 0 <;> simp [h]

theorem ro_cell (hr : Rep R ι h B w) {b o : Nat} {v : Value} (hc : roCell R b o = some v) : w.cell? ⟨b, o, none⟩ = some v := by
  unfold roCell at hc
  unfold World.cell?
  cases hb : R b with
  | none => rw [hb] at hc; simp at hc
  | some ob =>
    rw [hb] at hc
    simp only [hr.ro b ob hb]
    cases ob <;> simp_all

theorem ldK_none {t : TypeId} (hk : ldK P t = some none) : (isAgg t).run P w = .ok false w := by
  unfold ldK at hk
  simp only [isAgg, underlying, Sem.run_bind, run_program]
  cases hu : P.underlying t with
  | none => rw [hu] at hk; simp at hk
  | some d => rw [hu] at hk; cases d <;> cases hi : P.info? t <;> simp_all
theorem ldK_some {t : TypeId} {m : Nat} (hk : ldK P t = some (some m)) : (isAgg t).run P w = .ok true w ∧ (sizeOf t).run P w = .ok m w := by
  unfold ldK at hk
  simp only [isAgg, underlying, Sem.run_bind, run_program, sizeOf, typeInfo]
  cases hu : P.underlying t with
  | none => rw [hu] at hk; simp at hk
  | some d => rw [hu] at hk; cases d <;> cases hi : P.info? t <;> simp_all

theorem loadCellsFrom_ok (b o : Nat) (g : Nat → Value) : ∀ (n i : Nat) (acc : Array Value), (∀ j, j < n → w.cell? ⟨b, o + (i + j), none⟩ = some (g (i + j))) → acc.size = i → (∀ j, j < i → acc.getD j undef = g j) →
    ∃ vs : Array Value, (loadCellsFrom ⟨b, o, none⟩ i n acc).run P w = .ok vs w ∧ vs.size = i + n ∧ ∀ j, j < i + n → vs.getD j undef = g j := by
  intro n
  induction n with
  | zero => intro i acc _ hs ha; exact ⟨acc, rfl, by omega, fun j hj => ha j (by omega)⟩
  | succ n ih =>
    intro i acc hc hs ha
    have h0 := hc 0 (by omega)
    simp only [Nat.add_zero] at h0
    obtain ⟨vs, h1, h2, h3⟩ := ih (i + 1) (acc.push (g i)) (fun j hj => by
      have := hc (j + 1) (by omega)
      have e : i + 1 + j = i + (j + 1) := by omega
      rw [e]; exact this) (by simp [hs]) (fun j hj => by
      by_cases e : j = i
      · subst e; subst hs; simp [Array.getD]
      · have hj' : j < i := by omega
        have := ha j hj'
        simp only [Array.getD_eq_getD_getElem?] at this ⊢
        rw [Array.getElem?_push, if_neg (by omega)]; exact this)
    refine ⟨vs, ?_, by omega, fun j hj => h3 j (by omega)⟩
    simp only [loadCellsFrom, Sem.run_bind, add_mk, run_load, h0, Result.andThen_ok]
    exact h1

def CellsAt (R : RO) (ι : IM) (h : LH) (w : World) (b o : Nat) (cs : List LV) : Prop :=
  ∀ j c, cs[j]? = some c → ∃ v, w.cell? ⟨b, o + j, none⟩ = some v ∧ Rv R ι h c v ∧ plainV v = true

theorem ld_cells {t : TypeId} {n : Option Nat} {cs : List LV} {b o : Nat} (hk : ldK P t = some n) (hp : partC n cs) (hc : CellsAt R ι h w b o cs) :
    ∃ v, (Instr.loadAt t (.pointer (some ⟨b, o, none⟩))).run P w = .ok v w ∧ Rv R ι h (partV n cs) v := by
  cases n with
  | none =>
    simp only [partC] at hp
    obtain ⟨v, h1, h2, _⟩ := hc 0 (cs[0]'(by omega)) (List.getElem?_eq_getElem (by omega))
    refine ⟨v, ?_, ?_⟩
    · simp only [Nat.add_zero] at h1
      simp only [Instr.loadAt, Instr.sureAddr, loadVar, Sem.run_bind, Sem.run_pure, Result.andThen_ok, ldK_none hk, Bool.false_eq_true, if_false, run_load, h1]
    · simp only [partV]
      rw [getD_el (by omega)]; exact h2
  | some m =>
    simp only [partC] at hp
    have hg : ∀ j, ∃ v, j < m → w.cell? ⟨b, o + (0 + j), none⟩ = some v ∧ Rv R ι h (cs.getD j .any) v ∧ plainV v = true := by
      intro j
      by_cases hj : j < m
      · obtain ⟨v, h1, h2, h3⟩ := hc j (cs[j]'(by omega)) (List.getElem?_eq_getElem (by omega))
        exact ⟨v, fun _ => ⟨by rw [Nat.zero_add]; exact h1, by rw [getD_el (by omega)]; exact h2, h3⟩⟩
      · exact ⟨undef, fun h => absurd h hj⟩
    obtain ⟨g, hg⟩ := Classical.axiomOfChoice hg
    obtain ⟨vs, h1, h2, h3⟩ := loadCellsFrom_ok (P := P) (w := w) b o g m 0 #[] (fun j hj => by rw [(hg j hj).1, Nat.zero_add]) rfl (fun j hj => absurd hj (Nat.not_lt_zero _))
    refine ⟨.agg vs, ?_, ?_⟩
    · simp only [Instr.loadAt, Instr.sureAddr, loadVar, Sem.run_bind, Sem.run_pure, Result.andThen_ok, (ldK_some hk).1, (ldK_some hk).2, if_true, loadCells, h1]
    · simp only [partV]
      refine .agg _ _ ?_ ?_ ?_
      · simp; omega
      · intro i c hi
        have him : i < m := by
          have := (List.getElem?_eq_some_iff.1 hi).1
          simp at this; omega
        rw [h3 i (by omega)]
        have := (hg i him).2.1
        rw [getD_el (by omega)] at this
        have e : c = cs[i]'(by omega) := by
          have := (List.getElem?_eq_some_iff.1 hi).2
          rw [← this]; simp
        rw [e]; exact this
      · intro i hi
        rw [h3 i (by omega)]; exact (hg i (by omega)).2.2

theorem part_cells {t : TypeId} {n : Option Nat} {cs : List LV} {vs : Array Value} {off : Nat} (hk : ldK P t = some n) (hp : partC n (cs.drop off)) (hl : vs.size = cs.length)
    (hc : ∀ i c, cs[i]? = some c → Rv R ι h c (vs.getD i undef)) (hpl : ∀ i, i < vs.size → plainV (vs.getD i undef) = true) :
    ∃ v, (part t vs off).run P w = .ok v w ∧ Rv R ι h (partV n (cs.drop off)) v := by
  cases n with
  | none =>
    simp only [partC, List.length_drop] at hp
    have hlt : off < vs.size := by omega
    refine ⟨vs[off], ?_, ?_⟩
    · simp only [part, Sem.run_bind, ldK_none hk, Result.andThen_ok, Bool.false_eq_true, if_false, Array.getElem?_eq_getElem hlt, Sem.run_pure]
    · simp only [partV]
      have := hc off (cs[off]'(by omega)) (List.getElem?_eq_getElem (by omega))
      rw [Array.getD_eq_getD_getElem?, Array.getElem?_eq_getElem hlt] at this
      rw [getD_el (by simp; omega)]
      simpa using this
  | some m =>
    simp only [partC, List.length_drop] at hp
    refine ⟨.agg (vs.extract off (off + m)), ?_, ?_⟩
    · simp only [part, Sem.run_bind, (ldK_some hk).1, (ldK_some hk).2, Result.andThen_ok, if_true, Sem.run_pure]
    · simp only [partV]
      by_cases hm : m = 0
      · subst hm
        refine .agg _ _ (by simp; omega) (fun i c hi => by simp at hi) (fun i hi => by simp at hi; omega)
      have hsz : (vs.extract off (off + m)).size = m := by simp; omega
      have hget : ∀ i, i < m → (vs.extract off (off + m)).getD i undef = vs.getD (off + i) undef := by
        intro i hi
        simp only [Array.getD_eq_getD_getElem?]
        rw [Array.getElem?_extract, if_pos (by omega)]
      refine .agg _ _ (by rw [hsz]; simp; omega) ?_ ?_
      · intro i c hi
        have him : i < m := by
          have := (List.getElem?_eq_some_iff.1 hi).1
          simp at this; omega
        rw [hget i him]
        refine hc (off + i) c ?_
        rw [List.getElem?_take_of_lt him, List.getElem?_drop] at hi
        exact hi
      · intro i hi
        rw [hget i (by omega)]
        exact hpl _ (by omega)

theorem cellsOk_at (hr : Rep R ι h B w) {k ver sz i c : Nat} {x : Value} (hx : Rv R ι h (.ptr k ver sz i c) x) (hver : (h.f k).1 = ver) {n : Option Nat} (hc : ldOC true n sz i c (h.f k).2) :
    ∃ b o cs, x = .pointer (some ⟨b, o, none⟩) ∧ CellsAt R ι h w b o cs ∧ partC n cs ∧ partV n cs = ldO n i c (h.f k).2 := by
  obtain ⟨a, rfl, hk, hle, ha⟩ := hx.ptr_inv
  rw [ha hver.symm]
  clear ha hx
  generalize hob : (h.f k).2 = ob at *
  have hm0 : (ι k).m ≠ 0 ∨ ob.size = 0 := by
    by_cases hm : (ι k).m = 0
    · right
      have := hr.empty k hk (by rw [hob]; cases ob <;> simp_all [ldOC, LO.live]) (by rw [hob]; cases ob <;> simp_all [ldOC, LO.isMap]) hm
      rw [hob] at this; exact this
    · exact .inl hm
  have hcell : ob.size ≠ 0 → CellsOk R ι h w (ι k) ob := by
    intro h0
    have := hr.cells k hk (by rw [hob]; cases ob <;> simp_all [ldOC, LO.live]) (by rw [hob]; cases ob <;> simp_all [ldOC, LO.isMap]) (hm0.resolve_right h0)
    rw [hob] at this; exact this
  have key : ob.size ≠ 0 → ∀ i' c' lv, cellAt ob i' c' = some lv → ∃ v, w.cell? ⟨(ι k).b, (ι k).o + (i' * ob.sz + c'), none⟩ = some v ∧ Rv R ι h lv v ∧ plainV v = true := by
    intro h0 i' c' lv hl
    obtain ⟨cl, e, hw, hsz, _, hp, hcl⟩ := (hcell h0).ex
    obtain ⟨v, hv1, hv2⟩ := hcl i' c' lv hl
    refine ⟨v, ?_, hv2, ?_⟩
    · simp [World.cell?, hw, hv1]
    · have hlt := (Array.getElem?_eq_some_iff.1 hv1).1
      have := hp _ hlt
      rw [Array.getD_eq_getD_getElem?, hv1] at this
      exact this
  cases ob with
  | dead => simp [ldOC] at hc
  | map es => simp [ldOC] at hc
  | byt t xs => simp [ldOC] at hc
  | tbox t cs =>
    obtain ⟨rfl, rfl, hp⟩ := hc
    refine ⟨_, _, cs.drop c, rfl, ?_, hp, rfl⟩
    intro j x hj
    rw [List.getElem?_drop] at hj
    have h0 : (LO.tbox t cs).size ≠ 0 := by
      have := (List.getElem?_eq_some_iff.1 hj).1
      simp [LO.size]; intro e; subst e; simp at this
    obtain ⟨v, h1, h2, h3⟩ := key h0 0 (c + j) x (by simp [cellAt, hj])
    refine ⟨v, ?_, h2, h3⟩
    rw [← h1]; congr 2; simp only [LO.sz]; omega
  | box cs =>
    obtain ⟨rfl, rfl, hp⟩ := hc
    refine ⟨_, _, cs.drop c, rfl, ?_, hp, rfl⟩
    intro j x hj
    rw [List.getElem?_drop] at hj
    have h0 : (LO.box cs).size ≠ 0 := by
      have := (List.getElem?_eq_some_iff.1 hj).1
      simp [LO.size]; intro e; subst e; simp at this
    obtain ⟨v, h1, h2, h3⟩ := key h0 0 (c + j) x (by simp [cellAt, hj])
    refine ⟨v, ?_, h2, h3⟩
    rw [← h1]; congr 2; simp only [LO.sz]; omega
  | ints xs =>
    obtain ⟨rfl, rfl, rfl, hlt⟩ := hc
    have hlt := hlt rfl
    refine ⟨_, _, [.sc (.int .i64 (xs.getD i 0))], rfl, ?_, by simp [partC], rfl⟩
    intro j x hj
    cases j with
    | succ j => simp at hj
    | zero =>
      simp at hj; subst hj
      obtain ⟨v, h1, h2, h3⟩ := key (by simp [LO.size]; intro e; subst e; simp at hlt) i 0 (.sc (.int .i64 xs[i])) (by simp [cellAt, hlt])
      refine ⟨v, ?_, by simpa [getD_el hlt, hlt] using h2, h3⟩
      rw [← h1]; congr 2
  | bools xs =>
    obtain ⟨rfl, rfl, rfl, hlt⟩ := hc
    have hlt := hlt rfl
    refine ⟨_, _, [.sc (.bool (xs.getD i false))], rfl, ?_, by simp [partC], rfl⟩
    intro j x hj
    cases j with
    | succ j => simp at hj
    | zero =>
      simp at hj; subst hj
      obtain ⟨v, h1, h2, h3⟩ := key (by simp [LO.size]; intro e; subst e; simp at hlt) i 0 (.sc (.bool xs[i])) (by simp [cellAt, hlt])
      refine ⟨v, ?_, by simpa [getD_el hlt, hlt] using h2, h3⟩
      rw [← h1]; congr 2
  | row sz' m f =>
    obtain ⟨rfl, hcn, hlt⟩ := hc
    obtain ⟨hlt, hfl⟩ := hlt rfl
    refine ⟨_, _, (f i).drop c, rfl, ?_, ?_, rfl⟩
    · intro j x hj
      rw [List.getElem?_drop] at hj
      have hcj : c + j < sz' := by have h9 := (List.getElem?_eq_some_iff.1 hj).1; omega
      obtain ⟨v, h1, h2, h3⟩ := key (Nat.mul_ne_zero (by omega) (by omega)) i (c + j) x (by simp [cellAt, hlt, hcj, hj])
      refine ⟨v, ?_, h2, h3⟩
      rw [← h1]; congr 2; simp only [LO.sz]; omega
    · cases n <;> simp [partC, hfl] at hcn ⊢ <;> omega

end
end Go.Proofs.YtdfiicpikcdokaaGreatDoor
namespace Go.Proofs.YtdfiicpikcdokaaGreatDoor
set_option linter.unusedSimpArgs false
set_option linter.unusedVariables false
open Go.RowKit

section
variable {P : Program} {R : RO} {ι : IM} {h : LH} {B : Nat} {w : World} {s : LS} {ρ : Operand → Value}

theorem rv_liftC1 {v : Value} (hp : plainV v = true) : Rv R ι h (liftC1 v) v := by
  unfold liftC1
  split
  · exact .ro .nsl
  · exact .any _
  · exact .any _
  · exact .ro (.sc _ hp)

theorem rv_liftC {v : Value} (ha : aggOk v = true) : Rv R ι h (liftC v) v := by
  cases v with
  | agg cs =>
    simp only [aggOk, Array.all_eq_true] at ha
    have hp : ∀ i, i < cs.size → plainV (cs.getD i undef) = true := fun i hi => by
      rw [Array.getD_eq_getD_getElem?, Array.getElem?_eq_getElem hi]; exact ha i hi
    refine .agg _ _ (by simp) (fun i c hi => ?_) hp
    simp only [List.getElem?_map, Option.map_eq_some_iff] at hi
    obtain ⟨x, hx, rfl⟩ := hi
    have hlt : i < cs.size := by
      have := (List.getElem?_eq_some_iff.1 hx).1; simpa using this
    have e : cs.getD i undef = x := by
      rw [Array.getD_eq_getD_getElem?, Array.getElem?_eq_getElem hlt]
      simp at hx
      rw [Array.getElem?_eq_getElem hlt] at hx
      injection hx
    have h9 := hp i hlt
    rw [e] at h9 ⊢
    exact rv_liftC1 h9
  | tuple vs => exact .any _
  | bool b => exact .ro (.sc _ rfl)
  | int k n => exact .ro (.sc _ rfl)
  | slice a n c => exact rv_liftC1 rfl
  | _ => exact .ro (.sc _ rfl)

theorem rv_oev (a : Act) (ht : ∀ t, Rv R ι h (s t) (a.eval (.tmp t))) (x : Operand) : Rv R ι h (oev s x) (a.eval x) := by
  cases x with
  | tmp t => exact ht t
  | const v =>
    show Rv R ι h (if aggOk v then liftC v else .any) v
    by_cases ha : aggOk v = true
    · rw [if_pos ha]; exact rv_liftC ha
    · rw [if_neg ha]; exact .any _
  | global g => exact .any _
  | func f => exact .ro (.fn f [] #[] rfl (fun i c hi => by simp at hi))

theorem isBool_inv {lv : LV} {v : Value} (hr : Rv R ι h lv v) (hb : isBool lv) : ∃ b, lv = .sc (.bool b) ∧ v = .bool b := by
  unfold isBool at hb
  split at hb
  · exact ⟨_, rfl, (hr.sc_inv).1⟩
  · exact hb.elim

theorem selB_ok {c : Bool} {a b : LV} {va vb : Value} (ha : c = true → Rv R ι h a va) (hb : c = false → Rv R ι h b vb) :
    Rv R ι h (selB c a b) (if c = true then va else vb) := by
  unfold selB
  split
  · rename_i x y
    cases c
    · have := (hb rfl).sc_inv.1; subst this; exact rv_sc rfl
    · have := (ha rfl).sc_inv.1; subst this; exact rv_sc rfl
  · cases c
    · exact hb rfl
    · exact ha rfl

theorem un_ok {op : UnOp} {x : LV} {vx : Value} (hx : Rv R ι h x vx) (hc : unC true op x) :
    ∃ v, (Op.unary op vx).run P w = .ok v w ∧ Rv R ι h (unV op x) v := by
  unfold unC at hc
  split at hc
  · rename_i k a
    obtain ⟨rfl, _⟩ := hx.sc_inv
    split at hc
    · exact ⟨.int k (k.wrap (0 - a)), by simp only [Op.unary, Op.intArith, Sem.run_pure], arV_ok hc⟩
    · exact hc.elim
  · rename_i b
    obtain ⟨rfl, _⟩ := hx.sc_inv
    split at hc
    · exact ⟨_, by simp [Op.unary], rv_sc rfl⟩
    · exact hc.elim
  · exact hc.elim

theorem idxs_ok {t : TypeId} {x i : LV} {vx vi : Value} (ht : P.underlying t = some .string) (hx : Rv R ι h x vx) (hi : Rv R ι h i vi) (hc : idxsC true x i) :
    ∃ v, (Instr.index t vx vi).run P w = .ok v w ∧ Rv R ι h (idxsV x i) v := by
  unfold idxsC at hc
  split at hc
  · rename_i s k i
    obtain ⟨rfl, _⟩ := hx.sc_inv
    obtain ⟨rfl, _⟩ := hi.sc_inv
    obtain ⟨h1, h2⟩ := hc rfl
    refine ⟨_, ?_, rv_sc rfl⟩
    have e : s[i.toNat]? = some s[i.toNat] := getElem?_pos s i.toNat h2
    have e2 : sbyte s i.toNat = s[i.toNat] := by
      unfold sbyte
      rw [Array.getD_eq_getD_getElem?, Array.getElem?_eq_getElem h2]; rfl
    simp only [Instr.index, asIntOf, underlying, Sem.run_bind, Sem.run_pure, Result.andThen_ok, run_program, ht, h1, if_true, e, e2]
  · exact hc.elim

theorem idxa_ok {t e : TypeId} {len sz : Nat} {n : Option Nat} {x i : LV} {vx vi : Value} (ht : P.underlying t = some (.array len e)) (hk : ldK P e = some n) (hz : sizeO P e = some sz)
    (hx : Rv R ι h x vx) (hi : Rv R ι h i vi) (hc : idxaC true len sz n x i) :
    ∃ v, (Instr.index t vx vi).run P w = .ok v w ∧ Rv R ι h (idxaV sz n x i) v := by
  unfold idxaC at hc
  split at hc
  · rename_i cs k i
    obtain ⟨vs, rfl, hl, hcs, hp⟩ := hx.agg_inv
    obtain ⟨rfl, _⟩ := hi.sc_inv
    obtain ⟨h1, h2⟩ := hc rfl
    obtain ⟨v, hv1, hv2⟩ := part_cells (P := P) (w := w) hk h2 hl hcs hp
    refine ⟨v, ?_, hv2⟩
    unfold sizeO at hz
    cases hi : P.info? e with
    | none => rw [hi] at hz; simp at hz
    | some inf =>
      rw [hi] at hz; simp at hz
      simp only [Instr.index, asIntOf, underlying, Sem.run_bind, Sem.run_pure, Result.andThen_ok, run_program, ht, h1, and_self, if_true, sizeOf, typeInfo, hi, hz, hv1]
  · exact hc.elim

theorem ext_ok {x : LV} {i : Nat} {vx : Value} (hx : Rv R ι h x vx) (hc : extC i x) : ∃ v, (Instr.extract vx i).run P w = .ok v w ∧ Rv R ι h (extV i x) v := by
  unfold extC at hc
  split at hc
  · rename_i vs
    obtain ⟨us, rfl, hl, hcs⟩ := hx.tup_inv
    have hlt : i < us.size := by omega
    refine ⟨us[i], ?_, ?_⟩
    · simp only [Instr.extract, Array.getElem?_eq_getElem hlt, Sem.run_pure]
    · simp only [extV]
      have := hcs i (vs[i]) (List.getElem?_eq_getElem hc)
      rw [Array.getD_eq_getD_getElem?, Array.getElem?_eq_getElem hlt] at this
      rw [getD_el hc]; exact this
  · exact hc.elim

theorem cvt_ok {a b : TypeId} {k j : IntKind} {x : LV} {vx : Value} (ha : P.underlying a = some (.int j)) (hb : P.underlying b = some (.int k)) (hx : Rv R ι h x vx) (hc : cvtC true k x) :
    ∃ v, (convert a b vx).run P w = .ok v w ∧ Rv R ι h (cvtV k x) v := by
  unfold cvtC at hc
  split at hc
  · rename_i k' i
    obtain ⟨rfl, _⟩ := hx.sc_inv
    exact ⟨_, by simp [convert, underlying, ha, hb, Conv.intToInt], arV_ok hc⟩
  · exact hc.elim

theorem len_ok (hr : Rep R ι h B w) {t ty : TypeId} {kd : Nat} {x : LV} {vx : Value} (ht : kd = 0 ∧ P.underlying t = some .string ∨ kd = 1 ∧ (∃ e, P.underlying t = some (.slice e)) ∨ kd = 2 ∧ ∃ k e, P.underlying t = some (.map k e))
    (hx : Rv R ι h x vx) (hc : lenC h kd x) : lenF x ∧ ∃ v, (Builtin.len_ #[t] ty #[vx]).run P w = .ok v w ∧ Rv R ι h (lenV h x) v := by
  unfold lenC at hc
  split at hc
  · subst hc
    obtain ⟨e, hu⟩ : ∃ e, P.underlying t = some (.slice e) := by simpa using ht
    cases hx.rsl_inv with
    | rsl sz n f a cap b o g hcp hm =>
      refine ⟨?_, _, ?_, rv_sc rfl⟩
      · unfold maxLen at hm; simp only [lenF]; omega
      · simp [Builtin.len_, underlying, hu, goInt]
  · subst hc
    obtain ⟨e, hu⟩ : ∃ e, P.underlying t = some (.slice e) := by simpa using ht
    obtain ⟨a, cap, rfl, _, _, hl, hm, _⟩ := hx.sl_inv
    refine ⟨?_, _, ?_, rv_sc rfl⟩
    · unfold maxLen at hm; simp only [lenF]; omega
    · simp [Builtin.len_, underlying, hu, goInt]
  · subst hc
    obtain ⟨e, hu⟩ : ∃ e, P.underlying t = some (.slice e) := by simpa using ht
    have := hx.nsl_inv
    subst this
    exact ⟨trivial, _, by simp [Builtin.len_, underlying, hu, goInt], rv_sc rfl⟩
  · subst hc
    have hu : P.underlying t = some .string := by simpa using ht
    obtain ⟨rfl, _⟩ := hx.sc_inv
    exact ⟨trivial, _, by simp [Builtin.len_, underlying, hu, goInt], rv_sc rfl⟩
  · rename_i k ver
    obtain ⟨rfl, hk, hver, hm⟩ := hc
    obtain ⟨k', e, hu⟩ : ∃ k e, P.underlying t = some (.map k e) := by simpa using ht
    obtain ⟨b, rfl, _, _, hb⟩ := hx.mp_inv
    have := hb hver.symm
    subst this
    cases hob : (h.f k).2 with
    | map es =>
      obtain ⟨ents, clock, hw, hsz, _, _⟩ := hr.maps k es hk hob
      refine ⟨trivial, .int .i64 es.length, ?_, by simp only [lenV, hob]; exact rv_sc rfl⟩
      have hg : (getObj (ι k).b).run P w = .ok (.map ents clock) w := by simp [getObj, Sem.run, hw]
      simp [Builtin.len_, underlying, hu, hg, goInt, hsz]
    | _ => rw [hob] at hm; simp [LO.isMap] at hm
  · rename_i es
    subst hc
    obtain ⟨k', e, hu⟩ : ∃ k e, P.underlying t = some (.map k e) := by simpa using ht
    cases hx.rmp_inv with
    | rmp _ b ents clock hb h2 h3 h4 h5 =>
      refine ⟨trivial, .int .i64 es.length, ?_, rv_sc rfl⟩
      have hg : (getObj b).run P w = .ok (.map ents clock) w := by simp [getObj, Sem.run, hr.ro _ _ hb]
      simp [Builtin.len_, underlying, hu, hg, goInt, h2]
  · exact hc.elim

theorem sliceBound_ok {x : Value} {k : IntKind} {i : Int} {y : Nat} {c : BoundsCode} (hx : x = .int k i) (h0 : 0 ≤ i) (h1 : i ≤ y) : (Instr.sliceBound x y c).run P w = .ok i.toNat w := by
  subst hx
  simp [Instr.sliceBound, asIntOf, h0, h1]

theorem bnd_inv {o : Option LV} {v : Option Value} (hb : bndOk o) (hv : ∀ x y, o = some x → v = some y → Rv R ι h x y) (hn : o = none ↔ v = none) :
    (o = none ∧ v = none) ∨ ∃ k i, o = some (.sc (.int k i)) ∧ v = some (.int k i) := by
  unfold bndOk at hb
  split at hb
  · left; exact ⟨rfl, hn.1 rfl⟩
  · rename_i k i
    cases hvv : v with
    | none => have := hn.2 hvv; simp at this
    | some y =>
      right
      have := (hv _ y rfl hvv).sc_inv.1
      exact ⟨k, i, rfl, by rw [this]⟩
  · exact hb.elim

theorem bounds_ok {isS : Bool} {n cap : Nat} {lo hi : Option LV} {vlo vhi : Option Value} (hnc : n ≤ cap)
    (hlo : (lo = none ∧ vlo = none) ∨ ∃ k i, lo = some (.sc (.int k i)) ∧ vlo = some (.int k i)) (hhi : (hi = none ∧ vhi = none) ∨ ∃ k i, hi = some (.sc (.int k i)) ∧ vhi = some (.int k i))
    (h0 : 0 ≤ loOf lo) (h1 : loOf lo ≤ hiOf n hi) (h2 : hiOf n hi ≤ n) :
    (Instr.sliceBounds isS n cap vlo vhi none).run P w = .ok ((loOf lo).toNat, (hiOf n hi).toNat, cap) w := by
  rcases hlo with ⟨rfl, rfl⟩ | ⟨k, i, rfl, rfl⟩ <;> rcases hhi with ⟨rfl, rfl⟩ | ⟨k', j, rfl, rfl⟩ <;> simp only [loOf, hiOf] at h0 h1 h2 ⊢
  · simp [Instr.sliceBounds]
  · simp only [Instr.sliceBounds, Sem.run_bind, Sem.run_pure, Result.andThen_ok]
    rw [sliceBound_ok rfl (by omega) (by omega)]; rfl
  · simp only [Instr.sliceBounds, Sem.run_bind, Sem.run_pure, Result.andThen_ok]
    rw [sliceBound_ok rfl (by omega) (by omega)]; simp
  · simp only [Instr.sliceBounds, Sem.run_bind, Sem.run_pure, Result.andThen_ok]
    rw [sliceBound_ok rfl (by omega) (by omega)]
    simp only [Result.andThen_ok]
    rw [sliceBound_ok rfl (by omega) (by omega)]; rfl

theorem slcs_ok {t : TypeId} {x : LV} {lo hi : Option LV} {vx : Value} {vlo vhi : Option Value} (ht : P.underlying t = some .string) (hx : Rv R ι h x vx)
    (hlo : ∀ a b, lo = some a → vlo = some b → Rv R ι h a b) (hlo' : lo = none ↔ vlo = none) (hhi : ∀ a b, hi = some a → vhi = some b → Rv R ι h a b) (hhi' : hi = none ↔ vhi = none)
    (hc : slcsC true lo hi x) : ∃ v, (Instr.sliceAt t vx vlo vhi none).run P w = .ok v w ∧ Rv R ι h (slcsV lo hi x) v := by
  unfold slcsC at hc
  split at hc
  · rename_i s
    obtain ⟨hb1, hb2, hc⟩ := hc
    obtain ⟨h0, h1, h2⟩ := hc rfl
    obtain ⟨rfl, _⟩ := hx.sc_inv
    refine ⟨_, ?_, rv_sc rfl⟩
    have hbs := bounds_ok (P := P) (w := w) (isS := false) (n := s.size) (cap := s.size) (Nat.le_refl _) (bnd_inv hb1 hlo hlo') (bnd_inv hb2 hhi hhi') h0 h1 h2
    simp [Instr.sliceAt, Instr.slice, underlying, ht, hbs]
  · exact hc.elim

theorem sizeO_ok {e : TypeId} {z : Nat} (hz : sizeO P e = some z) : (sizeOf e).run P w = .ok z w := by
  unfold sizeO at hz
  simp only [sizeOf, typeInfo, Sem.run_bind, run_program, Result.andThen_ok]
  cases hi : P.info? e <;> simp_all

theorem slc_ok {t e : TypeId} {sz : Nat} {x : LV} {lo hi : Option LV} {vx : Value} {vlo vhi : Option Value} (ht : P.underlying t = some (.slice e)) (hz : sizeO P e = some sz) (hx : Rv R ι h x vx)
    (hlo : ∀ a b, lo = some a → vlo = some b → Rv R ι h a b) (hlo' : lo = none ↔ vlo = none) (hhi : ∀ a b, hi = some a → vhi = some b → Rv R ι h a b) (hhi' : hi = none ↔ vhi = none)
    (hc : slcC true sz lo hi x) : ∃ v, (Instr.sliceAt t vx vlo vhi none).run P w = .ok v w ∧ Rv R ι h (slcV lo hi x) v := by
  unfold slcC at hc
  split at hc
  · rename_i sz' n f
    obtain ⟨rfl, hb1, hb2, hc⟩ := hc
    obtain ⟨h0, h1, h2⟩ := hc rfl
    cases hx.rsl_inv with
    | rsl _ _ _ a cap b o g hcp hm ha hf hcell hv hp =>
      have hbs := bounds_ok (P := P) (w := w) (isS := true) hcp (bnd_inv hb1 hlo hlo') (bnd_inv hb2 hhi hhi') h0 h1 h2
      refine ⟨.slice (if cap = (loOf lo).toNat then a else a.map (·.add ((loOf lo).toNat * sz'))) ((hiOf n hi).toNat - (loOf lo).toNat) (cap - (loOf lo).toNat), ?_, ?_⟩
      · simp [Instr.sliceAt, Instr.slice, underlying, ht, hbs, sizeO_ok hz]
      · simp only [slcV]
        refine .ro (.rsl _ _ _ _ _ b (o + (loOf lo).toNat * sz') (fun i j => g ((loOf lo).toNat + i) j) (by omega) (by omega) ?_ ?_ ?_ ?_ ?_)
        · intro hn
          rw [if_neg (by omega), ha (by omega)]
          simp [add_mk]
        · intro i hi; exact hf _ (by omega)
        · intro i j hi hj
          rw [← hcell ((loOf lo).toNat + i) j (by omega) hj]
          congr 1
          rw [Nat.add_mul]; omega
        · intro i j c hi hj; exact hv _ _ _ (by omega) hj
        · intro i j hi hj; exact hp _ _ (by omega) hj
  · rename_i k ver sz' off n
    obtain ⟨rfl, hb1, hb2, hc⟩ := hc
    obtain ⟨h0, h1, h2⟩ := hc rfl
    obtain ⟨a, cap, rfl, hk, hver, hcp, hm, hcase⟩ := hx.sl_inv
    have hbs := bounds_ok (P := P) (w := w) (isS := true) hcp (bnd_inv hb1 hlo hlo') (bnd_inv hb2 hhi hhi') h0 h1 h2
    refine ⟨.slice (if cap = (loOf lo).toNat then a else a.map (·.add ((loOf lo).toNat * sz'))) ((hiOf n hi).toNat - (loOf lo).toNat) (cap - (loOf lo).toNat), ?_, ?_⟩
    · simp [Instr.sliceAt, Instr.slice, underlying, ht, hbs, sizeO_ok hz]
    · simp only [slcV]
      refine .sl _ _ _ _ _ _ _ hk hver (by omega) (by omega) ?_
      by_cases he : cap = (loOf lo).toNat
      · left; omega
      · right
        intro hv
        rcases hcase with h9 | h9
        · omega
        · obtain ⟨h10, h11⟩ := h9 hv
          rw [if_neg he, h10]
          refine ⟨by simp [add_mk, Nat.add_mul, Nat.add_assoc], ?_⟩
          refine Nat.le_trans (Nat.mul_le_mul_right _ ?_) h11
          omega
  · exact hc.elim

theorem fad_ok {t : TypeId} {fs : Array Field} {i z : Nat} {f : Field} {x : LV} {vx : Value} (ht : P.underlying t = some (.struct fs)) (hf : fs[i]? = some f) (hz : sizeO P f.type = some (z + 1)) (hx : Rv R ι h x vx)
    (hc : fadC f.offset x) : ∃ v, (Instr.fieldAt t vx i).run P w = .ok v w ∧ Rv R ι h (fadV f.offset x) v := by
  have key : ∀ b o, (Instr.fieldAt t (.pointer (some ⟨b, o, none⟩)) i).run P w = .ok (.pointer (some ⟨b, o + f.offset, none⟩)) w := by
    intro b o
    simp [Instr.fieldAt, underlying, ht, hf, Instr.sureAddr, fieldPlace, sizeO_ok hz, add_mk]
  unfold fadC at hc
  split at hc
  · rename_i cs
    cases hx.rptr_inv with
    | rptr _ b o g hcell hv hp =>
      refine ⟨_, key b o, .ro (.rptr _ b (o + f.offset) (fun j => g (f.offset + j)) ?_ ?_ ?_)⟩
      · intro j hj; simp at hj; rw [← hcell (f.offset + j) (by omega)]; congr 1; omega
      · intro j c hj; rw [List.getElem?_drop] at hj; exact hv _ _ hj
      · intro j hj; simp at hj; exact hp _ (by omega)
  · rename_i k ver sz j c
    obtain ⟨a, rfl, hk, hver, ha⟩ := hx.ptr_inv
    have key2 : ∃ a', (Instr.fieldAt t (.pointer (some a)) i).run P w = .ok (.pointer (some a')) w ∧ a' = a.add f.offset :=
      ⟨_, by simp [Instr.fieldAt, underlying, ht, hf, Instr.sureAddr, fieldPlace, sizeO_ok hz], rfl⟩
    obtain ⟨a', h1, rfl⟩ := key2
    refine ⟨_, h1, .ptr _ _ _ _ _ _ hk hver fun e => ?_⟩
    rw [ha e, add_mk]; congr 1; omega
  · exact hc.elim

theorem iad_ok {t e : TypeId} {sz : Nat} {x i : LV} {vx vi : Value} (ht : P.underlying t = some (.slice e)) (hz : sizeO P e = some sz) (hx : Rv R ι h x vx) (hi : Rv R ι h i vi) (hc : iadC h true sz x i) :
    ∃ v, (Instr.indexAt t vx vi).run P w = .ok v w ∧ Rv R ι h (iadV x i) v := by
  unfold iadC at hc
  split at hc
  · rename_i sz' n f k i
    obtain ⟨rfl, hc⟩ := hc
    obtain ⟨h0, h1⟩ := hc rfl
    obtain ⟨rfl, _⟩ := hi.sc_inv
    have hlt : i.toNat < n := by omega
    cases hx.rsl_inv with
    | rsl _ _ _ a cap b o g hcp hm ha hf hcell hv hp =>
      have := ha (by omega)
      subst this
      refine ⟨.pointer (some ⟨b, o + i.toNat * sz', none⟩), ?_, .ro (.rptr _ _ _ (fun j => g i.toNat j) ?_ ?_ ?_)⟩
      · simp [Instr.indexAt, asIntOf, underlying, ht, h0, h1, sizeO_ok hz, add_mk]
      · intro j hj; rw [hf _ hlt] at hj; exact hcell _ _ hlt hj
      · intro j c hj; exact hv _ _ _ hlt hj
      · intro j hj; rw [hf _ hlt] at hj; exact hp _ _ hlt hj
  · rename_i k ver sz' off n k' i
    obtain ⟨rfl, _, hv, hc⟩ := hc
    obtain ⟨h0, h1⟩ := hc rfl
    obtain ⟨rfl, _⟩ := hi.sc_inv
    obtain ⟨a, cap, rfl, hk, hver, hcp, hm, hcase⟩ := hx.sl_inv
    rcases hcase with h9 | h9
    · omega
    · obtain ⟨rfl, _⟩ := h9 hv.symm
      refine ⟨.pointer (some ⟨(ι k).b, (ι k).o + off * sz' + i.toNat * sz', none⟩), ?_, .ptr _ _ _ _ _ _ hk hver fun _ => ?_⟩
      · simp [Instr.indexAt, asIntOf, underlying, ht, h0, h1, sizeO_ok hz, add_mk]
      · congr 1; rw [Nat.add_mul]; omega
  · exact hc.elim

theorem iada_ok {t e : TypeId} {len sz : Nat} {x i : LV} {vx vi : Value} (ht : P.underlying t = some (.array len e)) (hz : sizeO P e = some sz) (hx : Rv R ι h x vx) (hi : Rv R ι h i vi) (hc : iadaC true len sz x i) :
    ∃ v, (Instr.indexAt t vx vi).run P w = .ok v w ∧ Rv R ι h (iadaV sz x i) v := by
  unfold iadaC at hc
  split at hc
  · rename_i cs k i
    obtain ⟨⟨h0, h1⟩, h2⟩ := hc rfl
    obtain ⟨rfl, _⟩ := hi.sc_inv
    cases hx.rptr_inv with
    | rptr _ b o g hcell hv hp =>
      refine ⟨.pointer (some ⟨b, o + i.toNat * sz, none⟩), ?_, .ro (.rptr _ _ _ (fun j => g (i.toNat * sz + j)) ?_ ?_ ?_)⟩
      · simp [Instr.indexAt, asIntOf, underlying, ht, h0, h1, Instr.sureAddr, sizeO_ok hz, add_mk]
      · intro j hj; simp at hj; rw [← hcell (i.toNat * sz + j) (by omega)]; congr 1; omega
      · intro j c hj; rw [List.getElem?_drop] at hj; exact hv _ _ hj
      · intro j hj; simp at hj; exact hp _ (by omega)
  · rename_i k ver sz' j c k' i
    obtain ⟨h0, h1⟩ := hc rfl
    obtain ⟨rfl, _⟩ := hi.sc_inv
    obtain ⟨a, rfl, hk, hver, ha⟩ := hx.ptr_inv
    refine ⟨.pointer (some (a.add (i.toNat * sz))), ?_, .ptr _ _ _ _ _ _ hk hver fun e => ?_⟩
    · simp [Instr.indexAt, asIntOf, underlying, ht, h0, h1, Instr.sureAddr, sizeO_ok hz]
    · rw [ha e, add_mk]; congr 1; omega
  · exact hc.elim

theorem ld_ok (hr : Rep R ι h B w) {t : TypeId} {n : Option Nat} {x : LV} {vx : Value} (hk : ldK P t = some n) (hx : Rv R ι h x vx) (hc : ldC true n h x) :
    ∃ v, (Instr.loadAt t vx).run P w = .ok v w ∧ Rv R ι h (ldV n h x) v := by
  unfold ldC at hc
  split at hc
  · rename_i cs
    cases hx.rptr_inv with
    | rptr _ b o g hcell hv hp =>
      exact ld_cells hk (hc rfl) fun j c hj => ⟨g j, ro_cell hr (hcell j (List.getElem?_eq_some_iff.1 hj).1), .ro (hv j c hj), hp j (List.getElem?_eq_some_iff.1 hj).1⟩
  · rename_i k ver sz i c
    obtain ⟨_, hver, hc⟩ := hc
    obtain ⟨b, o, cs, rfl, hcs, hp, he⟩ := cellsOk_at hr hx hver hc
    obtain ⟨v, h1, h2⟩ := ld_cells (P := P) hk hp hcs
    exact ⟨v, h1, by simp only [ldV]; rw [← he]; exact h2⟩
  · exact hc.elim

theorem opt_rel (hs : ∀ x, Rv R ι h (oev s x) (ρ x)) {lo : Option Operand} (hc : ∀ y, lo = some y → opC true s y) :
    (∀ a b, lo.map (op1 s) = some a → lo.map ρ = some b → Rv R ι h a b) ∧ (lo.map (op1 s) = none ↔ lo.map ρ = none) := by
  cases lo with
  | none => exact ⟨fun a b h => by simp at h, by simp⟩
  | some y => exact ⟨fun a b h1 h2 => by simp at h1 h2; subst h1; subst h2; exact op1_ok hs rfl (hc y rfl), by simp⟩

theorem setL_len (cs : List LV) (o : Nat) (xs : List LV) : (setL cs o xs).length = cs.length := by
  induction xs generalizing cs o with
  | nil => rfl
  | cons x r ih => simp [setL, ih]

def ArrOk (R : RO) (ι : IM) (h : LH) (cs : List LV) (vs : Array Value) : Prop :=
  vs.size = cs.length ∧ (∀ i c, cs[i]? = some c → Rv R ι h c (vs.getD i undef)) ∧ ∀ i, i < vs.size → plainV (vs.getD i undef) = true

theorem getD_set {vs : Array Value} {i j : Nat} {v : Value} : (vs.setIfInBounds i v).getD j undef = if i = j ∧ i < vs.size then v else vs.getD j undef := by
  simp only [Array.getD_eq_getD_getElem?, Array.getElem?_setIfInBounds]
  by_cases e : i = j
  · subst e
    by_cases hl : i < vs.size <;> simp [hl]
  · simp [e]

theorem ArrOk.set {cs : List LV} {vs : Array Value} (ha : ArrOk R ι h cs vs) {i : Nat} (hi : i < cs.length) {c : LV} {v : Value} (hc : Rv R ι h c v) (hp : plainV v = true) : ArrOk R ι h (cs.set i c) (vs.setIfInBounds i v) := by
  obtain ⟨h1, h2, h3⟩ := ha
  refine ⟨by simp [h1], fun j d hj => ?_, fun j hj => ?_⟩
  · rw [getD_set, h1]
    by_cases e : i = j
    · subst e
      rw [List.getElem?_set_self hi] at hj
      injection hj with hj
      subst hj
      simp [hi, hc]
    · rw [List.getElem?_set_ne e] at hj
      simp only [e, false_and, if_false]
      exact h2 j d hj
  · rw [getD_set]
    split
    · exact hp
    · exact h3 j (by simpa using hj)

theorem foldl_set {cs : List LV} {vs : Array Value} (ha : ArrOk R ι h cs vs) (off : Nat) : ∀ (xs : List LV) (us : List Value) (k : Nat), us.length = xs.length → (∀ i c, xs[i]? = some c → Rv R ι h c (us.getD i undef)) → (∀ i, i < us.length → plainV (us.getD i undef) = true) →
    off + k + xs.length ≤ cs.length → ArrOk R ι h (setL cs (off + k) xs) ((us.zipIdx k).foldl (fun a (c, j) => a.setIfInBounds (off + j) c) vs) := by
  intro xs
  induction xs generalizing cs vs with
  | nil => intro us k hl _ _ _; cases us with
    | nil => exact ha
    | cons => simp at hl
  | cons x r ih =>
    intro us k hl hc hp hlen
    cases us with
    | nil => simp at hl
    | cons u us =>
      simp only [List.zipIdx_cons, List.foldl_cons, setL]
      have h0 := hc 0 x rfl
      have hp0 := hp 0 (by simp)
      simp only [List.length_cons] at hlen hl
      have := ih (ha.set (i := off + k) (by omega) h0 hp0) us (k + 1) (by omega) (fun i c hi => by
        have := hc (i + 1) c (by simpa using hi); simpa using this) (fun i hi => by have := hp (i + 1) (by simpa using hi); simpa using this) (by simp; omega)
      exact this

theorem fill_ok (pl : Nat → Option (Nat × Nat)) (hs : ∀ x, Rv R ι h (oev s x) (ρ x)) : ∀ (parts : List (Nat × Operand)) (l : List (Nat × Nat × Operand)) (cs : List LV) (vs : Array Value), partsO pl parts = some l → opLC true s l → fillC cs.length (opL s l) → ArrOk R ι h cs vs →
    ∃ us, Instr.fill pl vs (parts.map fun (i, x) => (i, ρ x)) = some us ∧ ArrOk R ι h (fillV cs (opL s l)) us := by
  intro parts
  induction parts with
  | nil => intro l cs vs hl _ _ ha; simp only [partsO, Option.some.injEq] at hl; subst hl; exact ⟨vs, rfl, ha⟩
  | cons p r ih =>
    intro l cs vs hl hoc hf ha
    obtain ⟨i, x⟩ := p
    simp only [partsO] at hl
    cases hp : pl i with
    | none => rw [hp] at hl; simp at hl
    | some oz =>
      obtain ⟨o, z⟩ := oz
      rw [hp] at hl
      cases hr : partsO pl r with
      | none => rw [hr] at hl; simp at hl
      | some l' =>
        rw [hr] at hl
        simp only [Option.some.injEq] at hl
        subst hl
        obtain ⟨hx, hoc⟩ := hoc
        obtain ⟨hok, hlen, hle, hf⟩ := hf
        have hrv := op1_ok hs rfl hx
        obtain ⟨hsz, hc, hpl⟩ := hrv.flat hok
        have harr : ArrOk R ι h (setL cs o (flat (op1 s x))) ((ρ x).cells.toList.zipIdx.foldl (fun a (c, j) => a.setIfInBounds (o + j) c) vs) := by
          have := foldl_set ha o (flat (op1 s x)) (ρ x).cells.toList 0 (by simpa using hsz) (fun i c hi => by
            have := hc i c hi
            rw [Array.getD_eq_getD_getElem?] at this
            rw [List.getD_eq_getElem?_getD]; simpa using this) (fun i hi => by
            have := hpl i (by simpa using hi)
            rw [Array.getD_eq_getD_getElem?] at this
            rw [List.getD_eq_getElem?_getD]; simpa using this) (by omega)
          exact this
        obtain ⟨us, h1, h2⟩ := ih l' (setL cs o (flat (op1 s x))) _ hr hoc (by rw [setL_len]; exact hf) harr
        refine ⟨us, ?_, h2⟩
        simp only [List.map_cons, Instr.fill, hp]
        rw [if_neg]
        · rw [← Array.foldl_toList] at *
          simpa using h1
        · simp only [Bool.not_eq_true, Bool.or_eq_false_iff, decide_eq_false_iff_not]
          have := ha.1
          constructor
          · simp; omega
          · omega

end
end Go.Proofs.YtdfiicpikcdokaaGreatDoor
namespace Go.Proofs.YtdfiicpikcdokaaGreatDoor
set_option linter.unusedSimpArgs false
set_option linter.unusedVariables false
open Go.RowKit

def KM : List CK → List Value → Prop
  | [], [] => True
  | .i k :: r, .int k' _ :: q => k' = k ∧ KM r q
  | .b :: r, .bool _ :: q => KM r q
  | .s :: r, .string _ :: q => KM r q
  | _, _ => False
def valOf (P : Program) (t : TypeId) (x : Value) (cx : List Value) : Prop := (aggT P t = true ∧ x = .agg cx.toArray) ∨ (aggT P t = false ∧ cx = [x])

section
variable {P : Program} {w : World}

theorem KM_len : ∀ {ks : List CK} {cs : List Value}, KM ks cs → cs.length = ks.length
  | [], [], _ => rfl
  | .i k :: r, .int k' _ :: q, h => by simp [KM_len h.2]
  | .b :: r, .bool _ :: q, h => by simp [KM_len (ks := r) h]
  | .s :: r, .string _ :: q, h => by simp [KM_len (ks := r) h]
theorem KM_app : ∀ {a b : List CK} {cs : List Value}, KM (a ++ b) cs → KM a (cs.take a.length) ∧ KM b (cs.drop a.length)
  | [], b, cs, h => ⟨trivial, h⟩
  | .i k :: r, b, .int k' n :: q, h => by
    obtain ⟨h1, h2⟩ := KM_app (a := r) h.2
    exact ⟨⟨h.1, h1⟩, h2⟩
  | .b :: r, b, .bool _ :: q, h => KM_app (a := r) h
  | .s :: r, b, .string _ :: q, h => KM_app (a := r) h
theorem aggT_none {t : TypeId} (hk : ldK P t = some none) : aggT P t = false := by
  unfold ldK at hk
  unfold aggT
  cases hu : P.underlying t with
  | none => rfl
  | some d => rw [hu] at hk; cases d <;> cases hi : P.info? t <;> simp_all
theorem aggT_some {t : TypeId} {m : Nat} (hk : ldK P t = some (some m)) : aggT P t = true := by
  unfold ldK at hk
  unfold aggT
  cases hu : P.underlying t with
  | none => rw [hu] at hk; simp at hk
  | some d => rw [hu] at hk; cases d <;> cases hi : P.info? t <;> simp_all
theorem part_val {t : TypeId} {n : Option Nat} (hk : ldK P t = some n) {cx : List Value} {off : Nat} (hl : off + n.getD 1 ≤ cx.length) :
    ∃ v, (part t cx.toArray off).run P w = .ok v w ∧ valOf P t v ((cx.drop off).take (n.getD 1)) := by
  cases n with
  | none =>
    simp only [Option.getD_none] at hl ⊢
    have hlt : off < cx.toArray.size := by simp; omega
    refine ⟨cx[off]'(by omega), ?_, .inr ⟨aggT_none hk, ?_⟩⟩
    · simp only [part, Sem.run_bind, ldK_none hk, Result.andThen_ok, Bool.false_eq_true, if_false, Array.getElem?_eq_getElem hlt, Sem.run_pure]
      rfl
    · rw [List.drop_eq_getElem_cons (by omega)]; rfl
  | some m =>
    simp only [Option.getD_some] at hl ⊢
    refine ⟨.agg (cx.toArray.extract off (off + m)), ?_, .inl ⟨aggT_some hk, ?_⟩⟩
    · simp only [part, Sem.run_bind, (ldK_some hk).1, (ldK_some hk).2, Result.andThen_ok, if_true, Sem.run_pure]
    · congr 1
      apply Array.ext'
      simp only [Array.toList_extract, List.extract_eq_take_drop]
      rw [show off + m - off = m by omega]

def EqGood (P : Program) (dd : Nat) (t : TypeId) (ks : List CK) : Prop :=
  ∀ (w : World) (x y : Value) (cx cy : List Value), KM ks cx → KM ks cy → valOf P t x cx → valOf P t y cy → ∃ r, (Op.equalIn dd t x y).run P w = .ok r w ∧ (r = true ↔ cx = cy)

theorem eqFields_good {dd : Nat} {g : TypeId → Option (List CK)} (hg : ∀ t ks, g t = some ks → EqGood P dd t ks) (xs ys : List Value) : ∀ (fs : List Field) (off : Nat) (ks : List CK), eqKsF P g fs off = some ks → off ≤ xs.length → off ≤ ys.length →
    KM ks (xs.drop off) → KM ks (ys.drop off) → ∃ r, (Op.eqFields dd xs.toArray ys.toArray fs).run P w = .ok r w ∧ (r = true ↔ xs.drop off = ys.drop off)
  | [], off, ks, h, ox, oy, hx, hy => by
    simp only [eqKsF, Option.some.injEq] at h; subst h
    have h1 := KM_len hx
    have h2 := KM_len hy
    refine ⟨true, by simp [Op.eqFields], ?_⟩
    rw [List.length_eq_zero_iff.1 h1, List.length_eq_zero_iff.1 h2]
    simp
  | f :: r, off, ks, h, ox, oy, hx, hy => by
    simp only [eqKsF] at h
    split at h
    · rename_i a b n ha hb hn
      split at h
      · rename_i hc
        injection h with h; subst h
        obtain ⟨rfl, c2, c3, c4⟩ := hc
        obtain ⟨x1, x2⟩ := KM_app hx
        obtain ⟨y1, y2⟩ := KM_app hy
        have lx := KM_len hx
        have ly := KM_len hy
        simp only [List.length_append, List.length_drop] at lx ly
        obtain ⟨vx, p1, p2⟩ := part_val (w := w) hn (cx := xs) (off := f.offset) (by omega)
        obtain ⟨vy, q1, q2⟩ := part_val (w := w) hn (cx := ys) (off := f.offset) (by omega)
        rw [c4] at p2 q2
        obtain ⟨r1, e1, e2⟩ := hg _ _ ha w vx vy _ _ x1 y1 p2 q2
        rw [List.drop_drop, c3] at x2 y2
        obtain ⟨r2, e3, e4⟩ := eqFields_good hg xs ys r _ b hb (by omega) (by omega) x2 y2
        have hsplit : xs.drop f.offset = ys.drop f.offset ↔ (xs.drop f.offset).take a.length = (ys.drop f.offset).take a.length ∧ xs.drop (f.offset + P.cellsOf f.type) = ys.drop (f.offset + P.cellsOf f.type) := by
          rw [← c3, ← List.drop_drop, ← List.drop_drop]
          constructor
          · intro h; rw [h]; exact ⟨rfl, rfl⟩
          · rintro ⟨h1, h2⟩
            rw [← List.take_append_drop a.length (xs.drop f.offset), h1, h2, List.take_append_drop]
        cases r1
        · refine ⟨false, by simp [Op.eqFields, c2, p1, q1, e1], ?_⟩
          simp only [Bool.false_eq_true, false_iff]
          intro h
          have := e2.2 (hsplit.1 h).1
          simp at this
        · refine ⟨r2, by simp [Op.eqFields, c2, p1, q1, e1, e3], ?_⟩
          rw [e4, hsplit]
          exact ⟨fun h => ⟨e2.1 rfl, h⟩, fun h => h.2⟩
      · simp at h
    · simp at h

theorem eqItems_good {dd : Nat} {e : TypeId} {a : List CK} {z : Option Nat} (hg : EqGood P dd e a) (hz : ldK P e = some z) (hl : a.length = P.cellsOf e) (hz2 : z.getD 1 = a.length) (xs ys : List Value) : ∀ (n k : Nat), k * P.cellsOf e ≤ xs.length → k * P.cellsOf e ≤ ys.length →
    KM (List.replicate n a).flatten (xs.drop (k * P.cellsOf e)) → KM (List.replicate n a).flatten (ys.drop (k * P.cellsOf e)) →
    ∃ r, (Op.eqItems dd e (P.cellsOf e) xs.toArray ys.toArray (List.range' k n)).run P w = .ok r w ∧ (r = true ↔ xs.drop (k * P.cellsOf e) = ys.drop (k * P.cellsOf e))
  | 0, k, ox, oy, hx, hy => by
    have h1 := KM_len hx
    have h2 := KM_len hy
    refine ⟨true, by simp [Op.eqItems], ?_⟩
    rw [List.length_eq_zero_iff.1 h1, List.length_eq_zero_iff.1 h2]
    simp
  | n + 1, k, ox, oy, hx, hy => by
    rw [List.replicate_succ, List.flatten_cons] at hx hy
    obtain ⟨x1, x2⟩ := KM_app hx
    obtain ⟨y1, y2⟩ := KM_app hy
    have lx := KM_len hx
    have ly := KM_len hy
    simp only [List.length_append, List.length_drop] at lx ly
    obtain ⟨vx, p1, p2⟩ := part_val (w := w) hz (cx := xs) (off := k * P.cellsOf e) (by omega)
    obtain ⟨vy, q1, q2⟩ := part_val (w := w) hz (cx := ys) (off := k * P.cellsOf e) (by omega)
    rw [hz2] at p2 q2
    obtain ⟨r1, e1, e2⟩ := hg w vx vy _ _ x1 y1 p2 q2
    have hk : k * P.cellsOf e + P.cellsOf e = (k + 1) * P.cellsOf e := by rw [Nat.succ_mul]
    rw [List.drop_drop, hl, hk] at x2 y2
    obtain ⟨r2, e3, e4⟩ := eqItems_good hg hz hl hz2 xs ys n (k + 1) (by omega) (by omega) x2 y2
    have hsplit : xs.drop (k * P.cellsOf e) = ys.drop (k * P.cellsOf e) ↔ (xs.drop (k * P.cellsOf e)).take a.length = (ys.drop (k * P.cellsOf e)).take a.length ∧ xs.drop ((k + 1) * P.cellsOf e) = ys.drop ((k + 1) * P.cellsOf e) := by
      rw [← hk, ← hl, ← List.drop_drop, ← List.drop_drop]
      constructor
      · intro h; rw [h]; exact ⟨rfl, rfl⟩
      · rintro ⟨h1, h2⟩
        rw [← List.take_append_drop a.length (xs.drop (k * a.length)), h1, h2, List.take_append_drop]
    rw [List.range'_succ]
    cases r1
    · refine ⟨false, by simp [Op.eqItems, p1, q1, e1], ?_⟩
      simp only [Bool.false_eq_true, false_iff]
      intro h
      have := e2.2 (hsplit.1 h).1
      simp at this
    · refine ⟨r2, by simp [Op.eqItems, p1, q1, e1, e3], ?_⟩
      rw [e4, hsplit]
      exact ⟨fun h => ⟨e2.1 rfl, h⟩, fun h => h.2⟩

theorem eqKs_good : ∀ (d D : Nat) (t : TypeId) (ks : List CK), eqKs P d t = some ks → EqGood P (D + d) t ks
  | 0, _, _, _, h => by simp [eqKs] at h
  | d + 1, D, t, ks, h => by
    intro w x y cx cy hx hy vx vy
    unfold eqKs at h
    split at h
    · rename_i k hu
      injection h with h; subst h
      have ha : aggT P t = false := by unfold aggT; rw [hu]
      rcases vx with ⟨h1, _⟩ | ⟨_, rfl⟩
      · rw [ha] at h1; simp at h1
      rcases vy with ⟨h1, _⟩ | ⟨_, rfl⟩
      · rw [ha] at h1; simp at h1
      cases x <;> simp only [KM] at hx
      cases y <;> simp only [KM] at hy
      rename_i k1 n1 k2 n2
      obtain ⟨rfl, _⟩ := hx
      obtain ⟨rfl, _⟩ := hy
      exact ⟨n1 == n2, by rw [show D + (d + 1) = (D + d) + 1 from rfl]; exact run_equalIn_int w (D + d) t _ _ n1 n2 hu, by simp⟩
    · rename_i hu
      injection h with h; subst h
      have ha : aggT P t = false := by unfold aggT; rw [hu]
      rcases vx with ⟨h1, _⟩ | ⟨_, rfl⟩
      · rw [ha] at h1; simp at h1
      rcases vy with ⟨h1, _⟩ | ⟨_, rfl⟩
      · rw [ha] at h1; simp at h1
      cases x <;> simp only [KM] at hx
      cases y <;> simp only [KM] at hy
      rename_i b1 b2
      exact ⟨b1 == b2, by rw [show D + (d + 1) = (D + d) + 1 from rfl]; exact run_equalIn_bool' w (D + d) t b1 b2 hu, by simp⟩
    · rename_i hu
      injection h with h; subst h
      have ha : aggT P t = false := by unfold aggT; rw [hu]
      rcases vx with ⟨h1, _⟩ | ⟨_, rfl⟩
      · rw [ha] at h1; simp at h1
      rcases vy with ⟨h1, _⟩ | ⟨_, rfl⟩
      · rw [ha] at h1; simp at h1
      cases x <;> simp only [KM] at hx
      cases y <;> simp only [KM] at hy
      rename_i b1 b2
      refine ⟨b1.toList == b2.toList, by rw [show D + (d + 1) = (D + d) + 1 from rfl]; exact run_equalIn_string w (D + d) t b1 b2 hu, ?_⟩
      rw [ba_eq]; simp
    · rename_i fs hu
      have ha : aggT P t = true := by unfold aggT; rw [hu]
      rcases vx with ⟨_, rfl⟩ | ⟨h1, _⟩
      · rcases vy with ⟨_, rfl⟩ | ⟨h1, _⟩
        · split at h
          · rename_i hs
            have hfs : P.fieldsOf t = fs := by simp [Program.fieldsOf, hu]
            obtain ⟨r, e1, e2⟩ := eqFields_good (w := w) (dd := D + d) (fun t ks hk => eqKs_good d D t ks hk) cx cy fs.toList 0 ks h (Nat.zero_le _) (Nat.zero_le _) (by simpa using hx) (by simpa using hy)
            refine ⟨r, ?_, by simpa using e2⟩
            rw [show D + (d + 1) = (D + d) + 1 from rfl, run_equalIn_struct w (D + d) t _ _ (by rw [hfs]; exact hu) hs, hfs]
            exact e1
          · simp at h
        · rw [ha] at h1; simp at h1
      · rw [ha] at h1; simp at h1
    · rename_i n e hu
      have ha : aggT P t = true := by unfold aggT; rw [hu]
      rcases vx with ⟨_, rfl⟩ | ⟨h1, _⟩
      · rcases vy with ⟨_, rfl⟩ | ⟨h1, _⟩
        · split at h
          · rename_i a z hka hz
            split at h
            · rename_i hc
              injection h with h; subst h
              obtain ⟨r, e1, e2⟩ := eqItems_good (w := w) (eqKs_good d D e a hka) hz hc.1 hc.2 cx cy n 0 (by simp) (by simp) (by simpa using hx) (by simpa using hy)
              have hi : ∃ i, P.info? e = some i := by
                unfold ldK at hz
                cases hi : P.info? e with
                | some i => exact ⟨i, rfl⟩
                | none => rw [hi] at hz; cases hu2 : P.underlying e with
                  | none => rw [hu2] at hz; simp at hz
                  | some d => rw [hu2] at hz; cases d <;> simp at hz
              obtain ⟨i, hi⟩ := hi
              refine ⟨r, ?_, by simpa using e2⟩
              rw [show D + (d + 1) = (D + d) + 1 from rfl, run_equalIn_array w (D + d) _ _ hu hi, List.range_eq_range']
              exact e1
            · simp at h
          · simp at h
        · rw [ha] at h1; simp at h1
      · rw [ha] at h1; simp at h1
    · simp at h
end
section
variable {P : Program} {R : RO} {ι : IM} {h : LH} {w : World}
theorem kind_ok : ∀ {ks : List CK} {xs : List LV} {vs : List Value}, kindL ks xs → vs.length = xs.length → (∀ (i : Nat) (c : LV) (v : Value), xs[i]? = some c → vs[i]? = some v → Rv R ι h c v) → KM ks vs
  | [], [], [], _, _, _ => trivial
  | [], [], _ :: _, _, hl, _ => by simp at hl
  | k :: r, x :: q, [], _, hl, _ => by simp at hl
  | k :: r, x :: q, v :: u, hk, hl, hc => by
    have h0 := hc 0 x v rfl rfl
    have hr : ∀ (i : Nat) (c : LV) (v : Value), q[i]? = some c → u[i]? = some v → Rv R ι h c v := fun i c v h1 h2 => hc (i + 1) c v (by simpa using h1) (by simpa using h2)
    have hl' : u.length = q.length := by simpa using hl
    unfold kindL at hk
    split at hk
    · rename_i e _; simp at e
    · rename_i e1 e2
      injection e1 with e1 e1'
      injection e2 with e2 e2'
      subst e1 e1' e2 e2'
      obtain ⟨rfl, _⟩ := h0.sc_inv
      exact ⟨hk.1, kind_ok hk.2 hl' hr⟩
    · rename_i e1 e2
      injection e1 with e1 e1'
      injection e2 with e2 e2'
      subst e1 e1' e2 e2'
      obtain ⟨rfl, _⟩ := h0.sc_inv
      exact kind_ok (ks := r) hk hl' hr
    · rename_i e1 e2
      injection e1 with e1 e1'
      injection e2 with e2 e2'
      subst e1 e1' e2 e2'
      obtain ⟨rfl, _⟩ := h0.sc_inv
      exact kind_ok (ks := r) hk hl' hr
    · exact hk.elim
  | [], _ :: _, _, hk, _, _ => hk.elim
  | .i _ :: _, [], _, hk, _, _ => hk.elim
  | .b :: _, [], _, hk, _, _ => hk.elim
  | .s :: _, [], _, hk, _, _ => hk.elim
def cellOf : CK → LV → Prop
  | .i k, x => ∃ n, x = .sc (.int k n)
  | .b, x => ∃ b, x = .sc (.bool b)
  | .s, x => ∃ s, x = .sc (.string s)
theorem kind_inv {k : CK} {r : List CK} {x : LV} {q : List LV} (h : kindL (k :: r) (x :: q)) : kindL r q ∧ cellOf k x := by
  unfold kindL at h
  split at h
  · rename_i e _; simp at e
  · rename_i e1 e2
    injection e1 with e1 e1'
    injection e2 with e2 e2'
    subst e1 e1' e2 e2'
    exact ⟨h.2, _, by rw [← h.1]⟩
  · rename_i e1 e2
    injection e1 with e1 e1'
    injection e2 with e2 e2'
    subst e1 e1' e2 e2'
    exact ⟨h, _, rfl⟩
  · rename_i e1 e2
    injection e1 with e1 e1'
    injection e2 with e2 e2'
    subst e1 e1' e2 e2'
    exact ⟨h, _, rfl⟩
  · exact h.elim
theorem eqL_ok : ∀ {ks : List CK} {xs ys : List LV} {vs us : List Value}, kindL ks xs → kindL ks ys → vs.length = xs.length → us.length = ys.length → (∀ (i : Nat) (c : LV) (v : Value), xs[i]? = some c → vs[i]? = some v → Rv R ι h c v) →
    (∀ (i : Nat) (c : LV) (v : Value), ys[i]? = some c → us[i]? = some v → Rv R ι h c v) → (eqL xs ys = true ↔ vs = us)
  | [], [], [], [], [], _, _, _, _, _, _ => by simp [eqL]
  | k :: r, x :: q, y :: q', v :: u, v' :: u', hk, hk', hl, hl', hc, hc' => by
    have h0 := hc 0 x v rfl rfl
    have h0' := hc' 0 y v' rfl rfl
    have hr : ∀ (i : Nat) (c : LV) (v : Value), q[i]? = some c → u[i]? = some v → Rv R ι h c v := fun i c v h1 h2 => hc (i + 1) c v (by simpa using h1) (by simpa using h2)
    have hr' : ∀ (i : Nat) (c : LV) (v : Value), q'[i]? = some c → u'[i]? = some v → Rv R ι h c v := fun i c v h1 h2 => hc' (i + 1) c v (by simpa using h1) (by simpa using h2)
    have hkr : kindL r q ∧ kindL r q' := ⟨(kind_inv hk).1, (kind_inv hk').1⟩
    have ih := eqL_ok hkr.1 hkr.2 (by simpa using hl) (by simpa using hl') hr hr'
    have hcell : eqCell x y = true ↔ v = v' := by
      have a1 := (kind_inv hk).2
      have a2 := (kind_inv hk').2
      cases k with
      | i kk =>
        obtain ⟨n, rfl⟩ := a1
        obtain ⟨m, rfl⟩ := a2
        obtain ⟨rfl, _⟩ := h0.sc_inv
        obtain ⟨rfl, _⟩ := h0'.sc_inv
        simp [eqCell]
      | b =>
        obtain ⟨n, rfl⟩ := a1
        obtain ⟨m, rfl⟩ := a2
        obtain ⟨rfl, _⟩ := h0.sc_inv
        obtain ⟨rfl, _⟩ := h0'.sc_inv
        simp [eqCell]
      | s =>
        obtain ⟨n, rfl⟩ := a1
        obtain ⟨m, rfl⟩ := a2
        obtain ⟨rfl, _⟩ := h0.sc_inv
        obtain ⟨rfl, _⟩ := h0'.sc_inv
        simp [eqCell]
    simp only [eqL, Bool.and_eq_true, hcell, ih, List.cons.injEq]
  | [], [], [], _ :: _, _, _, _, hl, _, _, _ => by simp at hl
  | [], [], [], [], _ :: _, _, _, _, hl, _, _ => by simp at hl
  | _ :: _, _ :: _, _ :: _, [], _, _, _, hl, _, _, _ => by simp at hl
  | _ :: _, _ :: _, _ :: _, _ :: _, [], _, _, _, hl, _, _ => by simp at hl
  | [], _ :: _, _, _, _, hk, _, _, _, _, _ => hk.elim
  | [], [], _ :: _, _, _, _, hk, _, _, _, _ => hk.elim
  | k :: _, [], _, _, _, hk, _, _, _, _, _ => by cases k <;> exact hk.elim
  | k :: _, _ :: _, [], _, _, _, hk, _, _, _, _ => by cases k <;> exact hk.elim

theorem eqa_ok {t : TypeId} {ks : List CK} (hk : eqKs P 20 t = some ks) (ha : aggT P t = true) {x y : LV} {vx vy : Value} (hx : Rv R ι h x vx) (hy : Rv R ι h y vy) (hc : eqaC ks x y) :
    ∃ xs ys : Array Value, vx = .agg xs ∧ vy = .agg ys ∧ ∃ r, (Op.equal t vx vy).run P w = .ok r w ∧ ∀ neg, eqaV neg x y = .sc (.bool (bif neg then !r else r)) := by
  unfold eqaC at hc
  split at hc
  · rename_i cs ds
    obtain ⟨xs, rfl, h1, h2, _⟩ := hx.agg_inv
    obtain ⟨ys, rfl, g1, g2, _⟩ := hy.agg_inv
    have hx' : ∀ (i : Nat) (c : LV) (v : Value), cs[i]? = some c → xs.toList[i]? = some v → Rv R ι h c v := fun i c v hc hv => by
      have := h2 i c hc
      rw [Array.getElem?_toList] at hv
      rw [Array.getD_eq_getD_getElem?, hv] at this; exact this
    have hy' : ∀ (i : Nat) (c : LV) (v : Value), ds[i]? = some c → ys.toList[i]? = some v → Rv R ι h c v := fun i c v hc hv => by
      have := g2 i c hc
      rw [Array.getElem?_toList] at hv
      rw [Array.getD_eq_getD_getElem?, hv] at this; exact this
    obtain ⟨r, e1, e2⟩ := eqKs_good 20 9980 t ks hk w (.agg xs) (.agg ys) xs.toList ys.toList (kind_ok hc.1 (by simpa using h1) hx') (kind_ok hc.2 (by simpa using g1) hy') (.inl ⟨ha, by simp⟩) (.inl ⟨ha, by simp⟩)
    refine ⟨xs, ys, rfl, rfl, r, e1, fun neg => ?_⟩
    have := eqL_ok hc.1 hc.2 (by simpa using h1) (by simpa using g1) hx' hy'
    have hb : eqL cs ds = r := by rw [Bool.eq_iff_iff, this, e2]
    simp only [eqaV, hb]
  · exact hc.elim
end
end Go.Proofs.YtdfiicpikcdokaaGreatDoor
namespace Go.Proofs.YtdfiicpikcdokaaGreatDoor
set_option linter.unusedSimpArgs false
set_option linter.unusedVariables false
open Go.RowKit

section
variable {P : Program} {R : RO} {ι : IM} {h : LH} {B : Nat} {w : World} {s : LS} {ρ : Operand → Value}

theorem places_ok : ∀ (fs : List Field) (l : List (Nat × Nat)), placesO P fs = some l → (fs.mapM (m := Sem) fun f => do pure (f.offset, ← sizeOf f.type)).run P w = .ok l w := by
  intro fs
  induction fs with
  | nil => intro l hl; simp only [placesO, Option.some.injEq] at hl; subst hl; simp
  | cons f r ih =>
    intro l hl
    simp only [placesO] at hl
    cases hi : P.info? f.type with
    | none => rw [hi] at hl; simp at hl
    | some i =>
      cases hr : placesO P r with
      | none => rw [hi, hr] at hl; simp at hl
      | some l' =>
        rw [hi, hr] at hl
        simp only [Option.some.injEq] at hl
        subst hl
        have := ih l' hr
        simp only [List.mapM_cons, Sem.run_bind, sizeOf, typeInfo, run_program, Result.andThen_ok, hi, Sem.run_pure]
        simp only [sizeOf, typeInfo] at this
        rw [this]; rfl

theorem zero_arr {t : TypeId} {z : List Value} (hz : zeroCells P t = some z) : ∃ v, (zeroValue t).run P w = .ok v w ∧ v.cells.toList = z ∧ ArrOk R ι h (z.map liftC1) v.cells := by
  unfold zeroCells at hz
  cases hi : P.info? t with
  | none => rw [hi] at hz; simp at hz
  | some i =>
    rw [hi] at hz
    simp only at hz
    cases hv : i.zero with
    | none => rw [hv] at hz; simp at hz
    | some v =>
      rw [hv] at hz
      simp only at hz
      split at hz
      · rename_i hp
        injection hz with hz
        have hall : ∀ j, (hj : j < v.cells.size) → plainV v.cells[j] = true := by simpa [Array.all_eq_true] using hp
        refine ⟨v, by simp [zeroValue, typeInfo, hi, hv], hz, ?_, ?_, ?_⟩
        · rw [← hz]; simp
        · intro j c hj
          rw [← hz] at hj
          simp only [List.getElem?_map, Option.map_eq_some_iff] at hj
          obtain ⟨x, hx, rfl⟩ := hj
          have hlt : j < v.cells.size := by
            have := (List.getElem?_eq_some_iff.1 hx).1; simpa using this
          have e : v.cells.getD j undef = x := by
            rw [Array.getD_eq_getD_getElem?, Array.getElem?_eq_getElem hlt]
            simp at hx
            rw [Array.getElem?_eq_getElem hlt] at hx
            injection hx
          rw [e, ← e, Array.getD_eq_getD_getElem?, Array.getElem?_eq_getElem hlt]
          exact rv_liftC1 (hall j hlt)
        · intro j hj
          rw [Array.getD_eq_getD_getElem?, Array.getElem?_eq_getElem hj]
          exact hall j hj
      · simp at hz

theorem bld_ok_struct {t : TypeId} {fs : Array Field} {z : List Value} {pl : List (Nat × Nat)} {parts : Array (Nat × Operand)} {l : List (Nat × Nat × Operand)} (ht : P.underlying t = some (.struct fs)) (hz : zeroCells P t = some z)
    (hpl : placesO P fs.toList = some pl) (hl : partsO (pl[·]?) parts.toList = some l) (hs : ∀ x, Rv R ι h (oev s x) (ρ x)) (h1 : opLC true s l) (h2 : fillC z.length (opL s l)) :
    ∃ v, (Instr.build t (parts.map fun (i, x) => (i, ρ x))).run P w = .ok v w ∧ Rv R ι h (.agg (fillV (z.map liftC1) (opL s l))) v := by
  obtain ⟨zv, hz1, hz2, hz3⟩ := zero_arr (P := P) (R := R) (ι := ι) (h := h) (w := w) hz
  obtain ⟨us, hf1, hf2⟩ := fill_ok (R := R) (ι := ι) (h := h) (s := s) (ρ := ρ) (pl[·]?) hs parts.toList l _ zv.cells hl h1 (by simpa using h2) hz3
  refine ⟨.agg us, ?_, .agg _ _ hf2.1 hf2.2.1 hf2.2.2⟩
  have hm : (fs.mapM (m := Sem) fun f => do pure (f.offset, ← sizeOf f.type)).run P w = .ok pl.toArray w := by
    rw [Array.mapM_eq_mapM_toList]
    simp only [Sem.run_map, places_ok (P := P) (w := w) fs.toList pl hpl, Result.andThen_ok]
  simp only [Instr.build, Sem.run_bind, hz1, Result.andThen_ok, underlying, run_program, ht, Sem.run_pure, hm]
  have e : (fun x : Nat => pl.toArray[x]?) = (fun x : Nat => pl[x]?) := by funext x; simp
  simp only [e, Array.toList_map, hf1, Sem.run_pure]

theorem bld_ok_array {t e : TypeId} {len n : Nat} {z : List Value} {parts : Array (Nat × Operand)} {l : List (Nat × Nat × Operand)} (ht : P.underlying t = some (.array len e)) (hz : zeroCells P t = some z)
    (hn : sizeO P e = some n) (hl : partsO (fun i => some (i * n, n)) parts.toList = some l) (hs : ∀ x, Rv R ι h (oev s x) (ρ x)) (h1 : opLC true s l) (h2 : fillC z.length (opL s l)) :
    ∃ v, (Instr.build t (parts.map fun (i, x) => (i, ρ x))).run P w = .ok v w ∧ Rv R ι h (.agg (fillV (z.map liftC1) (opL s l))) v := by
  obtain ⟨zv, hz1, hz2, hz3⟩ := zero_arr (P := P) (R := R) (ι := ι) (h := h) (w := w) hz
  obtain ⟨us, hf1, hf2⟩ := fill_ok (R := R) (ι := ι) (h := h) (s := s) (ρ := ρ) (fun i => some (i * n, n)) hs parts.toList l _ zv.cells hl h1 (by simpa using h2) hz3
  refine ⟨.agg us, ?_, .agg _ _ hf2.1 hf2.2.1 hf2.2.2⟩
  simp only [Instr.build, Sem.run_bind, hz1, Result.andThen_ok, underlying, run_program, ht, Sem.run_pure, sizeO_ok hn]
  simp only [Array.toList_map, hf1, Sem.run_pure]

theorem mkf_ok {f : FuncId} {caps : List Operand} (hs : ∀ x, Rv R ι h (oev s x) (ρ x)) (hc : ∀ x, x ∈ caps → opC true s x) : Rv R ι h (.fn f (caps.map (op1 s))) (.func (.func f) #[] (caps.map ρ).toArray) := by
  refine .fn _ _ _ (by simp) fun i c hi => ?_
  simp only [List.getElem?_map, Option.map_eq_some_iff] at hi
  obtain ⟨x, hx, rfl⟩ := hi
  have : (caps.map ρ).toArray.getD i undef = ρ x := by
    rw [Array.getD_eq_getD_getElem?]; simp [hx]
  rw [this]
  exact op1_ok hs rfl (hc x (List.mem_of_getElem? hx))

theorem nilc_ok {x : LV} {vx : Value} (hx : Rv R ι h x vx) (hc : nilcC x) : (∃ a, vx = .pointer (some a)) ∨ ∃ f vs, vx = .func (.func f) #[] vs := by
  unfold nilcC at hc
  split at hc
  · cases hx.rptr_inv; exact .inl ⟨_, rfl⟩
  · obtain ⟨a, rfl, _⟩ := hx.ptr_inv; exact .inl ⟨_, rfl⟩
  · obtain ⟨vs, rfl, _⟩ := hx.fn_inv; exact .inr ⟨_, _, rfl⟩
  · exact hc.elim

theorem nile_ok {x : LV} {vx : Value} (hx : Rv R ι h x vx) (hc : nileC h x) : ∃ a n c, vx = .slice a n c ∧ nileV x = .sc (.bool a.isNone) := by
  unfold nileC at hc
  split at hc
  · rw [hx.nsl_inv]; exact ⟨_, _, _, rfl, rfl⟩
  · cases hx.rsl_inv with
    | rsl sz n f a cap b o g hc1 hm ha => rw [ha hc]; exact ⟨_, _, _, rfl, rfl⟩
  · obtain ⟨a, cap, rfl, h1, h2, h3, h4, h5⟩ := hx.sl_inv
    obtain ⟨c1, c2, c3⟩ := hc
    rcases h5 with h5 | h5
    · omega
    · rw [(h5 c3.symm).1]; exact ⟨_, _, _, rfl, rfl⟩
  · exact hc.elim
theorem nile_eq {t e : TypeId} {a : Option Addr} {n c : Nat} (hu : P.underlying t = some (.slice e)) : (Op.equal t (.slice a n c) (.slice none 0 0)).run P w = .ok a.isNone w := by
  show (Op.equalIn (9999 + 1) t (.slice a n c) (.slice none 0 0)).run P w = .ok a.isNone w
  unfold Op.equalIn
  cases a <;> simp only [Sem.run_bind, underlying, run_program, Result.andThen_ok, hu, Sem.run_pure] <;> rfl
theorem nili_ok {x : LV} {vx : Value} (hx : Rv R ι h x vx) (hc : niliC x) : ∃ b, ifcV vx = some b ∧ ∀ neg, niliV neg x = .sc (.bool (neg ^^ b)) := by
  unfold niliC at hc
  split at hc
  · exact ⟨_, hx.ifc_inv, fun _ => rfl⟩
  · rw [hx.sc_inv.1]; exact ⟨true, rfl, fun neg => by cases neg <;> rfl⟩
  · exact hc.elim
theorem ifcV_inv {v : Value} {b : Bool} (h : ifcV v = some b) : (v = .nilIface ∧ b = true) ∨ ∃ te pe, v = .iface te pe ∧ b = false := by
  cases v <;> simp [ifcV] at h
  · exact .inr ⟨_, _, rfl, h⟩
  · exact .inl ⟨rfl, h⟩
theorem nili_eq {t : TypeId} {ms : Array (String × TypeId)} {v : Value} {b : Bool} (hv : ifcV v = some b) (hu : P.underlying t = some (.interface ms)) : (Op.equal t v .nilIface).run P w = .ok b w := by
  show (Op.equalIn (9999 + 1) t v .nilIface).run P w = .ok b w
  unfold Op.equalIn
  cases v <;> simp [ifcV] at hv <;> subst hv <;> simp only [Sem.run_bind, underlying, run_program, Result.andThen_ok, hu, Sem.run_pure]
theorem b2s_ok (hr : Rep R ι h B w) {x : LV} {vx : Value} (hx : Rv R ι h x vx) (hc : b2sC x) {a e t : TypeId} (ha : P.underlying a = some (.slice e)) (he : P.underlying e = some (.int .u8)) (ht : P.underlying t = some .string) : ∃ s, (convert a t vx).run P w = .ok (.string s) w ∧ b2sV x = .sc (.string s) := by
  unfold b2sC at hc
  split at hc
  · rename_i sz n f
    obtain ⟨rfl, h0, hu⟩ := hc
    cases hx.rsl_inv with
    | rsl sz n f q cap b o g hc1 hm hq hf hcell hv hp =>
      rw [hq h0]
      refine ⟨_, run_convert_bytes_arg w a e ha he b o n cap ((List.range n).map fun i => u8Of ((f i).getD 0 .any)) (by simp) (fun i hi => ?_) t ht, rfl⟩
      have h1 := hu i hi
      have h2 := ro_cell hr (hcell i 0 hi (by omega))
      have h3 := hv i 0
      rw [Nat.mul_one, Nat.add_zero] at h2
      rw [h2, List.getD_eq_getElem?_getD, List.getElem?_map, List.getElem?_range hi]
      simp only [Option.map_some, Option.getD_some]
      revert h1 h3
      generalize f i = l
      intro h1 h3
      unfold u8L at h1
      split at h1
      · rename_i y
        have h4 := (Rv.ro (ι := ι) (h := h) (h3 _ hi rfl)).sc_inv.1
        rw [h4]; rfl
      · exact h1.elim
  · exact hc.elim
theorem mx_ok {mn : Bool} {x y : LV} {vx vy : Value} (hx : Rv R ι h x vx) (hy : Rv R ι h y vy) (hc : mxC x y) : ∃ v, (bif mn then Builtin.min2 vx vy else Builtin.max2 vx vy).run P w = .ok v w ∧ Rv R ι h (mxV mn x y) v := by
  unfold mxC at hc
  split at hc
  · rename_i k a k' b
    obtain ⟨rfl, _⟩ := hx.sc_inv
    obtain ⟨rfl, _⟩ := hy.sc_inv
    cases mn
    · exact ⟨.int k (if b > a then b else a), by simp [Builtin.max2], .ro (.sc _ rfl)⟩
    · exact ⟨.int k (if b < a then b else a), by simp [Builtin.min2], .ro (.sc _ rfl)⟩
  · exact hc.elim
theorem binb_ok {t : TypeId} {a b : Bool} (hu : P.underlying t = some .bool) : (Op.equal t (.bool a) (.bool b)).run P w = .ok (a == b) w := by
  show (Op.equalIn (9999 + 1) t (.bool a) (.bool b)).run P w = .ok (a == b) w
  unfold Op.equalIn
  simp only [Sem.run_bind, underlying, run_program, Result.andThen_ok, hu, Sem.run_pure]

theorem keyedB_ok {k : TypeId} (hk : keyedB P k = true) : Maps.Keyed P k := by
  unfold keyedB at hk
  split at hk
  · rename_i hu; exact Maps.Keyed.of_law (WideMaps.string_law hu)
  · rename_i hu; exact Maps.int_keyed hu
  · rename_i hu; exact Maps.bool_keyed hu
  · rename_i hu
    simp only [Bool.and_eq_true, decide_eq_true_eq] at hk
    exact Maps.Keyed.of_law (deep_law_gate hk.1.1.1 hk.1.1.2 hk.1.2 hk.2 (by rw [hu]))
  · rename_i hu
    simp only [Bool.and_eq_true, decide_eq_true_eq] at hk
    exact Maps.Keyed.of_law (deep_law_gate hk.1.1.1 hk.1.1.2 hk.1.2 hk.2 (by rw [hu]))
  · simp at hk

theorem mfind_none {es : List (Value × LV)} {x : Value} (hn : ∀ kv, kv ∈ es → kv.1 ≠ x) : mfind es x = none := by
  induction es with
  | nil => rfl
  | cons kv r ih =>
    obtain ⟨k, v⟩ := kv
    simp only [mfind]
    rw [if_neg (hn (k, v) (by simp))]
    exact ih (fun kv h => hn kv (by simp [h]))
theorem mfind_some {es : List (Value × LV)} {x : Value} : ∀ {i : Nat} {kv : Value × LV}, (es.map (·.1)).Nodup → es[i]? = some kv → kv.1 = x → mfind es x = some kv.2 := by
  induction es with
  | nil => intro i kv _ h; simp at h
  | cons p r ih =>
    intro i kv hn hi hx
    obtain ⟨k, v⟩ := p
    simp only [mfind]
    simp only [List.map_cons, List.nodup_cons] at hn
    cases i with
    | zero => simp at hi; subst hi; rw [if_pos hx]
    | succ i =>
      have hi' : r[i]? = some kv := by simpa using hi
      rw [if_neg, ih hn.2 hi' hx]
      intro e
      apply hn.1
      rw [e, ← hx]
      exact List.mem_map_of_mem (List.mem_of_getElem? hi')

theorem keyV_ok {lv : LV} {v : Value} (hr : Rv R ι h lv v) (hk : keyC lv) : keyV lv = v := by
  unfold keyC at hk
  split at hk
  · exact (hr.sc_inv).1.symm
  · rename_i cs
    obtain ⟨vs, rfl, hl, hc, _⟩ := hr.agg_inv
    simp only [keyV]
    congr 1
    rw [← Array.toList_inj]
    simp only
    apply List.ext_getElem?
    intro i
    simp only [List.getElem?_map]
    cases hi : cs[i]? with
    | none =>
      have := List.getElem?_eq_none_iff.1 hi
      simp only [Option.map_none]
      rw [List.getElem?_eq_none (by simp; omega)]
    | some c =>
      have hlt : i < vs.size := by rw [hl]; exact (List.getElem?_eq_some_iff.1 hi).1
      have hci := hc i c hi
      have hsc : ∀ {l : List LV} {i : Nat} {c : LV}, scalC l → l[i]? = some c → ∃ u, c = .sc u := by
        intro l
        induction l with
        | nil => intro i c _ h; simp at h
        | cons a r ih =>
          intro i c h hi
          cases a <;> simp only [scalC] at h
          cases i with
          | zero => simp at hi; exact ⟨_, hi.symm⟩
          | succ i => exact ih h (by simpa using hi)
      obtain ⟨u, rfl⟩ := hsc hk hi
      have := hci.sc_inv.1
      simp only [Option.map_some]
      rw [Array.getElem?_toList, Array.getElem?_eq_getElem hlt]
      rw [Array.getD_eq_getD_getElem?, Array.getElem?_eq_getElem hlt] at this
      simp only [Option.getD_some] at this
      rw [this]; rfl
  · exact hk.elim

theorem mapLive_ok (hr : Rep R ι h B w) {lv : LV} {v : Value} (hv : Rv R ι h lv v) (hl : mapLive h lv) :
    ∃ b ents clock, v = .map (some b) ∧ w.heap[b]? = some (.map ents clock) ∧ ents.size = (mapE h lv).length ∧ ((mapE h lv).map (·.1)).Nodup ∧
      ∀ (i : Nat) (kv : Value × LV), (mapE h lv)[i]? = some kv → ∃ e : MapEntry, ents[i]? = some e ∧ e.key = kv.1 ∧ Rv R ι h kv.2 e.val := by
  unfold mapLive at hl
  split at hl
  · rename_i k ver
    obtain ⟨hk, hver, hm⟩ := hl
    obtain ⟨b, rfl, _, _, hb⟩ := hv.mp_inv
    have := hb hver.symm
    subst this
    simp only [mapE]
    cases hob : (h.f k).2 with
    | map es =>
      obtain ⟨ents, clock, h1, h2, h3, h4⟩ := hr.maps k es hk hob
      exact ⟨_, ents, clock, rfl, h1, h2, h3.2, h4⟩
    | _ => rw [hob] at hm; simp [LO.isMap] at hm
  · rename_i es
    cases hv.rmp_inv with
    | rmp _ b ents clock hb h2 h3 h4 h5 =>
      refine ⟨b, ents, clock, rfl, hr.ro _ _ hb, h2, h3, fun i kv hi => ?_⟩
      obtain ⟨e, he, hke⟩ := h4 i kv hi
      exact ⟨e, he, hke, .ro (h5 i kv e hi he)⟩
  · exact hl.elim

theorem getObj_map {b : Nat} {ents : Array MapEntry} {clock : Nat} (hw : w.heap[b]? = some (.map ents clock)) : (getObj b).run P w = .ok (.map ents clock) w := by
  simp [getObj, Sem.run, hw]

theorem find_ok {kt : TypeId} (K : Maps.Keyed P kt) {es : List (Value × LV)} {ents : Array MapEntry} {x : Value} (hsz : ents.size = es.length) (hn : (es.map (·.1)).Nodup)
    (hent : ∀ (i : Nat) (kv : Value × LV), es[i]? = some kv → ∃ e : MapEntry, ents[i]? = some e ∧ e.key = kv.1 ∧ Rv R ι h kv.2 e.val) (hk : keysOk P kt es x) :
    ((Instr.findKey kt x ents.toList).run P w = .ok none w ∧ mfind es x = none ∧ ∀ kv, kv ∈ es → kv.1 ≠ x) ∨
    ∃ (j : Nat) (e : MapEntry) (kv : Value × LV), (Instr.findKey kt x ents.toList).run P w = .ok (some (j, e.val)) w ∧ ents[j]? = some e ∧ e.key = x ∧ es[j]? = some kv ∧ kv.1 = x ∧ Rv R ι h kv.2 e.val ∧ mfind es x = some kv.2 := by
  obtain ⟨hx, hes⟩ := hk
  obtain ⟨lx, hlx⟩ := Option.isSome_iff_exists.1 hx
  have hkeys : ∀ e ∈ ents.toList, ∃ l, keyOf P kt e.key = some l := by
    intro e he
    obtain ⟨i, hi, rfl⟩ := List.getElem_of_mem he
    have hi' : i < es.length := by simpa [hsz] using hi
    obtain ⟨e', he', hke, _⟩ := hent i es[i] (List.getElem?_eq_getElem hi')
    have e1 : ents.toList[i] = e' := by
      have : ents[i]? = some ents.toList[i] := by
        rw [← Array.getElem?_toList, List.getElem?_eq_getElem hi]
      rw [this] at he'; injection he'
    rw [e1, hke]
    exact Option.isSome_iff_exists.1 (hes _ (List.getElem_mem hi'))
  rcases K.find w hlx ents.toList hkeys with ⟨h1, h2⟩ | ⟨j, e, h1, h2, h3⟩
  · left
    have hne : ∀ kv, kv ∈ es → kv.1 ≠ x := by
      intro kv hm e
      obtain ⟨i, hi, rfl⟩ := List.getElem_of_mem hm
      obtain ⟨en, g1, g2, _⟩ := hent i es[i] (List.getElem?_eq_getElem hi)
      exact h2 en (List.mem_of_getElem? (by rw [Array.getElem?_toList]; exact g1)) (by rw [g2, e])
    exact ⟨h1, mfind_none hne, hne⟩
  · right
    have hj : ents[j]? = some e := by rw [← Array.getElem?_toList]; exact h2
    have hjl : j < es.length := by rw [← hsz]; exact (Array.getElem?_eq_some_iff.1 hj).1
    obtain ⟨en, g1, g2, g3⟩ := hent j es[j] (List.getElem?_eq_getElem hjl)
    rw [hj] at g1
    injection g1 with g1
    subst g1
    exact ⟨j, e, es[j], h1, hj, h3, List.getElem?_eq_getElem hjl, by rw [← g2]; exact h3, g3, mfind_some hn (List.getElem?_eq_getElem hjl) (by rw [← g2]; exact h3)⟩

theorem lkp_ok (hr : Rep R ι h B w) {t kt e : TypeId} {z : Value} {ok : Bool} {m x : LV} {vm vx : Value} (ht : P.underlying t = some (.map kt e)) (hz : zeroV P e = some z) (hkt : keyedB P kt = true) (hm : Rv R ι h m vm) (hx : Rv R ι h x vx)
    (hl : mapLive h m) (hkc : keyC x) (hk : keysOk P kt (mapE h m) (keyV x)) : ∃ v, (Instr.lookup t vm vx ok).run P w = .ok v w ∧ Rv R ι h (lkpV z ok (mapE h m) (keyV x)) v := by
  obtain ⟨b, ents, clock, rfl, hw, hsz, hn, hent⟩ := mapLive_ok hr hm hl
  have hkx := keyV_ok hx hkc
  rw [hkx] at hk ⊢
  have K := keyedB_ok hkt
  obtain ⟨lx, hlx⟩ := Option.isSome_iff_exists.1 hk.1
  have hzr : (zeroValue e).run P w = .ok z w ∧ aggOk z = true := by
    unfold zeroV at hz
    cases hi : P.info? e with
    | none => rw [hi] at hz; simp at hz
    | some i =>
      rw [hi] at hz
      simp only at hz
      cases hzz : i.zero with
      | none => rw [hzz] at hz; simp at hz
      | some v =>
        rw [hzz] at hz
        simp only at hz
        split at hz
        · rename_i ha; injection hz with hz; subst hz; exact ⟨by simp [zeroValue, typeInfo, hi, hzz], ha⟩
        · simp at hz
  have hchk := K.check w ents.isEmpty hlx
  have hrun : ∀ (r : Option (Nat × Value)), (Instr.findKey kt vx ents.toList).run P w = .ok r w → (Instr.lookup t (.map (some b)) vx ok).run P w = .ok (if ok then .tuple #[(r.map (·.2)).getD z, .bool r.isSome] else (r.map (·.2)).getD z) w := by
    intro r hf
    cases r with
    | none => cases ok <;> simp [Instr.lookup, run_underlying ht, getObj_map hw, hchk, hf, hzr.1]
    | some jv => cases ok <;> simp [Instr.lookup, run_underlying ht, getObj_map hw, hchk, hf]
  rcases find_ok (P := P) (w := w) K hsz hn hent hk with ⟨h1, h2, _⟩ | ⟨j, en, kv, h1, _, _, _, _, h6, h7⟩
  · refine ⟨_, hrun _ h1, ?_⟩
    unfold lkpV
    rw [h2]
    cases ok with
    | true =>
      refine .tup _ _ rfl (fun i c hi => ?_)
      rcases i with _ | _ | i
      · simp at hi; subst hi; exact rv_liftC hzr.2
      · simp at hi; subst hi; exact rv_sc rfl
      · simp at hi
    | false => exact rv_liftC hzr.2
  · refine ⟨_, hrun _ h1, ?_⟩
    unfold lkpV
    rw [h7]
    cases ok with
    | true =>
      refine .tup _ _ rfl (fun i c hi => ?_)
      rcases i with _ | _ | i
      · simp at hi; subst hi; exact h6
      · simp at hi; subst hi; exact rv_sc rfl
      · simp at hi
    | false => exact h6

theorem pop_eq (hs : ∀ x, Rv R ι h (oev s x) (ρ x)) {op : BinOp} {t yt : TypeId} {x y : Operand} {lo : LOp} {dst : Option Nat} {ty : TypeId} {pos : String} {after : Array Edge} {guard : Option (Nat × Bool)} (hc : cEq P op t x y = some lo) (hv : pvc P true s h lo) :
    pfact s lo ∧ ∃ v, (execOp ρ ⟨dst, .binOp op t x y yt, ty, pos, after, guard⟩).run P w = .ok (.value v) w ∧ Rv R ι h (pval s h lo) v := by
  unfold cEq at hc
  split at hc
  · rename_i ks hk
    split at hc
    · rename_i hg
      injection hc with hc; subst hc
      obtain ⟨h1, h2, h3⟩ := hv
      obtain ⟨xs, ys, e1, e2, r, e3, e4⟩ := eqa_ok (w := w) hk hg.1 (op1_ok hs rfl h1) (op1_ok hs rfl h2) h3
      rw [e1, e2] at e3
      refine ⟨trivial, .bool r, ?_, ?_⟩
      · simp [execOp, e1, e2, eqGuard, hg.2, binOp, e3]
      · simp only [pval, e4]
        cases r <;> exact rv_sc rfl
    · simp at hc
  · rename_i ks hk
    split at hc
    · rename_i hg
      injection hc with hc; subst hc
      obtain ⟨h1, h2, h3⟩ := hv
      obtain ⟨xs, ys, e1, e2, r, e3, e4⟩ := eqa_ok (w := w) hk hg.1 (op1_ok hs rfl h1) (op1_ok hs rfl h2) h3
      rw [e1, e2] at e3
      refine ⟨trivial, .bool (!r), ?_, ?_⟩
      · simp [execOp, e1, e2, eqGuard, hg.2, binOp, e3]
      · simp only [pval, e4]
        cases r <;> exact rv_sc rfl
    · simp at hc
  · simp at hc

set_option maxHeartbeats 1000000 in
theorem pop_ok (hr : Rep R ι h B w) (hs : ∀ x, Rv R ι h (oev s x) (ρ x)) {o : Oper} {lo : LOp} (hc : cOp P o.op = some lo) (hv : pvc P true s h lo) :
    pfact s lo ∧ ∃ v, (execOp ρ o).run P w = .ok (.value v) w ∧ Rv R ι h (pval s h lo) v := by
  obtain ⟨dst, op, ty, pos, after, guard⟩ := o
  simp only at hc
  have H1 : ∀ x, opC true s x → Rv R ι h (op1 s x) (ρ x) := fun x hx => op1_ok hs rfl hx
  unfold cOp at hc
  split at hc
  · injection hc with hc; subst hc; exact ⟨trivial, _, rfl, H1 _ hv⟩
  · injection hc with hc; subst hc; exact ⟨trivial, _, rfl, H1 _ hv⟩
  · -- pick
    injection hc with hc; subst hc
    rename_i c a b
    obtain ⟨h1, h2, h3, h4⟩ := hv
    obtain ⟨cb, he, hcb⟩ := isBool_inv (H1 c h1) h2
    rw [he] at h3 h4
    simp only [boolOf, Bool.true_and] at h3 h4
    refine ⟨trivial, (if cb = true then ρ a else ρ b), ?_, ?_⟩
    · simp only [execOp, hcb, asBool, Sem.run_bind, Sem.run_pure, Result.andThen_ok]
    · simp only [pval, he, boolOf]
      exact selB_ok (fun e => op1_ok hs e h3) (fun e => op1_ok hs (by simp [e]) h4)
  · -- binOp
    rename_i op t x y yt
    split at hc
    · rename_i k hu
      split at hc
      · rename_i hng
        injection hc with hc; subst hc
        obtain ⟨h1, h2⟩ := hv
        unfold isNg at hng
        split at hng
        · rename_i n
          have hn : n = 0 := by simpa using hng
          subst hn
          have hx : ρ (.const (.int .i64 0)) = .int .i64 0 := (hs (.const (.int .i64 0))).sc_inv.1
          have hy := H1 y h1
          unfold ngC at h2
          split at h2
          · rename_i a ha
            rw [ha] at hy
            have hy' := hy.sc_inv.1
            refine ⟨trivial, .int .i64 (IntKind.i64.wrap (0 - a)), ?_, ?_⟩
            · simp [execOp, hx, hy', eqGuard, binOp, Op.intArith]
            · simp only [pval, ha, ngV]; exact rv_sc rfl
          · exact h2.elim
        · simp at hng
      · injection hc with hc; subst hc
        obtain ⟨h1, h2, h3⟩ := hv
        obtain ⟨v, h4, h5, h6⟩ := bin_ok (P := P) (w := w) (H1 x h1) (H1 y h2) h3 t
        exact ⟨trivial, v, by simp [execOp, h6, h4], h5⟩
    · injection hc with hc; subst hc
      obtain ⟨h1, h2, h3⟩ := hv
      obtain ⟨v, h4, h5, h6⟩ := bin_ok (P := P) (w := w) (H1 x h1) (H1 y h2) h3 t
      exact ⟨trivial, v, by simp [execOp, h6, h4], h5⟩
    · rename_i hu
      split at hc
      · injection hc with hc; subst hc
        obtain ⟨h1, h2, h3, h4⟩ := hv
        obtain ⟨a, ha, hva⟩ := isBool_inv (H1 x h1) h3
        obtain ⟨b, hb, hvb⟩ := isBool_inv (H1 y h2) h4
        simp only [pval, ha, hb, binbV]
        refine ⟨trivial, .bool (a == b), ?_, ?_⟩
        · simp only [execOp, hva, hvb, eqGuard, binOp, Sem.run_bind, Sem.run_pure, Result.andThen_ok, binb_ok hu]
          rfl
        · cases a <;> cases b <;> exact rv_sc rfl
      · injection hc with hc; subst hc
        obtain ⟨h1, h2, h3, h4⟩ := hv
        obtain ⟨a, ha, hva⟩ := isBool_inv (H1 x h1) h3
        obtain ⟨b, hb, hvb⟩ := isBool_inv (H1 y h2) h4
        simp only [pval, ha, hb, binbV]
        refine ⟨trivial, .bool (!(a == b)), ?_, ?_⟩
        · simp only [execOp, hva, hvb, eqGuard, binOp, Sem.run_bind, Sem.run_pure, Result.andThen_ok, binb_ok hu]
          rfl
        · cases a <;> cases b <;> exact rv_sc rfl
      · simp at hc
    · exact pop_eq hs hc hv
    · exact pop_eq hs hc hv
    · rename_i hu
      split at hc
      · rename_i hni
        injection hc with hc; subst hc
        obtain ⟨h1, h2⟩ := hv
        unfold isNil at hni
        split at hni
        · have hy : ρ (.const (.slice none 0 0)) = .slice none 0 0 := (hs (.const (.slice none 0 0))).nsl_inv
          obtain ⟨a, n, c, ha, hb⟩ := nile_ok (H1 x h1) h2
          refine ⟨trivial, .bool a.isNone, ?_, ?_⟩
          · simp only [execOp, ha, hy, eqGuard, binOp, Sem.run_bind, Sem.run_pure, Result.andThen_ok, nile_eq hu]
            rfl
          · simp only [pval, hb]; exact rv_sc rfl
        · simp at hni
      · simp at hc
    · rename_i ms hu
      split at hc
      · rename_i neg hni
        injection hc with hc; subst hc
        obtain ⟨h1, h2⟩ := hv
        obtain ⟨b, hb, hb2⟩ := nili_ok (H1 x h1) h2
        have hy : ρ (.const .nilIface) = .nilIface := (hs (.const .nilIface)).sc_inv.1
        unfold isNilI at hni
        split at hni
        · injection hni with hni; subst hni
          refine ⟨trivial, .bool b, ?_, ?_⟩
          · have he := nili_eq (P := P) (w := w) hb hu
            rcases ifcV_inv hb with ⟨h9, rfl⟩ | ⟨te, pe, h9, rfl⟩ <;> rw [h9] at he <;> simp [execOp, hy, h9, eqGuard, binOp, he]
          · simp only [pval, hb2]; cases b <;> exact rv_sc rfl
        · injection hni with hni; subst hni
          refine ⟨trivial, .bool (!b), ?_, ?_⟩
          · have he := nili_eq (P := P) (w := w) hb hu
            rcases ifcV_inv hb with ⟨h9, rfl⟩ | ⟨te, pe, h9, rfl⟩ <;> rw [h9] at he <;> simp [execOp, hy, h9, eqGuard, binOp, he]
          · simp only [pval, hb2]; cases b <;> exact rv_sc rfl
        · simp at hni
      · simp at hc
    · simp at hc
  · injection hc with hc; subst hc
    obtain ⟨h1, h2⟩ := hv
    obtain ⟨v, h3, h4⟩ := un_ok (P := P) (w := w) (H1 _ h1) h2
    exact ⟨trivial, v, by simp [execOp, h3], h4⟩
  · -- field
    rename_i t x i
    split at hc
    · rename_i fs hu
      split at hc
      · rename_i f hf
        simp only [Option.map_eq_some_iff] at hc
        obtain ⟨n, hn, rfl⟩ := hc
        obtain ⟨h1, h2⟩ := hv
        have hx := H1 x h1
        simp only [pval]
        generalize op1 s x = lx at *
        cases lx with
        | agg cs =>
          obtain ⟨vs, hvs, hl, hcs, hp⟩ := hx.agg_inv
          obtain ⟨v, h3, h4⟩ := part_cells (P := P) (w := w) hn h2 hl hcs hp
          exact ⟨trivial, v, by simp [execOp, Instr.field, underlying, hu, hf, hvs, asAgg, h3], h4⟩
        | _ => exact h2.elim
      · simp at hc
    · simp at hc
  · -- index
    rename_i t x i
    split at hc
    · rename_i hu
      injection hc with hc; subst hc
      obtain ⟨h1, h2, h3⟩ := hv
      obtain ⟨v, h4, h5⟩ := idxs_ok (P := P) (w := w) hu (H1 x h1) (H1 i h2) h3
      exact ⟨trivial, v, by simp [execOp, h4], h5⟩
    · rename_i len e hu
      split at hc
      · rename_i n z hn hz
        injection hc with hc; subst hc
        obtain ⟨h1, h2, h3⟩ := hv
        obtain ⟨v, h4, h5⟩ := idxa_ok (P := P) (w := w) hu hn hz (H1 x h1) (H1 i h2) h3
        exact ⟨trivial, v, by simp [execOp, h4], h5⟩
      · simp at hc
    · simp at hc
  · injection hc with hc; subst hc
    obtain ⟨h1, h2⟩ := hv
    obtain ⟨v, h3, h4⟩ := ext_ok (P := P) (w := w) (H1 _ h1) h2
    exact ⟨trivial, v, by simp [execOp, h3], h4⟩
  · -- build
    rename_i t parts
    split at hc
    · rename_i fs z hu hz
      split at hc
      · rename_i pl hpl
        simp only [Option.map_eq_some_iff] at hc
        obtain ⟨l, hl, rfl⟩ := hc
        obtain ⟨v, h3, h4⟩ := bld_ok_struct (w := w) hu hz hpl hl hs hv.1 hv.2
        exact ⟨trivial, v, by simp only [execOp, Sem.run_bind, h3, Result.andThen_ok, Sem.run_pure], h4⟩
      · simp at hc
    · rename_i len e z hu hz
      split at hc
      · rename_i n hn
        simp only [Option.map_eq_some_iff] at hc
        obtain ⟨l, hl, rfl⟩ := hc
        obtain ⟨v, h3, h4⟩ := bld_ok_array (w := w) hu hz hn hl hs hv.1 hv.2
        exact ⟨trivial, v, by simp only [execOp, Sem.run_bind, h3, Result.andThen_ok, Sem.run_pure], h4⟩
      · simp at hc
    · simp at hc
  · -- convert
    rename_i a b x
    split at hc
    · rename_i j k ha hb
      injection hc with hc; subst hc
      obtain ⟨h1, h2⟩ := hv
      obtain ⟨v, h3, h4⟩ := cvt_ok (w := w) ha hb (H1 x h1) h2
      exact ⟨trivial, v, by simp [execOp, h3], h4⟩
    · rename_i e ha hb
      split at hc
      · rename_i he
        injection hc with hc; subst hc
        obtain ⟨h1, h2⟩ := hv
        obtain ⟨q, h3, h4⟩ := b2s_ok hr (H1 x h1) h2 ha he hb
        exact ⟨trivial, .string q, by simp [execOp, h3], by simp only [pval, h4]; exact rv_sc rfl⟩
      · simp at hc
    · simp at hc
  · -- len
    rename_i c
    obtain ⟨callee, args, tys⟩ := c
    cases callee with
    | builtin b =>
      simp only at hc
      unfold cLen at hc
      split at hc
      · rename_i x t ha htt
        have ha' : args = #[x] := by rw [← Array.toList_inj, ha]
        have ht' : tys = #[t] := by rw [← Array.toList_inj, htt]
        subst ha' ht'
        split at hc
        · rename_i hu
          injection hc with hc; subst hc
          obtain ⟨hf, v, h3, h4⟩ := len_ok hr (ty := ty) (.inl ⟨rfl, hu⟩) (H1 x hv.1) hv.2
          exact ⟨hf, v, by simp [execOp, resolve, invoke, builtin, h3], h4⟩
        · rename_i e hu
          injection hc with hc; subst hc
          obtain ⟨hf, v, h3, h4⟩ := len_ok hr (ty := ty) (.inr (.inl ⟨rfl, e, hu⟩)) (H1 x hv.1) hv.2
          exact ⟨hf, v, by simp [execOp, resolve, invoke, builtin, h3], h4⟩
        · rename_i k e hu
          injection hc with hc; subst hc
          obtain ⟨hf, v, h3, h4⟩ := len_ok hr (ty := ty) (.inr (.inr ⟨rfl, k, e, hu⟩)) (H1 x hv.1) hv.2
          exact ⟨hf, v, by simp [execOp, resolve, invoke, builtin, h3], h4⟩
        · simp at hc
      · rename_i x y ha
        have ha' : args = #[x, y] := by rw [← Array.toList_inj, ha]
        subst ha'
        injection hc with hc; subst hc
        obtain ⟨h1, h2, h3⟩ := hv
        obtain ⟨v, h4, h5⟩ := mx_ok (P := P) (w := w) (mn := false) (H1 x h1) (H1 y h2) h3
        simp only [cond_false] at h4
        exact ⟨trivial, v, by simp [execOp, resolve, invoke, builtin, Builtin.max_, h4], h5⟩
      · rename_i x y ha
        have ha' : args = #[x, y] := by rw [← Array.toList_inj, ha]
        subst ha'
        injection hc with hc; subst hc
        obtain ⟨h1, h2, h3⟩ := hv
        obtain ⟨v, h4, h5⟩ := mx_ok (P := P) (w := w) (mn := true) (H1 x h1) (H1 y h2) h3
        simp only [cond_true] at h4
        exact ⟨trivial, v, by simp [execOp, resolve, invoke, builtin, Builtin.min_, h4], h5⟩
      · simp at hc
    | _ => simp at hc
  · -- slice
    rename_i t x lo hi
    split at hc
    · rename_i hu
      injection hc with hc; subst hc
      obtain ⟨h1, h2, h3, h4⟩ := hv
      obtain ⟨a1, a2⟩ := opt_rel hs h2
      obtain ⟨b1, b2⟩ := opt_rel hs h3
      obtain ⟨v, h5, h6⟩ := slcs_ok (w := w) hu (H1 x h1) a1 a2 b1 b2 h4
      exact ⟨trivial, v, by simp only [execOp, Sem.run_bind, Option.map_none, h5, Result.andThen_ok, Sem.run_pure], h6⟩
    · rename_i e hu
      simp only [Option.map_eq_some_iff] at hc
      obtain ⟨z, hz, rfl⟩ := hc
      obtain ⟨h1, h2, h3, h4⟩ := hv
      obtain ⟨a1, a2⟩ := opt_rel hs h2
      obtain ⟨b1, b2⟩ := opt_rel hs h3
      obtain ⟨v, h5, h6⟩ := slc_ok (w := w) hu hz (H1 x h1) a1 a2 b1 b2 h4
      exact ⟨trivial, v, by simp only [execOp, Sem.run_bind, Option.map_none, h5, Result.andThen_ok, Sem.run_pure], h6⟩
    · simp at hc
  · -- fieldAddr
    rename_i t x i
    split at hc
    · rename_i fs hu
      split at hc
      · rename_i f hf
        split at hc
        · rename_i z hz
          injection hc with hc; subst hc
          obtain ⟨v, h3, h4⟩ := fad_ok (w := w) hu hf hz (H1 x hv.1) hv.2
          exact ⟨trivial, v, by simp [execOp, h3], h4⟩
        · simp at hc
      · simp at hc
    · simp at hc
  · -- indexAddr
    rename_i t x i
    split at hc
    · rename_i e hu
      simp only [Option.map_eq_some_iff] at hc
      obtain ⟨z, hz, rfl⟩ := hc
      obtain ⟨h1, h2, h3⟩ := hv
      obtain ⟨v, h4, h5⟩ := iad_ok (w := w) hu hz (H1 x h1) (H1 i h2) h3
      exact ⟨trivial, v, by simp [execOp, h4], h5⟩
    · rename_i len e hu
      simp only [Option.map_eq_some_iff] at hc
      obtain ⟨z, hz, rfl⟩ := hc
      obtain ⟨h1, h2, h3⟩ := hv
      obtain ⟨v, h4, h5⟩ := iada_ok (w := w) hu hz (H1 x h1) (H1 i h2) h3
      exact ⟨trivial, v, by simp [execOp, h4], h5⟩
    · simp at hc
  · -- load
    rename_i t x
    simp only [Option.map_eq_some_iff] at hc
    obtain ⟨n, hn, rfl⟩ := hc
    obtain ⟨v, h3, h4⟩ := ld_ok hr hn (H1 x hv.1) hv.2
    exact ⟨trivial, v, by simp [execOp, h3], h4⟩
  · -- makeFunc
    rename_i fn first caps
    split at hc
    · rename_i f hf
      injection hc with hc; subst hc
      have hf' : first = #[] := by rw [← Array.toList_inj, hf]
      subst hf'
      refine ⟨trivial, _, ?_, mkf_ok hs hv⟩
      have e : Array.map ρ caps = (List.map ρ caps.toList).toArray := by rw [← Array.toList_inj]; simp
      simp [execOp, Instr.makeFunc, e]
    · simp at hc
  · -- nilCheck
    rename_i x
    injection hc with hc; subst hc
    have hx := H1 x hv.1
    rcases nilc_ok hx hv.2 with ⟨a, ha⟩ | ⟨f, vs, ha⟩
    · refine ⟨trivial, _, ?_, hx⟩
      simp [execOp, ha]
    · refine ⟨trivial, _, ?_, hx⟩
      simp [execOp, ha]
  · -- lookup
    rename_i t m k ok
    split at hc
    · rename_i kt e hu
      split at hc
      · rename_i z hz
        split at hc
        · rename_i hkt
          injection hc with hc; subst hc
          obtain ⟨h1, h2, h3, h4, h5⟩ := hv
          obtain ⟨v, g1, g2⟩ := lkp_ok (ok := ok) hr hu hz hkt (H1 m h1) (H1 k h2) h3 h4 h5
          exact ⟨trivial, v, by simp [execOp, g1], g2⟩
        · simp at hc
      · simp at hc
    · simp at hc
  · simp at hc

end
end Go.Proofs.YtdfiicpikcdokaaGreatDoor
namespace Go.Proofs.YtdfiicpikcdokaaGreatDoor
set_option linter.unusedSimpArgs false
set_option linter.unusedVariables false
open Go.RowKit

def LH.push (h : LH) (ob : LO) : LH := ⟨h.n + 1, fun k => if k = h.n then (0, ob) else h.f k⟩
def LH.set (h : LH) (k : Nat) (vo : Nat × LO) : LH := ⟨h.n, fun j => if j = k then vo else h.f j⟩
def updI (ι : IM) (k : Nat) (x : IA) : IM := fun j => if j = k then x else ι j

structure Trans (B : Nat) (R : RO) (ι : IM) (h : LH) (w : World) (R' : RO) (ι' : IM) (h' : LH) (w' : World) : Prop where
  rep : Rep R' ι' h' B w'
  mono : Mono R ι h R' ι' h'
  below : Below B w w'
  rob : ∀ b, b < B → R' b = R b
  size : B ≤ w.heap.size

theorem Trans.trans {B R ι h w R1 ι1 h1 w1 R2 ι2 h2 w2} (a : Trans B R ι h w R1 ι1 h1 w1) (b : Trans B R1 ι1 h1 w1 R2 ι2 h2 w2) : Trans B R ι h w R2 ι2 h2 w2 :=
  ⟨b.rep, a.mono.trans b.mono, a.below.trans b.below, fun x hx => (b.rob x hx).trans (a.rob x hx), a.size⟩

section
variable {P : Program} {R : RO} {ι : IM} {h : LH} {B : Nat} {w : World}

theorem Trans.refl (hr : Rep R ι h B w) (hB : B ≤ w.heap.size) : Trans B R ι h w R ι h w := ⟨hr, Mono.refl _ _ _, Below.refl _ _, fun _ _ => rfl, hB⟩

theorem Rep.none_of_size (hr : Rep R ι h B w) {b : Nat} (hb : w.heap.size ≤ b) : R b = none := by
  cases hR : R b with
  | none => rfl
  | some o =>
    have := hr.ro b o hR
    have := (Array.getElem?_eq_some_iff.1 this).1
    omega

theorem Rep.push (hr : Rep R ι h B w) (hB : B ≤ w.heap.size) {c : Array Value} {e : TypeId} {ob : LO} (hl : ob.live = true) (hm : ob.isMap = false) (hsz : ob.size ≤ c.size)
    (hp : ∀ j, j < c.size → plainV (c.getD j undef) = true) (hc : ∀ i c' lv, cellAt ob i c' = some lv → ∃ v, c[i * ob.sz + c']? = some v ∧ Rv R ι h lv v)
    (hty : ∀ w' : World, w'.heap[w.heap.size]? = some (.cells c e) → tyC w' ob ⟨w.heap.size, 0, c.size⟩ := by exact fun _ _ => trivial) :
    Trans B R ι h w R (updI ι h.n ⟨w.heap.size, 0, c.size⟩) (h.push ob) { w with heap := w.heap.push (.cells c e) } := by
  have hmono : Mono R ι h R (updI ι h.n ⟨w.heap.size, 0, c.size⟩) (h.push ob) := by
    refine ⟨fun _ _ hx => hx, by simp [LH.push], fun k hk => ?_, fun k hk _ => ?_⟩
    · simp [LH.push, Nat.ne_of_lt hk]
    · simp [updI, Nat.ne_of_lt hk]
  have hold : ∀ b, b < w.heap.size → (w.heap.push (Obj.cells c e))[b]? = w.heap[b]? := fun b hb => by
    rw [Array.getElem?_push, if_neg (by omega)]
  have hf : ∀ k, k < h.n → (h.push ob).f k = h.f k := fun k hk => by simp [LH.push, Nat.ne_of_lt hk]
  have hi : ∀ k, k < h.n → updI ι h.n ⟨w.heap.size, 0, c.size⟩ k = ι k := fun k hk => by simp [updI, Nat.ne_of_lt hk]
  have hfn : (h.push ob).f h.n = (0, ob) := by simp [LH.push]
  have hin : updI ι h.n ⟨w.heap.size, 0, c.size⟩ h.n = ⟨w.heap.size, 0, c.size⟩ := by simp [updI]
  have hlt : ∀ k, k < (h.push ob).n → k ≠ h.n → k < h.n := fun k hk hne => by
    have : k < h.n + 1 := hk
    omega
  refine ⟨⟨?_, ?_, ?_, ?_, ?_, ?_, ?_, hr.gl⟩, hmono, ⟨rfl, rfl, rfl, by simp, fun k hk => hold k (by omega)⟩, fun _ _ => rfl, hB⟩
  · intro b o hb
    have := hr.ro b o hb
    show (w.heap.push _)[b]? = some o
    rw [hold b (Array.getElem?_eq_some_iff.1 this).1]; exact this
  · intro k hk hlv hmp hmz
    by_cases he : k = h.n
    · subst he
      rw [hfn, hin]
      refine ⟨c, e, by simp, by simp, hsz, hp, fun i c' lv hcl => ?_⟩
      obtain ⟨v, h1, h2⟩ := hc i c' lv hcl
      exact ⟨v, by simpa using h1, h2.mono hmono⟩
    · have hk' := hlt k hk he
      rw [hf k hk'] at hlv hmp ⊢
      rw [hi k hk'] at hmz ⊢
      obtain ⟨cl, e', hw, hs, hz, hpl, hcl⟩ := (hr.cells k hk' hlv hmp hmz).ex
      refine ⟨cl, e', ?_, hs, hz, hpl, fun i c' lv hx => ?_⟩
      · show (w.heap.push _)[_]? = _
        rw [hold _ (hr.base k hk' hlv (.inl hmz)).2.1]; exact hw
      · obtain ⟨v, h1, h2⟩ := hcl i c' lv hx
        exact ⟨v, h1, h2.mono hmono⟩
  · intro k hk hlv hmp hmz
    by_cases he : k = h.n
    · subst he
      rw [hfn]; rw [hin] at hmz
      simp only at hmz ⊢
      omega
    · have hk' := hlt k hk he
      rw [hf k hk'] at hlv hmp ⊢
      rw [hi k hk'] at hmz
      exact hr.empty k hk' hlv hmp hmz
  · intro k hk hlv hmz
    by_cases he : k = h.n
    · subst he
      rw [hin]
      exact ⟨hB, by simp, hr.none_of_size (Nat.le_refl _)⟩
    · have hk' := hlt k hk he
      rw [hf k hk'] at hlv hmz
      rw [hi k hk'] at hmz ⊢
      obtain ⟨h1, h2, h3⟩ := hr.base k hk' hlv hmz
      exact ⟨h1, by simp; omega, h3⟩
  · intro k k' hk hk' hlv hlv' hmz hmz' hbb
    by_cases he : k = h.n
    · by_cases he' : k' = h.n
      · omega
      · exfalso
        have hk2 := hlt k' hk' he'
        rw [hf k' hk2] at hlv' hmz'
        rw [hi k' hk2] at hmz' hbb
        subst he
        rw [hin] at hbb
        have := (hr.base k' hk2 hlv' hmz').2.1
        simp only at hbb; omega
    · have hk1 := hlt k hk he
      rw [hf k hk1] at hlv hmz
      rw [hi k hk1] at hmz hbb
      by_cases he' : k' = h.n
      · exfalso
        subst he'
        rw [hin] at hbb
        have := (hr.base k hk1 hlv hmz).2.1
        simp only at hbb; omega
      · have hk2 := hlt k' hk' he'
        rw [hf k' hk2] at hlv' hmz'
        rw [hi k' hk2] at hmz' hbb
        exact hr.apart k k' hk1 hk2 hlv hlv' hmz hmz' hbb
  · intro k es hk hes
    by_cases he : k = h.n
    · subst he
      rw [hfn] at hes
      simp only at hes
      subst hes
      simp [LO.isMap] at hm
    · have hk' := hlt k hk he
      rw [hf k hk'] at hes
      rw [hi k hk']
      obtain ⟨ents, clock, hw, h1, h2, h3⟩ := hr.maps k es hk' hes
      refine ⟨ents, clock, ?_, h1, h2, fun i kv hkv => ?_⟩
      · show (w.heap.push _)[_]? = _
        rw [hold _ (hr.base k hk' (by rw [hes]; rfl) (.inr (by rw [hes]; rfl))).2.1]; exact hw
      · obtain ⟨en, a1, a2, a3⟩ := h3 i kv hkv
        exact ⟨en, a1, a2, a3.mono hmono⟩
  · intro k hk
    by_cases he : k = h.n
    · subst he
      rw [hfn, hin]
      exact hty _ (by simp)
    · have hk' := hlt k hk he
      rw [hf k hk', hi k hk']
      exact (hr.ty k hk').heap fun h1 h2 => hold _ (hr.base k hk' h1 (.inl h2)).2.1

theorem Rep.change (hr : Rep R ι h B w) (hB : B ≤ w.heap.size) {k : Nat} (hk : k < h.n) {ver' : Nat} {ob' : LO} {x' : IA} {w' : World} (hlive : (h.f k).2.live = true)
    (hver : (h.f k).1 ≤ ver') (hsame : (h.f k).1 = ver' → x' = ι k) (hl : ob'.live = true) (hm : ob'.isMap = false) (hm0 : (h.f k).2.isMap = false)
    (hos : w'.os = w.os) (htape : w'.tape = w.tape) (hout : w'.output = w.output) (hsize : w.heap.size ≤ w'.heap.size)
    (hother : ∀ b, b < w.heap.size → b ≠ x'.b → w'.heap[b]? = w.heap[b]?)
    (hplace : (x'.b = (ι k).b ∧ (ι k).m ≠ 0) ∨ (w.heap.size ≤ x'.b ∧ x'.b < w'.heap.size))
    (hcells : Mono R ι h R (updI ι k x') (h.set k (ver', ob')) → x'.m ≠ 0 → CellsOk R (updI ι k x') (h.set k (ver', ob')) w' x' ob') (hempty : x'.m = 0 → ob'.size = 0) (hty : tyC w' ob' x' := by exact trivial) :
    Trans B R ι h w R (updI ι k x') (h.set k (ver', ob')) w' := by
  have hmono : Mono R ι h R (updI ι k x') (h.set k (ver', ob')) := by
    refine ⟨fun _ _ hx => hx, Nat.le_refl _, fun j hj => ?_, fun j hj hv => ?_⟩
    · by_cases e : j = k
      · subst e; simp [LH.set, hver]
      · simp [LH.set, e]
    · by_cases e : j = k
      · subst e
        simp only [LH.set, if_true] at hv
        simp [updI, hsame hv]
      · simp [updI, e]
  have hf : ∀ j, j ≠ k → (h.set k (ver', ob')).f j = h.f j := fun j hj => by simp [LH.set, hj]
  have hi : ∀ j, j ≠ k → updI ι k x' j = ι j := fun j hj => by simp [updI, hj]
  have hfk : (h.set k (ver', ob')).f k = (ver', ob') := by simp [LH.set]
  have hik : updI ι k x' k = x' := by simp [updI]
  have hxb : B ≤ x'.b ∧ x'.b < w'.heap.size ∧ R x'.b = none := by
    rcases hplace with ⟨e, hmz⟩ | ⟨h1, h2⟩
    · rw [e]
      obtain ⟨a, b, c⟩ := hr.base k hk hlive (.inl hmz)
      exact ⟨a, by omega, c⟩
    · exact ⟨by omega, h2, hr.none_of_size h1⟩
  have hne : ∀ j, j < h.n → j ≠ k → (h.f j).2.live = true → ((ι j).m ≠ 0 ∨ (h.f j).2.isMap = true) → (ι j).b ≠ x'.b := by
    intro j hj hjk hlv hmz e
    rcases hplace with ⟨e2, hmz2⟩ | ⟨h1, h2⟩
    · exact hjk (hr.apart j k hj hk hlv hlive hmz (.inl hmz2) (e.trans e2))
    · have := (hr.base j hj hlv hmz).2.1
      omega
  refine ⟨⟨?_, ?_, ?_, ?_, ?_, ?_, ?_, hr.gl⟩, hmono, ⟨hos, htape, hout, hsize, fun b hb => ?_⟩, fun _ _ => rfl, hB⟩
  · intro b o hb
    have h1 := hr.ro b o hb
    have h2 := (Array.getElem?_eq_some_iff.1 h1).1
    rw [hother b h2 (fun e => by rw [e, hxb.2.2] at hb; simp at hb)]; exact h1
  · intro j hj hlv hmp hmz
    by_cases e : j = k
    · subst e
      rw [hfk, hik]; rw [hik] at hmz
      exact hcells hmono hmz
    · rw [hf j e] at hlv hmp ⊢
      rw [hi j e] at hmz ⊢
      obtain ⟨cl, e', hw, hs, hz, hpl, hcl⟩ := (hr.cells j hj hlv hmp hmz).ex
      refine ⟨cl, e', ?_, hs, hz, hpl, fun i c' lv hx => ?_⟩
      · rw [hother _ (hr.base j hj hlv (.inl hmz)).2.1 (hne j hj e hlv (.inl hmz))]; exact hw
      · obtain ⟨v, h1, h2⟩ := hcl i c' lv hx
        exact ⟨v, h1, h2.mono hmono⟩
  · intro j hj hlv hmp hmz
    by_cases e : j = k
    · subst e
      rw [hfk]; rw [hik] at hmz
      exact hempty hmz
    · rw [hf j e] at hlv hmp ⊢
      rw [hi j e] at hmz
      exact hr.empty j hj hlv hmp hmz
  · intro j hj hlv hmz
    by_cases e : j = k
    · subst e
      rw [hik]; exact hxb
    · rw [hf j e] at hlv hmz
      rw [hi j e] at hmz ⊢
      obtain ⟨a, b, c⟩ := hr.base j hj hlv hmz
      exact ⟨a, by omega, c⟩
  · intro j j' hj hj' hlv hlv' hmz hmz' hbb
    by_cases e : j = k
    · by_cases e' : j' = k
      · omega
      · exfalso
        subst e
        rw [hik] at hbb
        rw [hf j' e'] at hlv' hmz'
        rw [hi j' e'] at hmz' hbb
        exact hne j' hj' e' hlv' hmz' hbb.symm
    · rw [hf j e] at hlv hmz
      rw [hi j e] at hmz hbb
      by_cases e' : j' = k
      · exfalso
        subst e'
        rw [hik] at hbb
        exact hne j hj e hlv hmz hbb
      · rw [hf j' e'] at hlv' hmz'
        rw [hi j' e'] at hmz' hbb
        exact hr.apart j j' hj hj' hlv hlv' hmz hmz' hbb
  · intro j es hj hes
    by_cases e : j = k
    · subst e
      rw [hfk] at hes
      simp only at hes
      subst hes
      simp [LO.isMap] at hm
    · rw [hf j e] at hes
      rw [hi j e]
      obtain ⟨ents, clock, hw, h1, h2, h3⟩ := hr.maps j es hj hes
      have hlv : (h.f j).2.live = true := by rw [hes]; rfl
      have hmp : (h.f j).2.isMap = true := by rw [hes]; rfl
      refine ⟨ents, clock, ?_, h1, h2, fun i kv hkv => ?_⟩
      · rw [hother _ (hr.base j hj hlv (.inr hmp)).2.1 (hne j hj e hlv (.inr hmp))]; exact hw
      · obtain ⟨en, a1, a2, a3⟩ := h3 i kv hkv
        exact ⟨en, a1, a2, a3.mono hmono⟩
  · intro j hj
    by_cases e : j = k
    · subst e
      rw [hfk, hik]; exact hty
    · rw [hf j e, hi j e]
      exact (hr.ty j hj).heap fun h1 h2 => hother _ (hr.base j hj h1 (.inl h2)).2.1 (hne j hj e h1 (.inl h2))
  · by_cases hbs : b < w.heap.size
    · exact hother b hbs (fun e => by omega)
    · omega

theorem Rep.pushMap (hr : Rep R ι h B w) (hB : B ≤ w.heap.size) :
    Trans B R ι h w R (updI ι h.n ⟨w.heap.size, 0, 0⟩) (h.push (.map [])) { w with heap := w.heap.push (.map #[] 0) } := by
  have hmono : Mono R ι h R (updI ι h.n ⟨w.heap.size, 0, 0⟩) (h.push (.map [])) := by
    refine ⟨fun _ _ hx => hx, by simp [LH.push], fun k hk => ?_, fun k hk _ => ?_⟩
    · simp [LH.push, Nat.ne_of_lt hk]
    · simp [updI, Nat.ne_of_lt hk]
  have hold : ∀ b, b < w.heap.size → (w.heap.push (Obj.map #[] 0))[b]? = w.heap[b]? := fun b hb => by
    rw [Array.getElem?_push, if_neg (by omega)]
  have hf : ∀ k, k < h.n → (h.push (.map [])).f k = h.f k := fun k hk => by simp [LH.push, Nat.ne_of_lt hk]
  have hi : ∀ k, k < h.n → updI ι h.n ⟨w.heap.size, 0, 0⟩ k = ι k := fun k hk => by simp [updI, Nat.ne_of_lt hk]
  have hfn : (h.push (.map [])).f h.n = (0, .map []) := by simp [LH.push]
  have hin : updI ι h.n ⟨w.heap.size, 0, 0⟩ h.n = ⟨w.heap.size, 0, 0⟩ := by simp [updI]
  have hlt : ∀ k, k < (h.push (.map [])).n → k ≠ h.n → k < h.n := fun k hk hne => by
    have : k < h.n + 1 := hk
    omega
  refine ⟨⟨?_, ?_, ?_, ?_, ?_, ?_, ?_, hr.gl⟩, hmono, ⟨rfl, rfl, rfl, by simp, fun k hk => hold k (by omega)⟩, fun _ _ => rfl, hB⟩
  · intro b o hb
    have := hr.ro b o hb
    show (w.heap.push _)[b]? = some o
    rw [hold b (Array.getElem?_eq_some_iff.1 this).1]; exact this
  · intro k hk hlv hmp hmz
    by_cases he : k = h.n
    · subst he; rw [hfn] at hmp; simp [LO.isMap] at hmp
    · have hk' := hlt k hk he
      rw [hf k hk'] at hlv hmp ⊢
      rw [hi k hk'] at hmz ⊢
      obtain ⟨cl, e', hw, hs, hz, hpl, hcl⟩ := (hr.cells k hk' hlv hmp hmz).ex
      refine ⟨cl, e', ?_, hs, hz, hpl, fun i c' lv hx => ?_⟩
      · show (w.heap.push _)[_]? = _
        rw [hold _ (hr.base k hk' hlv (.inl hmz)).2.1]; exact hw
      · obtain ⟨v, h1, h2⟩ := hcl i c' lv hx
        exact ⟨v, h1, h2.mono hmono⟩
  · intro k hk hlv hmp hmz
    by_cases he : k = h.n
    · subst he; rw [hfn] at hmp; simp [LO.isMap] at hmp
    · have hk' := hlt k hk he
      rw [hf k hk'] at hlv hmp ⊢
      rw [hi k hk'] at hmz
      exact hr.empty k hk' hlv hmp hmz
  · intro k hk hlv hmz
    by_cases he : k = h.n
    · subst he
      rw [hin]
      exact ⟨hB, by simp, hr.none_of_size (Nat.le_refl _)⟩
    · have hk' := hlt k hk he
      rw [hf k hk'] at hlv hmz
      rw [hi k hk'] at hmz ⊢
      obtain ⟨h1, h2, h3⟩ := hr.base k hk' hlv hmz
      exact ⟨h1, by simp; omega, h3⟩
  · intro k k' hk hk' hlv hlv' hmz hmz' hbb
    by_cases he : k = h.n
    · by_cases he' : k' = h.n
      · omega
      · exfalso
        have hk2 := hlt k' hk' he'
        rw [hf k' hk2] at hlv' hmz'
        rw [hi k' hk2] at hmz' hbb
        subst he
        rw [hin] at hbb
        have := (hr.base k' hk2 hlv' hmz').2.1
        simp only at hbb; omega
    · have hk1 := hlt k hk he
      rw [hf k hk1] at hlv hmz
      rw [hi k hk1] at hmz hbb
      by_cases he' : k' = h.n
      · exfalso
        subst he'
        rw [hin] at hbb
        have := (hr.base k hk1 hlv hmz).2.1
        simp only at hbb; omega
      · have hk2 := hlt k' hk' he'
        rw [hf k' hk2] at hlv' hmz'
        rw [hi k' hk2] at hmz' hbb
        exact hr.apart k k' hk1 hk2 hlv hlv' hmz hmz' hbb
  · intro k es hk hes
    by_cases he : k = h.n
    · subst he
      rw [hfn] at hes
      simp only [LO.map.injEq] at hes
      subst hes
      rw [hin]
      refine ⟨#[], 0, by simp, rfl, ⟨fun i e hi => by simp at hi, List.nodup_nil⟩, fun i kv hi => by simp at hi⟩
    · have hk' := hlt k hk he
      rw [hf k hk'] at hes
      rw [hi k hk']
      obtain ⟨ents, clock, hw, h1, h2, h3⟩ := hr.maps k es hk' hes
      refine ⟨ents, clock, ?_, h1, h2, fun i kv hkv => ?_⟩
      · show (w.heap.push _)[_]? = _
        rw [hold _ (hr.base k hk' (by rw [hes]; rfl) (.inr (by rw [hes]; rfl))).2.1]; exact hw
      · obtain ⟨en, a1, a2, a3⟩ := h3 i kv hkv
        exact ⟨en, a1, a2, a3.mono hmono⟩
  · intro k hk
    by_cases he : k = h.n
    · subst he; rw [hfn]; exact trivial
    · have hk' := hlt k hk he
      rw [hf k hk', hi k hk']
      exact (hr.ty k hk').heap fun h1 h2 => hold _ (hr.base k hk' h1 (.inl h2)).2.1

theorem Rep.changeMap (hr : Rep R ι h B w) (hB : B ≤ w.heap.size) {k : Nat} (hk : k < h.n) {es' : List (Value × LV)} {ents' : Array MapEntry} {clock' : Nat} (hm0 : (h.f k).2.isMap = true)
    (hsz : ents'.size = es'.length) (hborn : ∀ (i : Nat) (e : MapEntry), ents'[i]? = some e → e.born < clock') (hnd : (es'.map (·.1)).Nodup)
    (hent : ∀ (i : Nat) (kv : Value × LV), es'[i]? = some kv → ∃ e : MapEntry, ents'[i]? = some e ∧ e.key = kv.1 ∧ Rv R ι h kv.2 e.val) :
    Trans B R ι h w R ι (h.set k ((h.f k).1, .map es')) { w with heap := w.heap.setIfInBounds (ι k).b (.map ents' clock') } := by
  have hmono : Mono R ι h R ι (h.set k ((h.f k).1, .map es')) := by
    refine ⟨fun _ _ hx => hx, Nat.le_refl _, fun j hj => ?_, fun j hj hv => rfl⟩
    by_cases e : j = k
    · subst e; simp [LH.set]
    · simp [LH.set, e]
  have hlive : (h.f k).2.live = true := by cases hob : (h.f k).2 <;> rw [hob] at hm0 <;> simp_all [LO.isMap, LO.live]
  have hf : ∀ j, j ≠ k → (h.set k ((h.f k).1, .map es')).f j = h.f j := fun j hj => by simp [LH.set, hj]
  have hfk : (h.set k ((h.f k).1, .map es')).f k = ((h.f k).1, .map es') := by simp [LH.set]
  obtain ⟨xb1, xb2, xb3⟩ := hr.base k hk hlive (.inr hm0)
  have hold : ∀ b, b ≠ (ι k).b → (w.heap.setIfInBounds (ι k).b (Obj.map ents' clock'))[b]? = w.heap[b]? := fun b hb => by
    rw [Array.getElem?_setIfInBounds, if_neg (fun e => hb e.symm)]
  have hne : ∀ j, j < h.n → j ≠ k → (h.f j).2.live = true → ((ι j).m ≠ 0 ∨ (h.f j).2.isMap = true) → (ι j).b ≠ (ι k).b := by
    intro j hj hjk hlv hmz e
    exact hjk (hr.apart j k hj hk hlv hlive hmz (.inr hm0) e)
  refine ⟨⟨?_, ?_, ?_, ?_, ?_, ?_, ?_, hr.gl⟩, hmono, ⟨rfl, rfl, rfl, by simp, fun b hb => hold b (by omega)⟩, fun _ _ => rfl, hB⟩
  · intro b o hb
    have h1 := hr.ro b o hb
    show (w.heap.setIfInBounds _ _)[b]? = some o
    rw [hold b (fun e => by rw [e, xb3] at hb; simp at hb)]; exact h1
  · intro j hj hlv hmp hmz
    by_cases e : j = k
    · subst e; rw [hfk] at hmp; simp [LO.isMap] at hmp
    · rw [hf j e] at hlv hmp ⊢
      obtain ⟨cl, e', hw, hs, hz, hpl, hcl⟩ := (hr.cells j hj hlv hmp hmz).ex
      refine ⟨cl, e', ?_, hs, hz, hpl, fun i c' lv hx => ?_⟩
      · show (w.heap.setIfInBounds _ _)[_]? = _
        rw [hold _ (hne j hj e hlv (.inl hmz))]; exact hw
      · obtain ⟨v, h1, h2⟩ := hcl i c' lv hx
        exact ⟨v, h1, h2.mono hmono⟩
  · intro j hj hlv hmp hmz
    by_cases e : j = k
    · subst e; rw [hfk] at hmp; simp [LO.isMap] at hmp
    · rw [hf j e] at hlv hmp ⊢
      exact hr.empty j hj hlv hmp hmz
  · intro j hj hlv hmz
    by_cases e : j = k
    · subst e; exact ⟨xb1, by simpa using xb2, xb3⟩
    · rw [hf j e] at hlv hmz
      obtain ⟨a, b, c⟩ := hr.base j hj hlv hmz
      exact ⟨a, by simpa using b, c⟩
  · intro j j' hj hj' hlv hlv' hmz hmz' hbb
    by_cases e : j = k
    · by_cases e' : j' = k
      · omega
      · exfalso
        subst e
        rw [hf j' e'] at hlv' hmz'
        exact hne j' hj' e' hlv' hmz' hbb.symm
    · rw [hf j e] at hlv hmz
      by_cases e' : j' = k
      · exfalso
        subst e'
        exact hne j hj e hlv hmz hbb
      · rw [hf j' e'] at hlv' hmz'
        exact hr.apart j j' hj hj' hlv hlv' hmz hmz' hbb
  · intro j es hj hes
    by_cases e : j = k
    · subst e
      rw [hfk] at hes
      simp only [LO.map.injEq] at hes
      subst hes
      refine ⟨ents', clock', ?_, hsz, ⟨hborn, hnd⟩, fun i kv hkv => ?_⟩
      · show (w.heap.setIfInBounds _ _)[_]? = _
        rw [Array.getElem?_setIfInBounds]; simp [xb2]
      · obtain ⟨en, a1, a2, a3⟩ := hent i kv hkv
        exact ⟨en, a1, a2, a3.mono hmono⟩
    · rw [hf j e] at hes
      obtain ⟨ents, clock, hw, h1, h2, h3⟩ := hr.maps j es hj hes
      have hlv : (h.f j).2.live = true := by rw [hes]; rfl
      have hmp : (h.f j).2.isMap = true := by rw [hes]; rfl
      refine ⟨ents, clock, ?_, h1, h2, fun i kv hkv => ?_⟩
      · show (w.heap.setIfInBounds _ _)[_]? = _
        rw [hold _ (hne j hj e hlv (.inr hmp))]; exact hw
      · obtain ⟨en, a1, a2, a3⟩ := h3 i kv hkv
        exact ⟨en, a1, a2, a3.mono hmono⟩
  · intro j hj
    by_cases e : j = k
    · subst e; rw [hfk]; exact trivial
    · rw [hf j e]
      exact (hr.ty j hj).heap fun h1 h2 => hold _ (hne j hj e h1 (.inl h2))

def stV1 : LO → Nat → Nat → LV → LO
  | .box cs, _, c, v => .box (cs.set c v)
  | .ints xs, i, _, v => .ints (xs.set i (intOfV v))
  | .bools xs, i, _, v => .bools (xs.set i (boolOf v))
  | .row sz n f, i, c, v => .row sz n (fun j => if j = i then (f i).set c v else f j)
  | .tbox t cs, _, c, v => .tbox t (cs.set c v)
  | ob, _, _, _ => ob
def isI64 : LV → Prop
  | .sc (.int .i64 _) => True
  | _ => False
def stC1 : LO → Nat → Nat → Nat → LV → Prop
  | .box cs, sz, i, c, v => sz = 0 ∧ i = 0 ∧ c < cs.length ∧ isCell v = true
  | .ints xs, sz, i, c, v => sz = 1 ∧ c = 0 ∧ i < xs.length ∧ isI64 v
  | .bools xs, sz, i, c, v => sz = 1 ∧ c = 0 ∧ i < xs.length ∧ isBool v
  | .row sz' n f, sz, i, c, v => sz = sz' ∧ c < sz ∧ i < n ∧ (f i).length = sz ∧ isCell v = true
  | .tbox _ cs, sz, i, c, v => sz = 0 ∧ i = 0 ∧ c < cs.length ∧ isCell v = true
  | _, _, _, _, _ => False
def stV : LO → Nat → Nat → List LV → LO
  | ob, _, _, [] => ob
  | ob, i, c, v :: r => stV (stV1 ob i c v) i (c + 1) r
def stC : LO → Nat → Nat → Nat → List LV → Prop
  | _, _, _, _, [] => True
  | ob, sz, i, c, v :: r => stC1 ob sz i c v ∧ stC (stV1 ob i c v) sz i (c + 1) r

theorem setCell_cells {a : Addr} {v : Value} {c : Array Value} {e : TypeId} (hs : a.spot = none) (hw : w.heap[a.block]? = some (.cells c e (0, 0))) :
    (w.setCell a v).heap[a.block]? = some (.cells (c.setIfInBounds a.off v) e (0, 0)) := by
  simp [World.setCell, Array.getElem?_modify, hw, hs]

end
end Go.Proofs.YtdfiicpikcdokaaGreatDoor
namespace Go.Proofs.YtdfiicpikcdokaaGreatDoor
set_option linter.unusedSimpArgs false
set_option linter.unusedVariables false
open Go.RowKit

section
variable {P : Program} {R : RO} {ι : IM} {h : LH} {B : Nat} {w : World} {s : LS} {ρ : Operand → Value}

theorem updI_self (ι : IM) (k : Nat) : updI ι k (ι k) = ι := by
  funext j; unfold updI; split
  · rename_i e; rw [e]
  · rfl

theorem idx_inj {i i' sz c c' : Nat} (hc : c < sz) (hc' : c' < sz) (he : i * sz + c = i' * sz + c') : i = i' ∧ c = c' := by
  have h1 : i = i' := by
    rcases Nat.lt_trichotomy i i' with hlt | e | hlt
    · have := Nat.mul_le_mul_right sz hlt
      rw [Nat.succ_mul] at this; omega
    · exact e
    · have := Nat.mul_le_mul_right sz hlt
      rw [Nat.succ_mul] at this; omega
  subst h1
  exact ⟨rfl, by omega⟩

theorem isI64_inv {lv : LV} (hi : isI64 lv) : ∃ a, lv = .sc (.int .i64 a) := by
  unfold isI64 at hi
  split at hi
  · exact ⟨_, rfl⟩
  · exact hi.elim

theorem stC1_cell {ob : LO} {sz i c : Nat} {lv : LV} (hc : stC1 ob sz i c lv) : isCell lv = true := by
  unfold stC1 at hc
  split at hc
  · exact hc.2.2.2
  · obtain ⟨a, rfl⟩ := isI64_inv hc.2.2.2; rfl
  · have := hc.2.2.2
    unfold isBool at this
    split at this
    · rfl
    · exact this.elim
  · exact hc.2.2.2.2
  · exact hc.2.2.2
  · exact hc.elim

theorem stV1_sz (ob : LO) (i c : Nat) (lv : LV) : (stV1 ob i c lv).sz = ob.sz := by cases ob <;> rfl
theorem stV1_size (ob : LO) (i c : Nat) (lv : LV) : (stV1 ob i c lv).size = ob.size := by cases ob <;> simp [stV1, LO.size]
theorem stV1_live (ob : LO) (i c : Nat) (lv : LV) : (stV1 ob i c lv).live = ob.live := by cases ob <;> rfl
theorem stV1_isMap (ob : LO) (i c : Nat) (lv : LV) : (stV1 ob i c lv).isMap = ob.isMap := by cases ob <;> rfl
theorem stC1_szeq {ob : LO} {sz i c : Nat} {lv : LV} (hc : stC1 ob sz i c lv) : sz = ob.sz ∧ ob.live = true ∧ ob.isMap = false ∧ ob.size ≠ 0 := by
  unfold stC1 at hc
  split at hc
  · exact ⟨hc.1, rfl, rfl, by simp only [LO.size]; omega⟩
  · exact ⟨hc.1, rfl, rfl, by simp only [LO.size]; omega⟩
  · exact ⟨hc.1, rfl, rfl, by simp only [LO.size]; omega⟩
  · exact ⟨hc.1, rfl, rfl, by simp only [LO.size]; exact Nat.mul_ne_zero (by omega) (by omega)⟩
  · exact ⟨hc.1, rfl, rfl, by simp only [LO.size]; omega⟩
  · exact hc.elim

theorem cellAt_stV1 {ob : LO} {sz i c : Nat} {lv : LV} (hc : stC1 ob sz i c lv) {i' c' : Nat} {x : LV} (hx : cellAt (stV1 ob i c lv) i' c' = some x) :
    (i' = i ∧ c' = c ∧ x = lv) ∨ (cellAt ob i' c' = some x ∧ i' * ob.sz + c' ≠ i * ob.sz + c) := by
  unfold stC1 at hc
  split at hc
  · rename_i cs
    obtain ⟨rfl, rfl, hlt, _⟩ := hc
    simp only [stV1, cellAt] at hx
    split at hx
    · rename_i e
      subst e
      by_cases e2 : c' = c
      · subst e2; rw [List.getElem?_set_self hlt] at hx; injection hx with hx; exact .inl ⟨rfl, rfl, hx.symm⟩
      · rw [List.getElem?_set_ne (fun h => e2 h.symm)] at hx
        exact .inr ⟨by simp [cellAt, hx], by simp [LO.sz, e2]⟩
    · simp at hx
  · rename_i xs
    obtain ⟨rfl, rfl, hlt, hi⟩ := hc
    obtain ⟨a, rfl⟩ := isI64_inv hi
    simp only [stV1, cellAt, intOfV] at hx
    split at hx
    · rename_i e
      subst e
      by_cases e2 : i' = i
      · subst e2; rw [List.getElem?_set_self hlt] at hx; simp at hx; exact .inl ⟨rfl, rfl, hx.symm⟩
      · rw [List.getElem?_set_ne (fun h => e2 h.symm)] at hx
        exact .inr ⟨by simpa [cellAt] using hx, by simp [LO.sz, e2]⟩
    · simp at hx
  · rename_i xs
    obtain ⟨rfl, rfl, hlt, hi⟩ := hc
    obtain ⟨a, rfl⟩ : ∃ a, lv = .sc (.bool a) := by
      unfold isBool at hi
      split at hi
      · exact ⟨_, rfl⟩
      · exact hi.elim
    simp only [stV1, cellAt, boolOf] at hx
    split at hx
    · rename_i e
      subst e
      by_cases e2 : i' = i
      · subst e2; rw [List.getElem?_set_self hlt] at hx; simp at hx; exact .inl ⟨rfl, rfl, hx.symm⟩
      · rw [List.getElem?_set_ne (fun h => e2 h.symm)] at hx
        exact .inr ⟨by simpa [cellAt] using hx, by simp [LO.sz, e2]⟩
    · simp at hx
  · rename_i sz' n f
    obtain ⟨rfl, hcs, hlt, hfl, _⟩ := hc
    simp only [stV1, cellAt] at hx
    split at hx
    · rename_i e
      by_cases e2 : i' = i
      · subst e2
        simp only [if_true] at hx
        by_cases e3 : c' = c
        · subst e3; rw [List.getElem?_set_self (by omega)] at hx; injection hx with hx; exact .inl ⟨rfl, rfl, hx.symm⟩
        · rw [List.getElem?_set_ne (fun h => e3 h.symm)] at hx
          exact .inr ⟨by simp [cellAt, hx, e.1, e.2], by simp [LO.sz]; omega⟩
      · simp only [e2, if_false] at hx
        refine .inr ⟨by simp [cellAt, hx, e.1, e.2], fun h => e2 ?_⟩
        exact (idx_inj e.2 hcs h).1
    · simp at hx
  · rename_i t' cs
    obtain ⟨rfl, rfl, hlt, _⟩ := hc
    simp only [stV1, cellAt] at hx
    split at hx
    · rename_i e
      subst e
      by_cases e2 : c' = c
      · subst e2; rw [List.getElem?_set_self hlt] at hx; injection hx with hx; exact .inl ⟨rfl, rfl, hx.symm⟩
      · rw [List.getElem?_set_ne (fun h => e2 h.symm)] at hx
        exact .inr ⟨by simp [cellAt, hx], by simp [LO.sz, e2]⟩
    · simp at hx
  · exact hc.elim

theorem st1_lt {ob : LO} {sz i c : Nat} {lv : LV} (hc : stC1 ob sz i c lv) : i * ob.sz + c < ob.size := by
  unfold stC1 at hc
  split at hc
  · obtain ⟨rfl, rfl, hlt, _⟩ := hc; simpa [LO.sz, LO.size] using hlt
  · obtain ⟨rfl, rfl, hlt, _⟩ := hc; simpa [LO.sz, LO.size] using hlt
  · obtain ⟨rfl, rfl, hlt, _⟩ := hc; simpa [LO.sz, LO.size] using hlt
  · rename_i sz' n f
    obtain ⟨rfl, hcs, hlt, hfl, _⟩ := hc
    have := Nat.mul_le_mul_right sz hlt
    simp only [LO.sz, LO.size]
    rw [Nat.succ_mul] at this
    omega
  · obtain ⟨rfl, rfl, hlt, _⟩ := hc; simpa [LO.sz, LO.size] using hlt
  · exact hc.elim

theorem stV1_ty {ob : LO} {i c : Nat} {lv : LV} {w w' : World} {x : IA} (h : tyC w ob x) (hw : ∀ {t : TypeId}, (∃ c, w.heap[x.b]? = some (.cells c t (0, 0))) → ∃ c, w'.heap[x.b]? = some (.cells c t (0, 0))) : tyC w' (stV1 ob i c lv) x := by
  cases ob with
  | tbox t cs => exact ⟨h.1, by rw [h.2.1]; simp, fun h0 => hw (h.2.2 h0)⟩
  | byt t xs => exact ⟨h.1, fun h0 => hw (h.2 h0)⟩
  | _ => trivial
theorem plain_oneCell {v : Value} (hp : plainV v = true) : v.oneCell' = true := by cases v <;> simp_all [plainV, Value.oneCell']

theorem st1_ok (hr : Rep R ι h B w) (hB : B ≤ w.heap.size) {k ver sz i c : Nat} {a : Addr} {lv : LV} {v : Value} (hk : k < h.n) (hver : (h.f k).1 = ver)
    (ha : a = ⟨(ι k).b, (ι k).o + (i * sz + c), none⟩) (hc : stC1 (h.f k).2 sz i c lv) (hv : Rv R ι h lv v) :
    (store a v).run P w = .ok () (w.setCell a v) ∧ Trans B R ι h w R ι (h.set k (ver, stV1 (h.f k).2 i c lv)) (w.setCell a v) := by
  obtain ⟨hsz, hl, hm, hs0⟩ := stC1_szeq hc
  have hpv := hv.plain (stC1_cell hc)
  have hm0 : (ι k).m ≠ 0 := fun e => hs0 (hr.empty k hk hl hm e)
  obtain ⟨cl, e, hw, hcs, hle, hpl, hcl⟩ := (hr.cells k hk hl hm hm0).ex
  have hlt := st1_lt hc
  rw [hsz] at ha
  have hw' : w.heap[a.block]? = some (.cells cl e (0, 0)) := by rw [ha]; exact hw
  have hoff : a.off < cl.size := by rw [ha]; simp only; omega
  have hspot : a.spot = none := by rw [ha]
  have hab : a.block = (ι k).b := by rw [ha]
  have hao : a.off = (ι k).o + (i * (h.f k).2.sz + c) := by rw [ha]
  refine ⟨?_, ?_⟩
  · rw [run_store _ _ _ _ _ (plain_oneCell hpv)]
    have h1 : w.cell? a = some cl[a.off] := by
      simp [World.cell?, hw', hspot, Array.getElem?_eq_getElem hoff]
    have h2 : w.frozen? a = false := by simp [World.frozen?, hw']
    simp [h1, h2]
  · have hset := setCell_cells (w := w) (a := a) (v := v) hspot hw'
    have := hr.change hB hk (ver' := ver) (ob' := stV1 (h.f k).2 i c lv) (x' := ι k) (w' := w.setCell a v) hl (by omega) (fun _ => rfl) (by rw [stV1_live]; exact hl) (by rw [stV1_isMap]; exact hm) hm
      rfl rfl rfl (by simp [World.setCell]) (fun b hb hne => by
        simp only [World.setCell, Array.getElem?_modify]
        rw [if_neg (by rw [hab]; omega)]) (.inl ⟨rfl, hm0⟩)
      (fun mono _ => ⟨cl.setIfInBounds a.off v, e, by rw [← hab]; exact hset, by simpa using hcs, by rw [stV1_size]; exact hle, fun j hj => by
        rw [getD_set]
        split
        · exact hpv
        · exact hpl j (by simpa using hj), fun i' c' x hx => by
        rw [stV1_sz]
        rcases cellAt_stV1 hc hx with ⟨rfl, rfl, rfl⟩ | ⟨h1, h2⟩
        · refine ⟨v, ?_, hv.mono mono⟩
          rw [← hao, Array.getElem?_setIfInBounds]
          simp [hoff]
        · obtain ⟨u, h3, h4⟩ := hcl i' c' x h1
          refine ⟨u, ?_, h4.mono mono⟩
          rw [Array.getElem?_setIfInBounds, if_neg (by omega)]
          exact h3⟩) (fun e => absurd e hm0) (stV1_ty (hr.ty k hk) fun ⟨c0, h0⟩ => by
        rw [hw] at h0
        injection h0 with h0
        injection h0 with _ h0 _
        subst h0
        exact ⟨_, by rw [← hab]; exact hset⟩)
    rw [updI_self] at this
    exact this

theorem stN_ok {k ver sz i : Nat} : ∀ (cs : List LV) (us : List Value) (c j : Nat) {h : LH} {w : World} {a : Addr}, Rep R ι h B w → B ≤ w.heap.size → k < h.n → (h.f k).1 = ver →
    a = ⟨(ι k).b, (ι k).o + (i * sz + c), none⟩ → us.length = cs.length → (∀ q x, cs[q]? = some x → Rv R ι h x (us.getD q undef)) → stC (h.f k).2 sz i (c + j) cs →
    ∃ w', (storeCells a us j).run P w = .ok () w' ∧ Trans B R ι h w R ι (h.set k (ver, stV (h.f k).2 i (c + j) cs)) w' := by
  intro cs
  induction cs with
  | nil =>
    intro us c j h w a hr hB hk hver ha hl hv hc
    cases us with
    | cons => simp at hl
    | nil =>
      refine ⟨w, rfl, ?_⟩
      have e : h.set k (ver, stV (h.f k).2 i (c + j) []) = h := by
        unfold LH.set stV
        cases h with
        | mk n f =>
          congr 1
          funext q
          split
          · rename_i e; subst e; simp only at hver ⊢; rw [← hver]
          · rfl
      rw [e]; exact Trans.refl hr hB
  | cons x r ih =>
    intro us c j h w a hr hB hk hver ha hl hv hc
    cases us with
    | nil => simp at hl
    | cons u us =>
      obtain ⟨hc1, hc2⟩ := hc
      have h0 : Rv R ι h x u := by have := hv 0 x rfl; simpa using this
      have hadd : a.add j = ⟨(ι k).b, (ι k).o + (i * sz + (c + j)), none⟩ := by rw [ha, add_mk]; congr 1; omega
      obtain ⟨h1, h2⟩ := st1_ok (P := P) hr hB hk hver hadd hc1 h0
      have hf : ((h.set k (ver, stV1 (h.f k).2 i (c + j) x)).f k) = (ver, stV1 (h.f k).2 i (c + j) x) := by simp [LH.set]
      obtain ⟨w', h3, h4⟩ := ih us c (j + 1) (h := h.set k (ver, stV1 (h.f k).2 i (c + j) x)) (w := w.setCell (a.add j) u) (a := a) h2.rep (Nat.le_trans hB h2.below.size) hk (by rw [hf]) ha (by simpa using hl)
        (fun q y hq => by have := hv (q + 1) y (by simpa using hq); exact (by simpa using this : Rv R ι h y (us.getD q undef)).mono h2.mono) (by rw [hf]; exact hc2)
      refine ⟨w', ?_, ?_⟩
      · simp only [storeCells, Sem.run_bind, h1, Result.andThen_ok, h3]
      · have e : (h.set k (ver, stV1 (h.f k).2 i (c + j) x)).set k (ver, stV ((h.set k (ver, stV1 (h.f k).2 i (c + j) x)).f k).2 i (c + (j + 1)) r) = h.set k (ver, stV (h.f k).2 i (c + j) (x :: r)) := by
          rw [hf]
          unfold LH.set
          simp only [stV]
          congr 1
          funext q
          split <;> rfl
        rw [e] at h4
        exact h2.trans h4

end
end Go.Proofs.YtdfiicpikcdokaaGreatDoor
namespace Go.Proofs.YtdfiicpikcdokaaGreatDoor
set_option linter.unusedSimpArgs false
set_option linter.unusedVariables false
open Go.RowKit

def roish1 : LV → Prop
  | .sc _ => True
  | .nsl => True
  | .rsl _ _ _ => True
  | .rptr _ => True
  | .rmp _ => True
  | .ifc _ => True
  | _ => False
def roishL : List LV → Prop
  | [] => True
  | x :: r => roish1 x ∧ roishL r
inductive LEf where
  | st (n : Nat) (x v : Operand)
  | alc (zero : List Value)
  | box (v : Operand)
  | mks (kd sz : Nat) (zero : List Value) (bytes : Nat) (ln cp : Operand)
  | bsl (kd len sz : Nat) (zero : List Value) (parts : List (Nat × Nat × Operand))
  | bsr (len sz : Nat) (zero : List Value) (parts : List (Nat × Nat × Operand))
  | app (kd sz bytes : Nat) (x y : Operand)
  | call (f : FuncId) (args : List Operand)
  | calv (x : Operand) (args : List Operand)
  | mkm
  | mup (kt : TypeId) (m k v : Operand)
  | ext (f : FuncId) (args : List Operand)
  | ecl (f : FuncId) (args : List Operand)
  | bad
  | alct (t : TypeId) (zero : List Value)
  | aps (t : TypeId) (bytes : Nat) (x y : Operand)
  | s2b (x : Operand)

open Classical in
noncomputable def mput : List (Value × LV) → Value → LV → List (Value × LV)
  | [], x, v => [(x, v)]
  | (k, u) :: r, x, v => if k = x then (k, v) :: r else (k, u) :: mput r x v

def zk : Value → Nat
  | .int .i64 n => if n = 0 then 1 else 0
  | .bool b => if b then 0 else 2
  | _ => 0
def kindZ : List Value → Nat
  | [v] => zk v
  | _ => 0
theorem kindZ_one {z : List Value} (h : kindZ z = 1) : z = [.int .i64 0] := by
  unfold kindZ at h
  split at h
  · unfold zk at h
    split at h
    · split at h
      · rename_i e; rw [e]
      · simp at h
    · split at h <;> simp at h
    · simp at h
  · simp at h
theorem kindZ_two {z : List Value} (h : kindZ z = 2) : z = [.bool false] := by
  unfold kindZ at h
  split at h
  · unfold zk at h
    split at h
    · split at h <;> simp at h
    · split at h
      · simp at h
      · rename_i e; simp at e; rw [e]
    · simp at h
  · simp at h

def repO (kd sz n : Nat) (zero : List Value) : LO :=
  match kd with
  | 1 => .ints (List.replicate n 0)
  | 2 => .bools (List.replicate n false)
  | _ => .row sz n (fun _ => zero.map liftC1)

def allI : List LV → Prop
  | [] => True
  | x :: r => isI64 x ∧ allI r
def allB : List LV → Prop
  | [] => True
  | x :: r => isBool x ∧ allB r
def litO (kd sz n : Nat) (cs : List LV) : LO :=
  match kd with
  | 1 => .ints (cs.map intOfV)
  | 2 => .bools (cs.map boolOf)
  | _ => .row sz n (fun i => (cs.drop (i * sz)).take sz)
def litC (kd : Nat) (cs : List LV) : Prop :=
  match kd with
  | 1 => allI cs
  | 2 => allB cs
  | _ => True
def repZ (n sz : Nat) (zero : List Value) : List LV := (List.range (n * sz)).map fun i => (zero.map liftC1).getD (i % sz) .any

section
variable {P : Program} {R : RO} {ι : IM} {h : LH} {B : Nat} {w : World} {s : LS} {ρ : Operand → Value}

theorem repO_facts {kd sz n : Nat} {zero : List Value} (hk : kindZ zero = kd) (hz : zero.length = sz) :
    (repO kd sz n zero).live = true ∧ (repO kd sz n zero).isMap = false ∧ (repO kd sz n zero).size = n * sz ∧ (repO kd sz n zero).sz = sz ∧
    ∀ i c lv, cellAt (repO kd sz n zero) i c = some lv → i < n ∧ c < sz ∧ (zero.map liftC1)[c]? = some lv := by
  unfold repO
  split
  · have := kindZ_one hk
    subst this
    simp at hz; subst hz
    refine ⟨rfl, rfl, by simp [LO.size], rfl, fun i c lv hc => ?_⟩
    simp only [cellAt] at hc
    split at hc
    · rename_i e; subst e
      simp only [Option.map_eq_some_iff] at hc
      obtain ⟨x, hx, rfl⟩ := hc
      have h1 := (List.getElem?_eq_some_iff.1 hx).1
      have h2 := (List.getElem?_eq_some_iff.1 hx).2
      simp at h1 h2
      subst h2
      exact ⟨h1, by omega, rfl⟩
    · simp at hc
  · have := kindZ_two hk
    subst this
    simp at hz; subst hz
    refine ⟨rfl, rfl, by simp [LO.size], rfl, fun i c lv hc => ?_⟩
    simp only [cellAt] at hc
    split at hc
    · rename_i e; subst e
      simp only [Option.map_eq_some_iff] at hc
      obtain ⟨x, hx, rfl⟩ := hc
      have h1 := (List.getElem?_eq_some_iff.1 hx).1
      have h2 := (List.getElem?_eq_some_iff.1 hx).2
      simp at h1 h2
      subst h2
      exact ⟨h1, by omega, rfl⟩
    · simp at hc
  · refine ⟨rfl, rfl, rfl, rfl, fun i c lv hc => ?_⟩
    simp only [cellAt] at hc
    split at hc
    · rename_i e; exact ⟨e.1, e.2, hc⟩
    · simp at hc

theorem repO_ty {kd sz n : Nat} {z : List Value} {w : World} {x : IA} : tyC w (repO kd sz n z) x := by
  unfold repO; split <;> trivial
theorem litO_ty {kd sz n : Nat} {cs : List LV} {w : World} {x : IA} : tyC w (litO kd sz n cs) x := by
  unfold litO; split <;> trivial
theorem rv_zero {zero : List Value} (hp : zero.all plainV = true) {c : Nat} {lv : LV} (hc : (zero.map liftC1)[c]? = some lv) : ∃ v, zero[c]? = some v ∧ Rv R ι h lv v ∧ plainV v = true := by
  simp only [List.getElem?_map, Option.map_eq_some_iff] at hc
  obtain ⟨v, hv, rfl⟩ := hc
  have : plainV v = true := by
    rw [List.all_eq_true] at hp
    exact hp v (List.mem_of_getElem? hv)
  exact ⟨v, hv, rv_liftC1 this, this⟩

theorem zeroCells_ok {t : TypeId} {z : List Value} (hz : zeroCells P t = some z) : ∃ v, (zeroValue t).run P w = .ok v w ∧ v.cells.toList = z ∧ z.all plainV = true := by
  unfold zeroCells at hz
  cases hi : P.info? t with
  | none => rw [hi] at hz; simp at hz
  | some i =>
    rw [hi] at hz
    simp only at hz
    cases hv : i.zero with
    | none => rw [hv] at hz; simp at hz
    | some v =>
      rw [hv] at hz
      simp only at hz
      split at hz
      · rename_i hp
        injection hz with hz
        exact ⟨v, by simp [zeroValue, typeInfo, hi, hv], hz, by rw [← hz]; simpa using hp⟩
      · simp at hz

theorem newVar_ok (hr : Rep R ι h B w) (hB : B ≤ w.heap.size) {t : TypeId} {v : Value} {cs : List LV} (hl : v.cells.size = cs.length) (hc : ∀ i c, cs[i]? = some c → Rv R ι h c (v.cells.getD i undef))
    (hp : ∀ i, i < v.cells.size → plainV (v.cells.getD i undef) = true) :
    ∃ v' w' ι', (do pure (.pointer (some (← newVar t v))) : Sem Value).run P w = .ok v' w' ∧ Trans B R ι h w R ι' (h.push (.box cs)) w' ∧ Rv R ι' (h.push (.box cs)) (.ptr h.n 0 0 0 0) v' := by
  have hT := hr.push hB (c := v.cells) (e := t) (ob := .box cs) rfl rfl (by simp [LO.size, hl]) hp (fun i c' lv hx => by
    simp only [cellAt] at hx
    split at hx
    · rename_i e; subst e
      refine ⟨v.cells.getD c' undef, ?_, hc c' lv hx⟩
      have := (List.getElem?_eq_some_iff.1 hx).1
      simp only [LO.sz, Nat.zero_mul, Nat.zero_add, Array.getD_eq_getD_getElem?]
      rw [Array.getElem?_eq_getElem (by omega)]; rfl
    · simp at hx)
  refine ⟨_, _, _, by simp [newVar, newRow]; rfl, hT, .ptr _ _ _ _ _ _ (by simp [LH.push]) (by simp [LH.push]) fun _ => ?_⟩
  simp [updI]

theorem newTVar_ok (hr : Rep R ι h B w) (hB : B ≤ w.heap.size) {t : TypeId} {v : Value} {cs : List LV} (hl : v.cells.size = cs.length) (hc : ∀ i c, cs[i]? = some c → Rv R ι h c (v.cells.getD i undef))
    (hp : ∀ i, i < v.cells.size → plainV (v.cells.getD i undef) = true) :
    ∃ v' w' ι', (do pure (.pointer (some (← newVar t v))) : Sem Value).run P w = .ok v' w' ∧ Trans B R ι h w R ι' (h.push (.tbox t cs)) w' ∧ Rv R ι' (h.push (.tbox t cs)) (.ptr h.n 0 0 0 0) v' := by
  have hT := hr.push hB (c := v.cells) (e := t) (ob := .tbox t cs) rfl rfl (by simp [LO.size, hl]) hp (fun i c' lv hx => by
    simp only [cellAt] at hx
    split at hx
    · rename_i e; subst e
      refine ⟨v.cells.getD c' undef, ?_, hc c' lv hx⟩
      have := (List.getElem?_eq_some_iff.1 hx).1
      simp only [LO.sz, Nat.zero_mul, Nat.zero_add, Array.getD_eq_getD_getElem?]
      rw [Array.getElem?_eq_getElem (by omega)]; rfl
    · simp at hx) (fun w' hw' => ⟨rfl, hl, fun _ => ⟨_, hw'⟩⟩)
  refine ⟨_, _, _, by simp [newVar, newRow]; rfl, hT, .ptr _ _ _ _ _ _ (by simp [LH.push]) (by simp [LH.push]) fun _ => ?_⟩
  simp [updI]

theorem range_zero (z : Array Value) (n : Nat) : ((Array.range n).map (z[· % z.size]!)).size = n := by simp
theorem range_get {z : Array Value} {n i : Nat} (hi : i < n) : ((Array.range n).map (z[· % z.size]!))[i]? = some (z[i % z.size]!) := by
  simp [hi]

theorem newRep_ok (hr : Rep R ι h B w) (hB : B ≤ w.heap.size) {e : TypeId} {kd sz l c : Nat} {zero : List Value} {z : Array Value} (hzz : z.toList = zero) (hk : kindZ zero = kd) (hz : zero.length = sz) (hp : zero.all plainV = true)
    (hlc : l ≤ c) (hc : c ≤ maxLen) (hs0 : 0 < sz) :
    ∃ w' ι', (newRow e ((Array.range (c * sz)).map (z[· % z.size]!))).run P w = .ok ⟨w.heap.size, 0, none⟩ w' ∧ Trans B R ι h w R ι' (h.push (repO kd sz l zero)) w' ∧
      Rv R ι' (h.push (repO kd sz l zero)) (.sl h.n 0 sz 0 l) (.slice (some ⟨w.heap.size, 0, none⟩) l c) := by
  obtain ⟨f1, f2, f3, f4, f5⟩ := repO_facts (n := l) hk hz
  have hzs : z.size = sz := by rw [← hz, ← hzz]; simp
  have hcell : ∀ i, i < c * sz → ∃ v, z[i % z.size]! = v ∧ plainV v = true ∧ zero[i % sz]? = some v := by
    intro i hi
    have hm : i % z.size < z.size := Nat.mod_lt _ (by omega)
    refine ⟨_, rfl, ?_, ?_⟩
    · rw [getElem!_pos z _ hm]
      rw [List.all_eq_true] at hp
      apply hp
      rw [← hzz]
      simp
    · rw [← hzz, ← hzs, getElem!_pos z _ hm]
      simp [hm]
  have hT := hr.push hB (hty := fun _ _ => repO_ty) (c := (Array.range (c * sz)).map (z[· % z.size]!)) (e := e) (ob := repO kd sz l zero) f1 f2 (by rw [range_zero, f3]; exact Nat.mul_le_mul_right _ hlc) (fun j hj => by
    rw [range_zero] at hj
    rw [Array.getD_eq_getD_getElem?, range_get hj]
    obtain ⟨v, h1, h2, _⟩ := hcell j hj
    rw [h1]; exact h2) (fun i c' lv hx => by
    obtain ⟨h1, h2, h3⟩ := f5 i c' lv hx
    obtain ⟨v, h4, h5, _⟩ := rv_zero (R := R) (ι := ι) (h := h) hp h3
    have hlt : i * sz + c' < c * sz := by
      have := Nat.mul_le_mul_right sz (Nat.succ_le_of_lt (Nat.lt_of_lt_of_le h1 hlc))
      rw [Nat.succ_mul] at this; omega
    refine ⟨v, ?_, h5⟩
    rw [f4, range_get hlt]
    obtain ⟨u, h6, _, h7⟩ := hcell _ hlt
    rw [h6]
    have : (i * sz + c') % sz = c' := by rw [Nat.mul_comm, Nat.mul_add_mod]; exact Nat.mod_eq_of_lt h2
    rw [this] at h7
    rw [h4] at h7
    injection h7 with h7
    rw [h7])
  refine ⟨_, _, by simp [newRow], hT, .sl _ _ _ _ _ _ _ (by simp [LH.push]) (by simp [LH.push]) hlc hc (.inr fun _ => ?_)⟩
  simp [updI]

theorem repZ_ok {n sz : Nat} {zero : List Value} {z : Array Value} (hzz : z.toList = zero) (hz : zero.length = sz) (hp : zero.all plainV = true) (h0 : 0 < sz) :
    ArrOk R ι h (repZ n sz zero) ((Array.range (n * sz)).map (z[· % z.size]!)) := by
  have hzs : z.size = sz := by rw [← hz, ← hzz]; simp
  have hcell : ∀ i, i < n * sz → plainV (z[i % z.size]!) = true ∧ zero[i % sz]? = some (z[i % z.size]!) := by
    intro i hi
    have hm : i % z.size < z.size := Nat.mod_lt _ (by omega)
    refine ⟨?_, ?_⟩
    · rw [getElem!_pos z _ hm]
      rw [List.all_eq_true] at hp
      apply hp
      rw [← hzz]
      simp
    · rw [← hzz, ← hzs, getElem!_pos z _ hm]
      simp [hm]
  refine ⟨by rw [range_zero]; simp [repZ], fun i c hi => ?_, fun i hi => ?_⟩
  · have hlt : i < n * sz := by
      have := (List.getElem?_eq_some_iff.1 hi).1
      simpa [repZ] using this
    obtain ⟨h1, h2⟩ := hcell i hlt
    rw [Array.getD_eq_getD_getElem?, range_get hlt]
    simp only [repZ, List.getElem?_map, List.getElem?_range hlt, Option.map_some, Option.some.injEq] at hi
    rw [← hi, List.getD_eq_getElem?_getD, List.getElem?_map, h2]
    exact rv_liftC1 h1
  · rw [range_zero] at hi
    rw [Array.getD_eq_getD_getElem?, range_get hi]
    exact (hcell i hi).1

theorem allI_get : ∀ {cs : List LV} {i : Nat} {x : LV}, allI cs → cs[i]? = some x → ∃ a, x = .sc (.int .i64 a)
  | [], i, x, _, hx => by simp at hx
  | c :: r, 0, x, h, hx => by simp at hx; subst hx; exact isI64_inv h.1
  | c :: r, i + 1, x, h, hx => allI_get h.2 (by simpa using hx)
theorem allB_get : ∀ {cs : List LV} {i : Nat} {x : LV}, allB cs → cs[i]? = some x → ∃ a, x = .sc (.bool a)
  | [], i, x, _, hx => by simp at hx
  | c :: r, 0, x, h, hx => by
    simp at hx; subst hx
    have := h.1
    unfold isBool at this
    split at this
    · exact ⟨_, rfl⟩
    · exact this.elim
  | c :: r, i + 1, x, h, hx => allB_get h.2 (by simpa using hx)

theorem litO_facts {kd sz n : Nat} {cs : List LV} (hl : cs.length = n * sz) (hc : litC kd cs) (hk : kd = 1 ∨ kd = 2 → sz = 1) :
    (litO kd sz n cs).live = true ∧ (litO kd sz n cs).isMap = false ∧ (litO kd sz n cs).size = n * sz ∧ (litO kd sz n cs).sz = sz ∧
    ∀ i c lv, cellAt (litO kd sz n cs) i c = some lv → cs[i * sz + c]? = some lv := by
  unfold litO
  unfold litC at hc
  split at hc
  · have := hk (.inl rfl)
    subst this
    refine ⟨rfl, rfl, by simp [LO.size, hl], rfl, fun i c lv hx => ?_⟩
    simp only [cellAt] at hx
    split at hx
    · rename_i e; subst e
      simp only [List.getElem?_map, Option.map_eq_some_iff] at hx
      obtain ⟨a, ⟨x, hx, rfl⟩, rfl⟩ := hx
      obtain ⟨a, rfl⟩ := allI_get hc hx
      simpa [intOfV] using hx
    · simp at hx
  · have := hk (.inr rfl)
    subst this
    refine ⟨rfl, rfl, by simp [LO.size, hl], rfl, fun i c lv hx => ?_⟩
    simp only [cellAt] at hx
    split at hx
    · rename_i e; subst e
      simp only [List.getElem?_map, Option.map_eq_some_iff] at hx
      obtain ⟨a, ⟨x, hx, rfl⟩, rfl⟩ := hx
      obtain ⟨a, rfl⟩ := allB_get hc hx
      simpa [boolOf] using hx
    · simp at hx
  · refine ⟨rfl, rfl, by simp [LO.size], rfl, fun i c lv hx => ?_⟩
    simp only [cellAt] at hx
    split at hx
    · rename_i e
      rw [List.getElem?_take_of_lt e.2, List.getElem?_drop] at hx
      exact hx
    · simp at hx

theorem roish1_ok {R' : RO} {lv : LV} {v : Value} (hr : Rv R ι h lv v) (hl : RoLe R R') (hi : roish1 lv) : Ro R' lv v := by
  cases lv with
  | sc x => obtain ⟨rfl, hp⟩ := hr.sc_inv; exact .sc _ hp
  | nsl => rw [hr.nsl_inv]; exact .nsl
  | rsl sz n f => exact hr.rsl_inv.mono hl
  | rptr cs => exact hr.rptr_inv.mono hl
  | rmp es => exact hr.rmp_inv.mono hl
  | ifc b => exact .ifc _ _ hr.ifc_inv
  | _ => exact hi.elim

theorem roishL_get : ∀ {l : List LV} {i : Nat} {x : LV}, roishL l → l[i]? = some x → roish1 x
  | [], _, _, _, hx => by simp at hx
  | y :: r, 0, x, h, hx => by simp at hx; subst hx; exact h.1
  | y :: r, i + 1, x, h, hx => roishL_get h.2 (by simpa using hx)

theorem trans_call (hB : B ≤ w.heap.size) (hr : Rep R ι h B w) {w' : World} {R1 R2 : RO} (hR1 : ∀ b o, R2 b = some o → w'.heap[b]? = some o) (hb : Below w.heap.size w w') (h1 : RoLe R R1) (h2 : ∀ b, b < w.heap.size → R1 b = R b) (h3 : R1 = R2) :
    Trans B R ι h w R1 ι h w' := by
  subst h3
  refine ⟨⟨hR1, ?_, hr.empty, ?_, hr.apart, ?_, ?_, hr.gl.mono h1⟩, ⟨h1, Nat.le_refl _, fun _ _ => Nat.le_refl _, fun _ _ _ => rfl⟩, hb.mono hB, fun b hbB => h2 b (by omega), hB⟩
  · intro k hk a1 a2 a3
    obtain ⟨cl, e, q1, q2, q3, q4, q5⟩ := (hr.cells k hk a1 a2 a3).ex
    refine ⟨cl, e, ?_, q2, q3, q4, fun i c lv hx => let ⟨v, g1, g2⟩ := q5 i c lv hx; ⟨v, g1, g2.mono ⟨h1, Nat.le_refl _, fun _ _ => Nat.le_refl _, fun _ _ _ => rfl⟩⟩⟩
    rw [hb.block _ (hr.base k hk a1 (.inl a3)).2.1]; exact q1
  · intro k hk a1 a2
    obtain ⟨g1, g2, g3⟩ := hr.base k hk a1 a2
    exact ⟨g1, Nat.lt_of_lt_of_le g2 hb.size, by rw [h2 _ g2]; exact g3⟩
  · intro k es hk he
    obtain ⟨ents, clock, q1, q2, q3, q4⟩ := hr.maps k es hk he
    refine ⟨ents, clock, ?_, q2, q3, fun i kv hkv => let ⟨e, g1, g2, g3⟩ := q4 i kv hkv; ⟨e, g1, g2, g3.mono ⟨h1, Nat.le_refl _, fun _ _ => Nat.le_refl _, fun _ _ _ => rfl⟩⟩⟩
    rw [hb.block _ (hr.base k hk (by rw [he]; rfl) (.inr (by rw [he]; rfl))).2.1]; exact q1
  · intro k hk
    exact (hr.ty k hk).heap fun a1 a3 => hb.block _ (hr.base k hk a1 (.inl a3)).2.1

theorem newLit_ok (hr : Rep R ι h B w) (hB : B ≤ w.heap.size) {e : TypeId} {kd sz n : Nat} {cs : List LV} {us : Array Value} (ha : ArrOk R ι h cs us) (hl : cs.length = n * sz) (hc : litC kd cs) (hk : kd = 1 ∨ kd = 2 → sz = 1) (hn : n ≤ maxLen) :
    ∃ w' ι', (newRow e us).run P w = .ok ⟨w.heap.size, 0, none⟩ w' ∧ Trans B R ι h w R ι' (h.push (litO kd sz n cs)) w' ∧
      Rv R ι' (h.push (litO kd sz n cs)) (.sl h.n 0 sz 0 n) (.slice (some ⟨w.heap.size, 0, none⟩) n n) := by
  obtain ⟨f1, f2, f3, f4, f5⟩ := litO_facts hl hc hk
  obtain ⟨a1, a2, a3⟩ := ha
  have hT := hr.push hB (hty := fun _ _ => litO_ty) (c := us) (e := e) (ob := litO kd sz n cs) f1 f2 (by rw [f3]; omega) a3 (fun i c' lv hx => by
    have hx' := f5 i c' lv hx
    refine ⟨us.getD (i * sz + c') undef, ?_, a2 _ _ hx'⟩
    have := (List.getElem?_eq_some_iff.1 hx').1
    rw [f4, Array.getD_eq_getD_getElem?, Array.getElem?_eq_getElem (by omega)]; rfl)
  refine ⟨_, _, by simp [newRow], hT, .sl _ _ _ _ _ _ _ (by simp [LH.push]) (by simp [LH.push]) (Nat.le_refl _) hn (.inr fun _ => ?_)⟩
  simp [updI]
  omega

theorem newRo_ok (hr : Rep R ι h B w) (hB : B ≤ w.heap.size) {e : TypeId} {sz n : Nat} {cs : List LV} {us : Array Value} (ha : ArrOk R ι h cs us) (hl : cs.length = n * sz) (hro : roishL cs) (hn : n ≤ maxLen) {f : Nat → List LV} (hf : ∀ i, i < n → f i = (cs.drop (i * sz)).take sz) :
    ∃ w' R', (newRow e us).run P w = .ok ⟨w.heap.size, 0, none⟩ w' ∧ Trans B R ι h w R' ι h w' ∧ Ro R' (.rsl sz n f) (.slice (some ⟨w.heap.size, 0, none⟩) n n) := by
  obtain ⟨a1, a2, a3⟩ := ha
  have hnone : R w.heap.size = none := by
    cases hq : R w.heap.size with
    | none => rfl
    | some o => have := (Array.getElem?_eq_some_iff.1 (hr.ro _ _ hq)).1; omega
  have hle : RoLe R (fun b => if b = w.heap.size then some (.cells us e) else R b) := by
    intro b o hb
    by_cases e1 : b = w.heap.size
    · subst e1; rw [hnone] at hb; simp at hb
    · simp only [e1, if_false]; exact hb
  refine ⟨{ w with heap := w.heap.push (.cells us e) }, fun b => if b = w.heap.size then some (.cells us e) else R b, by simp [newRow], ?_, ?_⟩
  · refine trans_call hB hr (w' := { w with heap := w.heap.push (.cells us e) }) ?_ ⟨rfl, rfl, rfl, by simp, fun k hk => by simp only [Array.getElem?_push, if_neg (show ¬ k = w.heap.size by omega)]⟩ hle (fun b hb => by simp only [if_neg (show ¬ b = w.heap.size by omega)]) rfl
    intro b o hb
    by_cases e1 : b = w.heap.size
    · subst e1; simp only [if_true] at hb; simp [← hb]
    · simp only [e1, if_false] at hb
      have := hr.ro b o hb
      simp only [Array.getElem?_push, e1, if_false]; exact this
  · have hidx : ∀ i j, i < n → j < sz → i * sz + j < cs.length := by
      intro i j hi hj
      have : (i + 1) * sz ≤ n * sz := Nat.mul_le_mul_right sz hi
      rw [Nat.add_mul] at this; omega
    refine .rsl sz n _ _ n w.heap.size 0 (fun i j => us.getD (i * sz + j) undef) (Nat.le_refl _) hn (fun _ => rfl) (fun i hi => ?_) (fun i j hi hj => ?_) (fun i j c hi hc => ?_) (fun i j hi hj => ?_)
    · have : (i + 1) * sz ≤ n * sz := Nat.mul_le_mul_right sz hi
      rw [Nat.add_mul] at this
      rw [hf i hi, List.length_take, List.length_drop]; omega
    · have := hidx i j hi hj
      unfold roCell
      simp only [if_true, Nat.zero_add]
      rw [Array.getD_eq_getD_getElem?, Array.getElem?_eq_getElem (by omega)]; rfl
    · rw [hf i hi, List.getElem?_take] at hc
      split at hc
      · rename_i hj
        rw [List.getElem?_drop] at hc
        exact roish1_ok (a2 _ _ hc) hle (roishL_get hro hc)
      · simp at hc
    · have := hidx i j hi hj
      exact a3 _ (by omega)

end
end Go.Proofs.YtdfiicpikcdokaaGreatDoor
namespace Go.Proofs.YtdfiicpikcdokaaGreatDoor
set_option linter.unusedSimpArgs false
set_option linter.unusedVariables false
open Go.RowKit

def elO : LO → Nat → List LV
  | .ints xs, i => [.sc (.int .i64 (xs.getD i 0))]
  | .bools xs, i => [.sc (.bool (xs.getD i false))]
  | .row _ _ f, i => f i
  | _, _ => []
def rngC (ob : LO) (sz off m : Nat) : Prop :=
  match ob with
  | .ints xs => sz = 1 ∧ off + m ≤ xs.length
  | .bools xs => sz = 1 ∧ off + m ≤ xs.length
  | .row sz' n f => sz' = sz ∧ off + m ≤ n ∧ ∀ i, i < m → (f (off + i)).length = sz
  | _ => False
def yN : LV → Nat
  | .sl _ _ _ _ m => m
  | .rsl _ m _ => m
  | _ => 0
def yF (h : LH) : LV → Nat → List LV
  | .sl k _ _ off _, i => elO (h.f k).2 (off + i)
  | .rsl _ _ f, i => f i
  | _, _ => []
def yC (h : LH) (sz : Nat) : LV → Prop
  | .sl k ver sz' off m => sz' = sz ∧ k < h.n ∧ (h.f k).1 = ver ∧ rngC (h.f k).2 sz off m
  | .rsl sz' _ _ => sz' = sz
  | .nsl => True
  | _ => False
def yInts (h : LH) : LV → List Int
  | .sl k _ _ off m => match (h.f k).2 with
    | .ints xs => (xs.drop off).take m
    | _ => []
  | .rsl _ m f => (List.range m).map fun i => intOfV ((f i).getD 0 .any)
  | _ => []
def yIntsC (h : LH) : LV → Prop
  | .sl k _ _ _ _ => match (h.f k).2 with
    | .ints _ => True
    | _ => False
  | .rsl _ m f => ∀ i, i < m → isI64 ((f i).getD 0 .any)
  | _ => True
def yBools (h : LH) : LV → List Bool
  | .sl k _ _ off m => match (h.f k).2 with
    | .bools xs => (xs.drop off).take m
    | _ => []
  | .rsl _ m f => (List.range m).map fun i => boolOf ((f i).getD 0 .any)
  | _ => []
def yBoolsC (h : LH) : LV → Prop
  | .sl k _ _ _ _ => match (h.f k).2 with
    | .bools _ => True
    | _ => False
  | .rsl _ m f => ∀ i, i < m → isBool ((f i).getD 0 .any)
  | _ => True
def intsO : LO → List Int
  | .ints xs => xs
  | _ => []
def boolsO : LO → List Bool
  | .bools xs => xs
  | _ => []
def appO (kd sz off len : Nat) (ob : LO) (h : LH) (y : LV) : LO :=
  match kd with
  | 1 => .ints (((intsO ob).drop off).take len ++ yInts h y)
  | 2 => .bools (((boolsO ob).drop off).take len ++ yBools h y)
  | _ => .row sz (len + yN y) (fun i => if i < len then elO ob (off + i) else yF h y (i - len))
def isInts : LO → Prop
  | .ints _ => True
  | _ => False
def isBools : LO → Prop
  | .bools _ => True
  | _ => False
def kdC (kd : Nat) (ob : LO) : Prop :=
  match kd with
  | 1 => isInts ob
  | 2 => isBools ob
  | _ => True
def ykC (kd : Nat) (h : LH) (y : LV) : Prop :=
  match kd with
  | 1 => yIntsC h y
  | 2 => yBoolsC h y
  | _ => True

section
variable {P : Program} {R : RO} {ι : IM} {h : LH} {B : Nat} {w : World} {s : LS} {ρ : Operand → Value}

theorem rngC_cell {ob : LO} {sz off m i c : Nat} (hr : rngC ob sz off m) (hi : i < m) (hc : c < sz) : ∃ lv, (elO ob (off + i))[c]? = some lv ∧ cellAt ob (off + i) c = some lv ∧ ob.sz = sz ∧ ob.live = true ∧ ob.isMap = false ∧ ob.size ≠ 0 := by
  unfold rngC at hr
  split at hr
  · obtain ⟨rfl, hl⟩ := hr
    have : c = 0 := by omega
    subst this
    have hlt : off + i < _ := Nat.lt_of_lt_of_le (Nat.add_lt_add_left hi off) hl
    exact ⟨_, rfl, by simp [cellAt, hlt], rfl, rfl, rfl, by simp only [LO.size]; omega⟩
  · obtain ⟨rfl, hl⟩ := hr
    have : c = 0 := by omega
    subst this
    have hlt : off + i < _ := Nat.lt_of_lt_of_le (Nat.add_lt_add_left hi off) hl
    exact ⟨_, rfl, by simp [cellAt, hlt], rfl, rfl, rfl, by simp only [LO.size]; omega⟩
  · rename_i sz' n f
    obtain ⟨rfl, hl, hf⟩ := hr
    have h1 := hf i hi
    have hlt : c < (f (off + i)).length := by omega
    refine ⟨(f (off + i))[c], ?_, ?_, rfl, rfl, rfl, ?_⟩
    · simp only [elO]; exact List.getElem?_eq_getElem hlt
    · simp only [cellAt]; rw [if_pos ⟨by omega, hc⟩]; exact List.getElem?_eq_getElem hlt
    · simp only [LO.size]; exact Nat.mul_ne_zero (by omega) (by omega)
  · exact hr.elim

theorem rng_cells (hr : Rep R ι h B w) {k sz off m : Nat} (hk : k < h.n) (hc : rngC (h.f k).2 sz off m) {i j : Nat} (hi : i < m) (hj : j < sz) :
    ∃ lv v, (elO (h.f k).2 (off + i))[j]? = some lv ∧ w.cell? ⟨(ι k).b, (ι k).o + ((off + i) * sz + j), none⟩ = some v ∧ Rv R ι h lv v ∧ plainV v = true := by
  obtain ⟨lv, h1, h2, h3, h4, h5, h6⟩ := rngC_cell hc hi hj
  have hm0 : (ι k).m ≠ 0 := fun e => h6 (hr.empty k hk h4 h5 e)
  obtain ⟨cl, e, hw, hsz, _, hp, hcl⟩ := (hr.cells k hk h4 h5 hm0).ex
  obtain ⟨v, hv1, hv2⟩ := hcl (off + i) j lv h2
  rw [h3] at hv1
  refine ⟨lv, v, h1, ?_, hv2, ?_⟩
  · simp [World.cell?, hw, hv1]
  · have hlt := (Array.getElem?_eq_some_iff.1 hv1).1
    have := hp _ hlt
    rw [Array.getD_eq_getD_getElem?, hv1] at this
    exact this

theorem divmod {q sz m : Nat} (h0 : 0 < sz) (hq : q < m * sz) : q / sz < m ∧ q % sz < sz ∧ q / sz * sz + q % sz = q := by
  refine ⟨(Nat.div_lt_iff_lt_mul h0).2 hq, Nat.mod_lt _ h0, ?_⟩
  have := Nat.div_add_mod q sz
  rw [Nat.mul_comm] at this; exact this

theorem firstCells_ok (hr : Rep R ι h B w) {sz : Nat} {y : LV} {vy : Value} (h0 : 0 < sz) (hy : Rv R ι h y vy) (hc : yC h sz y) :
    ∃ a cap us, vy = .slice a (yN y) cap ∧ (Builtin.firstCells sz (yN y) vy).run P w = .ok us w ∧ us.size = yN y * sz ∧
      ∀ i j, i < yN y → j < sz → ∃ lv, (yF h y i)[j]? = some lv ∧ Rv R ι h lv (us.getD (i * sz + j) undef) ∧ plainV (us.getD (i * sz + j) undef) = true := by
  unfold yC at hc
  split at hc
  · rename_i k ver sz' off m
    obtain ⟨rfl, hk, hver, hrng⟩ := hc
    obtain ⟨a, cap, rfl, _, _, hlc, hm, hcase⟩ := hy.sl_inv
    by_cases hm0 : m = 0
    · subst hm0
      refine ⟨a, cap, #[], rfl, ?_, by simp [yN], fun i j hi _ => absurd hi (Nat.not_lt_zero _)⟩
      cases a <;> simp [yN, Builtin.firstCells, loadCells, loadCellsFrom]
    · rcases hcase with h9 | h9
      · omega
      · obtain ⟨rfl, _⟩ := h9 hver.symm
        have hall : ∀ q, ∃ v, q < m * sz' → ∃ lv, (elO (h.f k).2 (off + q / sz'))[q % sz']? = some lv ∧ w.cell? ⟨(ι k).b, (ι k).o + off * sz' + (0 + q), none⟩ = some v ∧ Rv R ι h lv v ∧ plainV v = true := by
          intro q
          by_cases hq : q < m * sz'
          · obtain ⟨d1, d2, d3⟩ := divmod h0 hq
            obtain ⟨lv, v, e1, e2, e3, e4⟩ := rng_cells hr hk hrng d1 d2
            refine ⟨v, fun _ => ⟨lv, e1, ?_, e3, e4⟩⟩
            rw [← e2]; congr 2
            rw [Nat.add_mul]; omega
          · exact ⟨undef, fun h => absurd h hq⟩
        obtain ⟨g, hg⟩ := Classical.axiomOfChoice hall
        obtain ⟨us, u1, u2, u3⟩ := loadCellsFrom_ok (P := P) (w := w) (ι k).b ((ι k).o + off * sz') g (m * sz') 0 #[] (fun q hq => by
          obtain ⟨lv, _, e2, _⟩ := hg q hq
          rw [e2]; simp) rfl (fun q hq => absurd hq (Nat.not_lt_zero _))
        refine ⟨_, _, us, rfl, by simp only [yN, Builtin.firstCells, loadCells]; exact u1, by simp only [yN]; omega, fun i j hi hj => ?_⟩
        simp only [yN] at hi
        have hlt : i * sz' + j < m * sz' := by
          have := Nat.mul_le_mul_right sz' (Nat.succ_le_of_lt hi)
          rw [Nat.succ_mul] at this; omega
        obtain ⟨lv, e1, _, e3, e4⟩ := hg _ hlt
        rw [u3 _ (by omega)]
        have q1 : (i * sz' + j) / sz' = i := by rw [Nat.mul_comm, Nat.mul_add_div h0, Nat.div_eq_of_lt hj]; omega
        have q2 : (i * sz' + j) % sz' = j := by rw [Nat.mul_comm, Nat.mul_add_mod]; exact Nat.mod_eq_of_lt hj
        rw [q1, q2] at e1
        exact ⟨lv, e1, e3, e4⟩
  · rename_i sz' m f
    subst hc
    cases hy.rsl_inv with
    | rsl _ _ _ a cap b o g hcp hm ha hf hcell hv hp =>
      by_cases hm0 : m = 0
      · subst hm0
        refine ⟨a, cap, #[], rfl, ?_, by simp [yN], fun i j hi _ => absurd hi (Nat.not_lt_zero _)⟩
        cases a <;> simp [yN, Builtin.firstCells, loadCells, loadCellsFrom]
      · have := ha (by omega)
        subst this
        obtain ⟨us, u1, u2, u3⟩ := loadCellsFrom_ok (P := P) (w := w) b o (fun q => g (q / sz') (q % sz')) (m * sz') 0 #[] (fun q hq => by
          obtain ⟨d1, d2, d3⟩ := divmod h0 hq
          have := ro_cell hr (hcell _ _ d1 d2)
          rw [Nat.zero_add, ← this]; congr 2; omega) rfl (fun q hq => absurd hq (Nat.not_lt_zero _))
        refine ⟨_, _, us, rfl, by simp only [yN, Builtin.firstCells, loadCells]; exact u1, by simp only [yN]; omega, fun i j hi hj => ?_⟩
        simp only [yN] at hi
        have hlt : i * sz' + j < m * sz' := by
          have := Nat.mul_le_mul_right sz' (Nat.succ_le_of_lt hi)
          rw [Nat.succ_mul] at this; omega
        rw [u3 _ (by omega)]
        have q1 : (i * sz' + j) / sz' = i := by rw [Nat.mul_comm, Nat.mul_add_div h0, Nat.div_eq_of_lt hj]; omega
        have q2 : (i * sz' + j) % sz' = j := by rw [Nat.mul_comm, Nat.mul_add_mod]; exact Nat.mod_eq_of_lt hj
        simp only [q1, q2, yF]
        have hl := hf i hi
        have hjl : j < (f i).length := by omega
        refine ⟨(f i)[j], List.getElem?_eq_getElem hjl, .ro (hv i j _ hi (List.getElem?_eq_getElem hjl)), hp i j hi hj⟩
  · have := hy.nsl_inv
    subst this
    exact ⟨none, 0, #[], rfl, by simp [yN, Builtin.firstCells], by simp [yN], fun i j hi _ => absurd hi (Nat.not_lt_zero _)⟩
  · exact hc.elim

theorem yInts_ok {y : LV} (hc : yC h 1 y) (hk : yIntsC h y) : (yInts h y).length = yN y ∧ ∀ i, i < yN y → (yF h y i)[0]? = some (.sc (.int .i64 ((yInts h y).getD i 0))) := by
  unfold yC at hc
  split at hc
  · rename_i k ver sz' off m
    obtain ⟨rfl, _, _, hrng⟩ := hc
    simp only [yIntsC] at hk
    simp only [yInts, yN, yF]
    split at hk
    · rename_i xs hx
      rw [hx] at hrng
      obtain ⟨_, hl⟩ := hrng
      refine ⟨by simp; omega, fun i hi => ?_⟩
      have e1 : xs.getD (off + i) 0 = xs[off + i] := getD_el (by omega)
      have e2 : ((xs.drop off).take m).getD i 0 = xs[off + i] := by rw [getD_el (by simp; omega)]; simp
      rw [hx]
      simp only [elO, e1, e2]; rfl
    · exact hk.elim
  · rename_i sz' m f
    simp only [yIntsC] at hk
    simp only [yInts, yN, yF]
    refine ⟨by simp, fun i hi => ?_⟩
    obtain ⟨a, ha⟩ := isI64_inv (hk i hi)
    rw [getD_el (by simp; exact hi)]
    simp only [List.getElem_map, List.getElem_range, ha, intOfV]
    rw [List.getD_eq_getElem?_getD] at ha
    cases hg : (f i)[0]? with
    | none => rw [hg] at ha; simp at ha
    | some x => rw [hg] at ha; simp at ha; rw [ha]
  · exact ⟨rfl, fun i hi => absurd hi (Nat.not_lt_zero _)⟩
  · exact hc.elim

theorem yBools_ok {y : LV} (hc : yC h 1 y) (hk : yBoolsC h y) : (yBools h y).length = yN y ∧ ∀ i, i < yN y → (yF h y i)[0]? = some (.sc (.bool ((yBools h y).getD i false))) := by
  unfold yC at hc
  split at hc
  · rename_i k ver sz' off m
    obtain ⟨rfl, _, _, hrng⟩ := hc
    simp only [yBoolsC] at hk
    simp only [yBools, yN, yF]
    split at hk
    · rename_i xs hx
      rw [hx] at hrng
      obtain ⟨_, hl⟩ := hrng
      refine ⟨by simp; omega, fun i hi => ?_⟩
      have e1 : xs.getD (off + i) false = xs[off + i] := getD_el (by omega)
      have e2 : ((xs.drop off).take m).getD i false = xs[off + i] := by rw [getD_el (by simp; omega)]; simp
      rw [hx]
      simp only [elO, e1, e2]; rfl
    · exact hk.elim
  · rename_i sz' m f
    simp only [yBoolsC] at hk
    simp only [yBools, yN, yF]
    refine ⟨by simp, fun i hi => ?_⟩
    have hb := hk i hi
    rw [getD_el (by simp; exact hi)]
    simp only [List.getElem_map, List.getElem_range]
    rw [List.getD_eq_getElem?_getD] at hb ⊢
    cases hg : (f i)[0]? with
    | none => rw [hg] at hb; simp [isBool] at hb
    | some x =>
      rw [hg] at hb
      simp only [Option.getD_some] at hb ⊢
      unfold isBool at hb
      split at hb
      · rfl
      · exact hb.elim
  · exact ⟨rfl, fun i hi => absurd hi (Nat.not_lt_zero _)⟩
  · exact hc.elim

theorem appO_facts {kd sz off len : Nat} {ob : LO} {y : LV} (hy : yC h sz y) (hyk : ykC kd h y) (hk : kdC kd ob ∨ len = 0) (hs : kd = 1 ∨ kd = 2 → sz = 1) (hr : len = 0 ∨ rngC ob sz off len) :
    (appO kd sz off len ob h y).live = true ∧ (appO kd sz off len ob h y).isMap = false ∧ (appO kd sz off len ob h y).size = (len + yN y) * sz ∧ (appO kd sz off len ob h y).sz = sz ∧
    ∀ i c lv, cellAt (appO kd sz off len ob h y) i c = some lv → c < sz ∧ ((i < len ∧ cellAt ob (off + i) c = some lv ∧ ob.sz = sz) ∨ (len ≤ i ∧ i - len < yN y ∧ (yF h y (i - len))[c]? = some lv)) := by
  unfold appO
  split
  · have := hs (.inl rfl)
    subst this
    obtain ⟨q1, q2⟩ := yInts_ok hy hyk
    have hlen : (((intsO ob).drop off).take len).length = len := by
      rcases hr with h0 | hr
      · subst h0; simp
      · unfold rngC at hr
        split at hr
        · simp [intsO]; omega
        · rcases hk with hk | hk
          · exact (hk : isInts (.bools _)).elim
          · subst hk; simp
        · rcases hk with hk | hk
          · exact (hk : isInts (.row _ _ _)).elim
          · subst hk; simp
        · exact hr.elim
    refine ⟨rfl, rfl, by simp only [LO.size, List.length_append, hlen, q1]; omega, rfl, fun i c lv hx => ?_⟩
    simp only [cellAt] at hx
    split at hx
    · rename_i e; subst e
      refine ⟨by omega, ?_⟩
      simp only [Option.map_eq_some_iff] at hx
      obtain ⟨a, ha, rfl⟩ := hx
      by_cases hi : i < len
      · left
        rw [List.getElem?_append_left (by omega), List.getElem?_take_of_lt hi, List.getElem?_drop] at ha
        refine ⟨hi, ?_⟩
        rcases hr with h0 | hr
        · omega
        · unfold rngC at hr
          split at hr
          · simp only [intsO] at ha
            exact ⟨by simp [cellAt, ha], rfl⟩
          · simp [intsO] at ha
          · simp [intsO] at ha
          · exact hr.elim
      · right
        rw [List.getElem?_append_right (by omega), hlen] at ha
        have hlt := (List.getElem?_eq_some_iff.1 ha).1
        have hlt' : i - len < yN y := by omega
        refine ⟨by omega, hlt', ?_⟩
        rw [q2 _ hlt', List.getD_eq_getElem?_getD, ha]; rfl
    · simp at hx
  · have := hs (.inr rfl)
    subst this
    obtain ⟨q1, q2⟩ := yBools_ok hy hyk
    have hlen : (((boolsO ob).drop off).take len).length = len := by
      rcases hr with h0 | hr
      · subst h0; simp
      · unfold rngC at hr
        split at hr
        · rcases hk with hk | hk
          · exact (hk : isBools (.ints _)).elim
          · subst hk; simp
        · simp [boolsO]; omega
        · rcases hk with hk | hk
          · exact (hk : isBools (.row _ _ _)).elim
          · subst hk; simp
        · exact hr.elim
    refine ⟨rfl, rfl, by simp only [LO.size, List.length_append, hlen, q1]; omega, rfl, fun i c lv hx => ?_⟩
    simp only [cellAt] at hx
    split at hx
    · rename_i e; subst e
      refine ⟨by omega, ?_⟩
      simp only [Option.map_eq_some_iff] at hx
      obtain ⟨a, ha, rfl⟩ := hx
      by_cases hi : i < len
      · left
        rw [List.getElem?_append_left (by omega), List.getElem?_take_of_lt hi, List.getElem?_drop] at ha
        refine ⟨hi, ?_⟩
        rcases hr with h0 | hr
        · omega
        · unfold rngC at hr
          split at hr
          · simp [boolsO] at ha
          · simp only [boolsO] at ha
            exact ⟨by simp [cellAt, ha], rfl⟩
          · simp [boolsO] at ha
          · exact hr.elim
      · right
        rw [List.getElem?_append_right (by omega), hlen] at ha
        have hlt := (List.getElem?_eq_some_iff.1 ha).1
        have hlt' : i - len < yN y := by omega
        refine ⟨by omega, hlt', ?_⟩
        rw [q2 _ hlt', List.getD_eq_getElem?_getD, ha]; rfl
    · simp at hx
  · refine ⟨rfl, rfl, rfl, rfl, fun i c lv hx => ?_⟩
    simp only [cellAt] at hx
    split at hx
    · rename_i e
      refine ⟨e.2, ?_⟩
      by_cases hi : i < len
      · left
        rw [if_pos hi] at hx
        rcases hr with h0 | hr
        · omega
        · obtain ⟨lv', e1, e2, e3, _⟩ := rngC_cell hr hi e.2
          rw [e1] at hx
          injection hx with hx
          subst hx
          exact ⟨hi, e2, e3⟩
      · right
        rw [if_neg hi] at hx
        exact ⟨by omega, by omega, hx⟩
    · simp at hx

end
end Go.Proofs.YtdfiicpikcdokaaGreatDoor
