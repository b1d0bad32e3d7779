/- The lifted layer, part 1: abstract values, abstract heaps, and what a world must hold to stand for them. Conditions: none. -/
import Derived.Test.YtfhifkcbdpgomaaProg
import Derived.WalkKit
import Derived.Below
namespace Go.Proofs.Ytfhifkcbdpgomaa
set_option linter.unusedSimpArgs false
set_option linter.unusedVariables false
open Go.RowKit

abbrev RO := Nat → Option Obj

inductive LV where
  | any
  | sc (v : Value)
  | nsl
  | agg (cs : List LV)
  | rsl (sz n : Nat) (f : Nat → List LV)
  | rptr (cs : List LV)
  | rmp (es : List (Value × LV))
  | sl (k ver sz off len : Nat)
  | ptr (k ver sz i c : Nat)
  | mp (k ver : Nat)
  | fn (f : FuncId) (caps : List LV)
  | tup (vs : List LV)
  | cnd (g : Bool) (v : LV)

instance : Inhabited LV := ⟨.any⟩

inductive LO where
  | dead
  | box (cs : List LV)
  | ints (xs : List Int)
  | bools (xs : List Bool)
  | row (sz n : Nat) (f : Nat → List LV)
  | map (es : List (Value × LV))

structure LH where
  n : Nat
  f : Nat → Nat × LO

def plainV : Value → Bool
  | .agg _ => false
  | .tuple _ => false
  | _ => true

/-- The cell at an address of a read-only part of memory. -/
def roCell (R : RO) (b off : Nat) : Option Value :=
  match R b with
  | some (.cells c _ _) => c[off]?
  | _ => none

inductive Ro (R : RO) : LV → Value → Prop where
  | sc (v : Value) (h : plainV v = true) : Ro R (.sc v) v
  | nsl : Ro R .nsl (.slice none 0 0)
  | agg (cs : List LV) (vs : Array Value) (hl : vs.size = cs.length) (h : ∀ i c, cs[i]? = some c → Ro R c (vs.getD i undef)) (hp : ∀ i, i < vs.size → plainV (vs.getD i undef) = true) : Ro R (.agg cs) (.agg vs)
  | tup (cs : List LV) (vs : Array Value) (hl : vs.size = cs.length) (h : ∀ i c, cs[i]? = some c → Ro R c (vs.getD i undef)) : Ro R (.tup cs) (.tuple vs)
  | rsl (sz n : Nat) (f : Nat → List LV) (a : Option Addr) (cap : Nat) (b o : Nat) (g : Nat → Nat → Value) (hc : n ≤ cap) (hm : cap ≤ maxLen)
      (ha : 0 < n → a = some ⟨b, o, none⟩)
      (hf : ∀ i, i < n → (f i).length = sz) (hcell : ∀ i j, i < n → j < sz → roCell R b (o + i * sz + j) = some (g i j))
      (hv : ∀ i j c, i < n → (f i)[j]? = some c → Ro R c (g i j)) (hp : ∀ i j, i < n → j < sz → plainV (g i j) = true) : Ro R (.rsl sz n f) (.slice a n cap)
  | rptr (cs : List LV) (b o : Nat) (g : Nat → Value) (hcell : ∀ j, j < cs.length → roCell R b (o + j) = some (g j)) (hv : ∀ j c, cs[j]? = some c → Ro R c (g j)) (hp : ∀ j, j < cs.length → plainV (g j) = true) :
      Ro R (.rptr cs) (.pointer (some ⟨b, o, none⟩))
  | fn (f : FuncId) (cs : List LV) (vs : Array Value) (hl : vs.size = cs.length) (h : ∀ i c, cs[i]? = some c → Ro R c (vs.getD i undef)) : Ro R (.fn f cs) (.func (.func f) #[] vs)
  | rmp (es : List (Value × LV)) (b : Nat) (ents : Array MapEntry) (clock : Nat) (hb : R b = some (.map ents clock)) (hl : ents.size = es.length) (hn : (es.map (·.1)).Nodup)
      (hk : ∀ (i : Nat) (kv : Value × LV), es[i]? = some kv → ∃ e : MapEntry, ents[i]? = some e ∧ e.key = kv.1) (hv : ∀ (i : Nat) (kv : Value × LV) (e : MapEntry), es[i]? = some kv → ents[i]? = some e → Ro R kv.2 e.val) : Ro R (.rmp es) (.map (some b))

def RoLe (R R' : RO) : Prop := ∀ b o, R b = some o → R' b = some o

theorem roCell_le {R R' : RO} (h : RoLe R R') {b off : Nat} {v : Value} (hc : roCell R b off = some v) : roCell R' b off = some v := by
  unfold roCell at hc ⊢
  cases hb : R b with
  | none => rw [hb] at hc; simp at hc
  | some o => rw [h b o hb]; rw [hb] at hc; exact hc

theorem Ro.mono {R R' : RO} (h : RoLe R R') {lv : LV} {v : Value} (hr : Ro R lv v) : Ro R' lv v := by
  induction hr with
  | sc v hp => exact .sc v hp
  | nsl => exact .nsl
  | agg cs vs hl _ hp ih => exact .agg cs vs hl ih hp
  | tup cs vs hl _ ih => exact .tup cs vs hl ih
  | rsl sz n f a cap b o g hc hm ha hf hcell _ hp ih => exact .rsl sz n f a cap b o g hc hm ha hf (fun i j hi hj => roCell_le h (hcell i j hi hj)) ih hp
  | rptr cs b o g hcell _ hp ih => exact .rptr cs b o g (fun j hj => roCell_le h (hcell j hj)) ih hp
  | fn f cs vs hl _ ih => exact .fn f cs vs hl ih
  | rmp es b ents clock hb hl hn hk _ ih => exact .rmp es b ents clock (h _ _ hb) hl hn hk ih

/-- Where an object lies: its block, the cell at which its first element begins, the number of cells from there on. -/
structure IA where
  b : Nat
  o : Nat
  m : Nat
instance : Inhabited IA := ⟨⟨0, 0, 0⟩⟩
abbrev IM := Nat → IA

inductive Rv (R : RO) (ι : IM) (h : LH) : LV → Value → Prop where
  | any (v : Value) : Rv R ι h .any v
  | ro {lv : LV} {v : Value} (hr : Ro R lv v) : Rv R ι h lv v
  | agg (cs : List LV) (vs : Array Value) (hl : vs.size = cs.length) (hc : ∀ i c, cs[i]? = some c → Rv R ι h c (vs.getD i undef)) (hp : ∀ i, i < vs.size → plainV (vs.getD i undef) = true) : Rv R ι h (.agg cs) (.agg vs)
  | tup (cs : List LV) (vs : Array Value) (hl : vs.size = cs.length) (hc : ∀ i c, cs[i]? = some c → Rv R ι h c (vs.getD i undef)) : Rv R ι h (.tup cs) (.tuple vs)
  | fn (f : FuncId) (cs : List LV) (vs : Array Value) (hl : vs.size = cs.length) (hc : ∀ i c, cs[i]? = some c → Rv R ι h c (vs.getD i undef)) : Rv R ι h (.fn f cs) (.func (.func f) #[] vs)
  | cnd (g : Bool) (lv : LV) (v : Value) (hc : g = true → Rv R ι h lv v) (hu : g = false → v = undef) : Rv R ι h (.cnd g lv) v
  | sl (k ver sz off len : Nat) (a : Option Addr) (cap : Nat) (hk : k < h.n) (hver : ver ≤ (h.f k).1) (hlc : len ≤ cap) (hm : cap ≤ maxLen)
      (hz : cap = 0 ∨ (ver = (h.f k).1 → a = some ⟨(ι k).b, (ι k).o + off * sz, none⟩ ∧ (off + cap) * sz ≤ (ι k).m)) : Rv R ι h (.sl k ver sz off len) (.slice a len cap)
  | ptr (k ver sz i c : Nat) (a : Addr) (hk : k < h.n) (hver : ver ≤ (h.f k).1) (ha : ver = (h.f k).1 → a = ⟨(ι k).b, (ι k).o + (i * sz + c), none⟩) : Rv R ι h (.ptr k ver sz i c) (.pointer (some a))
  | mp (k ver : Nat) (b : Nat) (hk : k < h.n) (hver : ver ≤ (h.f k).1) (hb : ver = (h.f k).1 → b = (ι k).b) : Rv R ι h (.mp k ver) (.map (some b))

def LO.sz : LO → Nat
  | .dead => 0
  | .box _ => 0
  | .ints _ => 1
  | .bools _ => 1
  | .row sz _ _ => sz
  | .map _ => 0

/-- The number of cells that an object holds. -/
def LO.size : LO → Nat
  | .dead => 0
  | .box cs => cs.length
  | .ints xs => xs.length
  | .bools xs => xs.length
  | .row sz n _ => n * sz
  | .map _ => 0

def cellAt : LO → Nat → Nat → Option LV
  | .box cs, i, c => if i = 0 then cs[c]? else none
  | .ints xs, i, c => if c = 0 then (xs[i]?).map fun x => .sc (.int .i64 x) else none
  | .bools xs, i, c => if c = 0 then (xs[i]?).map fun x => .sc (.bool x) else none
  | .row sz n f, i, c => if i < n ∧ c < sz then (f i)[c]? else none
  | _, _, _ => none

def LO.isMap : LO → Bool
  | .map _ => true
  | _ => false
def LO.live : LO → Bool
  | .dead => false
  | _ => true

/-- The object's cells stand in the world. -/
structure CellsOk (R : RO) (ι : IM) (h : LH) (w : World) (x : IA) (ob : LO) : Prop where
  ex : ∃ c e, w.heap[x.b]? = some (.cells c e (0, 0)) ∧ c.size = x.o + x.m ∧ ob.size ≤ x.m ∧ (∀ j, j < c.size → plainV (c.getD j undef) = true) ∧
    ∀ i c', ∀ lv, cellAt ob i c' = some lv → ∃ v, c[x.o + (i * ob.sz + c')]? = some v ∧ Rv R ι h lv v

structure Rep (R : RO) (ι : IM) (h : LH) (B : Nat) (w : World) : Prop where
  ro : ∀ b o, R b = some o → w.heap[b]? = some o
  cells : ∀ k, k < h.n → (h.f k).2.live = true → (h.f k).2.isMap = false → (ι k).m ≠ 0 → CellsOk R ι h w (ι k) (h.f k).2
  empty : ∀ k, k < h.n → (h.f k).2.live = true → (h.f k).2.isMap = false → (ι k).m = 0 → (h.f k).2.size = 0
  base : ∀ k, k < h.n → (h.f k).2.live = true → ((ι k).m ≠ 0 ∨ (h.f k).2.isMap = true) → B ≤ (ι k).b ∧ (ι k).b < w.heap.size ∧ R (ι k).b = none
  apart : ∀ k k', k < h.n → k' < h.n → (h.f k).2.live = true → (h.f k').2.live = true → ((ι k).m ≠ 0 ∨ (h.f k).2.isMap = true) → ((ι k').m ≠ 0 ∨ (h.f k').2.isMap = true) → (ι k).b = (ι k').b → k = k'
  maps : ∀ k es, k < h.n → (h.f k).2 = .map es → ∃ ents clock, w.heap[(ι k).b]? = some (.map ents clock) ∧ ents.size = es.length ∧ ((∀ (i : Nat) (e : MapEntry), ents[i]? = some e → e.born < clock) ∧ (es.map (·.1)).Nodup) ∧
    ∀ (i : Nat) (kv : Value × LV), es[i]? = some kv → ∃ e : MapEntry, ents[i]? = some e ∧ e.key = kv.1 ∧ Rv R ι h kv.2 e.val

/-- Later states: what was read-only stays so; a handle that is not stale stands for the same place. -/
structure Mono (R : RO) (ι : IM) (h : LH) (R' : RO) (ι' : IM) (h' : LH) : Prop where
  ro : RoLe R R'
  n : h.n ≤ h'.n
  ver : ∀ k, k < h.n → (h.f k).1 ≤ (h'.f k).1
  same : ∀ k, k < h.n → (h.f k).1 = (h'.f k).1 → ι' k = ι k

theorem Mono.refl (R : RO) (ι : IM) (h : LH) : Mono R ι h R ι h := ⟨fun _ _ h => h, Nat.le_refl _, fun _ _ => Nat.le_refl _, fun _ _ _ => rfl⟩

theorem Mono.trans {R ι h R1 ι1 h1 R2 ι2 h2} (a : Mono R ι h R1 ι1 h1) (b : Mono R1 ι1 h1 R2 ι2 h2) : Mono R ι h R2 ι2 h2 :=
  ⟨fun x o hx => b.ro _ _ (a.ro _ _ hx), Nat.le_trans a.n b.n, fun k hk => Nat.le_trans (a.ver k hk) (b.ver k (Nat.lt_of_lt_of_le hk a.n)), fun k hk he => by
    have h1 := a.ver k hk
    have h2 := b.ver k (Nat.lt_of_lt_of_le hk a.n)
    rw [b.same k (Nat.lt_of_lt_of_le hk a.n) (by omega), a.same k hk (by omega)]⟩

theorem Rv.mono {R ι h R' ι' h'} (m : Mono R ι h R' ι' h') {lv : LV} {v : Value} (hr : Rv R ι h lv v) : Rv R' ι' h' lv v := by
  induction hr with
  | any v => exact .any v
  | ro hr => exact .ro (hr.mono m.ro)
  | agg cs vs hl _ hp ih => exact .agg cs vs hl ih hp
  | tup cs vs hl _ ih => exact .tup cs vs hl ih
  | fn f cs vs hl _ ih => exact .fn f cs vs hl ih
  | cnd g lv v _ hu ih => exact .cnd g lv v ih hu
  | sl k ver sz off len a cap hk hver hlc hm hz =>
    have h1 := m.ver k hk
    refine .sl k ver sz off len a cap (Nat.lt_of_lt_of_le hk m.n) (Nat.le_trans hver h1) hlc hm ?_
    rcases hz with h0 | h0
    · exact .inl h0
    · refine .inr fun e => ?_
      have e2 : ver = (h.f k).1 := by omega
      rw [m.same k hk (by omega)]
      exact h0 e2
  | ptr k ver sz i c a hk hver ha =>
    have h1 := m.ver k hk
    refine .ptr k ver sz i c a (Nat.lt_of_lt_of_le hk m.n) (Nat.le_trans hver h1) fun e => ?_
    rw [m.same k hk (by omega)]
    exact ha (by omega)
  | mp k ver b hk hver hb =>
    have h1 := m.ver k hk
    refine .mp k ver b (Nat.lt_of_lt_of_le hk m.n) (Nat.le_trans hver h1) fun e => ?_
    rw [m.same k hk (by omega)]
    exact hb (by omega)

section inv
variable {R : RO} {ι : IM} {h : LH}
theorem Rv.sc_inv {v x : Value} (hr : Rv R ι h (.sc v) x) : x = v ∧ plainV v = true := by
  cases hr with
  | ro hr => cases hr with
    | sc _ hp => exact ⟨rfl, hp⟩
theorem Rv.nsl_inv {x : Value} (hr : Rv R ι h .nsl x) : x = .slice none 0 0 := by
  cases hr with
  | ro hr => cases hr; rfl
theorem Rv.agg_inv {cs : List LV} {x : Value} (hr : Rv R ι h (.agg cs) x) :
    ∃ vs : Array Value, x = .agg vs ∧ vs.size = cs.length ∧ (∀ i c, cs[i]? = some c → Rv R ι h c (vs.getD i undef)) ∧ ∀ i, i < vs.size → plainV (vs.getD i undef) = true := by
  cases hr with
  | ro hr => cases hr with
    | agg _ vs hl hc hp => exact ⟨vs, rfl, hl, fun i c hi => .ro (hc i c hi), hp⟩
  | agg _ vs hl hc hp => exact ⟨vs, rfl, hl, hc, hp⟩
theorem Rv.tup_inv {cs : List LV} {x : Value} (hr : Rv R ι h (.tup cs) x) :
    ∃ vs : Array Value, x = .tuple vs ∧ vs.size = cs.length ∧ (∀ i c, cs[i]? = some c → Rv R ι h c (vs.getD i undef)) := by
  cases hr with
  | ro hr => cases hr with
    | tup _ vs hl hc => exact ⟨vs, rfl, hl, fun i c hi => .ro (hc i c hi)⟩
  | tup _ vs hl hc => exact ⟨vs, rfl, hl, hc⟩
theorem Rv.fn_inv {f : FuncId} {cs : List LV} {x : Value} (hr : Rv R ι h (.fn f cs) x) :
    ∃ vs : Array Value, x = .func (.func f) #[] vs ∧ vs.size = cs.length ∧ (∀ i c, cs[i]? = some c → Rv R ι h c (vs.getD i undef)) := by
  cases hr with
  | ro hr => cases hr with
    | fn _ _ vs hl hc => exact ⟨vs, rfl, hl, fun i c hi => .ro (hc i c hi)⟩
  | fn _ _ vs hl hc => exact ⟨vs, rfl, hl, hc⟩
theorem Rv.rsl_inv {sz n : Nat} {f : Nat → List LV} {x : Value} (hr : Rv R ι h (.rsl sz n f) x) : Ro R (.rsl sz n f) x := by
  cases hr with
  | ro hr => exact hr
theorem Rv.rptr_inv {cs : List LV} {x : Value} (hr : Rv R ι h (.rptr cs) x) : Ro R (.rptr cs) x := by
  cases hr with
  | ro hr => exact hr
theorem Rv.rmp_inv {es : List (Value × LV)} {x : Value} (hr : Rv R ι h (.rmp es) x) : Ro R (.rmp es) x := by
  cases hr with
  | ro hr => exact hr
theorem Rv.sl_inv {k ver sz off len : Nat} {x : Value} (hr : Rv R ι h (.sl k ver sz off len) x) :
    ∃ a cap, x = .slice a len cap ∧ k < h.n ∧ ver ≤ (h.f k).1 ∧ len ≤ cap ∧ cap ≤ maxLen ∧ (cap = 0 ∨ (ver = (h.f k).1 → a = some ⟨(ι k).b, (ι k).o + off * sz, none⟩ ∧ (off + cap) * sz ≤ (ι k).m)) := by
  cases hr with
  | ro hr => cases hr
  | sl _ _ _ _ _ a cap hk hver hlc hm hz => exact ⟨a, cap, rfl, hk, hver, hlc, hm, hz⟩
theorem Rv.ptr_inv {k ver sz i c : Nat} {x : Value} (hr : Rv R ι h (.ptr k ver sz i c) x) :
    ∃ a, x = .pointer (some a) ∧ k < h.n ∧ ver ≤ (h.f k).1 ∧ (ver = (h.f k).1 → a = ⟨(ι k).b, (ι k).o + (i * sz + c), none⟩) := by
  cases hr with
  | ro hr => cases hr
  | ptr _ _ _ _ _ a hk hver ha => exact ⟨a, rfl, hk, hver, ha⟩
theorem Rv.mp_inv {k ver : Nat} {x : Value} (hr : Rv R ι h (.mp k ver) x) :
    ∃ b, x = .map (some b) ∧ k < h.n ∧ ver ≤ (h.f k).1 ∧ (ver = (h.f k).1 → b = (ι k).b) := by
  cases hr with
  | ro hr => cases hr
  | mp _ _ b hk hver hb => exact ⟨b, rfl, hk, hver, hb⟩
theorem Rv.cnd_inv {g : Bool} {lv : LV} {x : Value} (hr : Rv R ι h (.cnd g lv) x) (hg : g = true) : Rv R ι h lv x := by
  cases hr with
  | ro hr => cases hr
  | cnd _ _ _ hc _ => exact hc hg
theorem Rv.cnd_undef {g : Bool} {lv : LV} {x : Value} (hr : Rv R ι h (.cnd g lv) x) (hg : g = false) : x = undef := by
  cases hr with
  | ro hr => cases hr
  | cnd _ _ _ _ hu => exact hu hg
end inv

/-- Values of one cell. -/
def isCell : LV → Bool
  | .sc _ => true
  | .nsl => true
  | .rsl _ _ _ => true
  | .rptr _ => true
  | .rmp _ => true
  | .sl _ _ _ _ _ => true
  | .ptr _ _ _ _ _ => true
  | .mp _ _ => true
  | .fn _ _ => true
  | _ => false

theorem Rv.plain {R : RO} {ι : IM} {h : LH} {lv : LV} {v : Value} (hr : Rv R ι h lv v) (hc : isCell lv = true) : plainV v = true := by
  cases lv <;> simp [isCell] at hc
  · exact (hr.sc_inv).1 ▸ (hr.sc_inv).2
  · rw [hr.nsl_inv]; rfl
  · cases hr.rsl_inv; rfl
  · cases hr.rptr_inv; rfl
  · cases hr.rmp_inv; rfl
  · obtain ⟨_, _, rfl, _⟩ := hr.sl_inv; rfl
  · obtain ⟨_, rfl, _⟩ := hr.ptr_inv; rfl
  · obtain ⟨_, rfl, _⟩ := hr.mp_inv; rfl
  · obtain ⟨_, rfl, _⟩ := hr.fn_inv; rfl

theorem cells_plain {v : Value} (h : plainV v = true) : v.cells = #[v] := by
  cases v <;> simp_all [Value.cells, plainV]

def flat : LV → List LV
  | .agg cs => cs
  | v => [v]
def flatOk : LV → Bool
  | .agg _ => true
  | v => isCell v

theorem Rv.flat {R : RO} {ι : IM} {h : LH} {lv : LV} {v : Value} (hr : Rv R ι h lv v) (hc : flatOk lv = true) :
    v.cells.size = (flat lv).length ∧ (∀ i c, (flat lv)[i]? = some c → Rv R ι h c (v.cells.getD i undef)) ∧ ∀ i, i < v.cells.size → plainV (v.cells.getD i undef) = true := by
  by_cases ha : ∃ cs, lv = .agg cs
  · obtain ⟨cs, rfl⟩ := ha
    obtain ⟨vs, rfl, hl, hcs, hp⟩ := hr.agg_inv
    exact ⟨hl, hcs, hp⟩
  · have hcell : isCell lv = true := by
      cases lv <;> simp_all [flatOk]
    have hf : Go.Proofs.Ytfhifkcbdpgomaa.flat lv = [lv] := by cases lv <;> simp_all [Go.Proofs.Ytfhifkcbdpgomaa.flat]
    have hp := hr.plain hcell
    rw [hf, cells_plain hp]
    refine ⟨rfl, fun i c hi => ?_, fun i hi => ?_⟩
    · cases i with
      | zero => simp at hi; subst hi; exact hr
      | succ i => simp at hi
    · have : i = 0 := by simp at hi; omega
      subst this; exact hp

end Go.Proofs.Ytfhifkcbdpgomaa
