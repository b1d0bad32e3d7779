/- The lifted layer, part 14: loops and functions. Conditions: none. -/
import Derived.Test.YtfhifkcbdpgomaaL13e
namespace Go.Proofs.Ytfhifkcbdpgomaa
set_option linter.unusedSimpArgs false
set_option linter.unusedVariables false
open Go.RowKit

def belowB (n : Nat) : LV → Prop
  | .sl k _ _ _ _ => k < n
  | .ptr k _ _ _ _ => k < n
  | .mp k _ => k < n
  | .any => True
  | .sc _ => True
  | .nsl => True
  | .rsl _ _ _ => True
  | .rptr _ => True
  | .rmp _ => True
  | _ => False
def allBl (n : Nat) : List LV → Prop
  | [] => True
  | x :: r => belowB n x ∧ allBl n r
def belowC (n : Nat) : LV → Prop
  | .sl k _ _ _ _ => k < n
  | .ptr k _ _ _ _ => k < n
  | .mp k _ => k < n
  | .any => True
  | .sc _ => True
  | .nsl => True
  | .rsl _ _ _ => True
  | .rptr _ => True
  | .rmp _ => True
  | .fn _ cs => allBl n cs
  | _ => False
def allC (n : Nat) : List LV → Prop
  | [] => True
  | x :: r => belowC n x ∧ allC n r
def belowV (n : Nat) : LV → Prop
  | .agg cs => allC n cs
  | .fn _ cs => allC n cs
  | .tup cs => allC n cs
  | v => belowC n v
def belowO (n : Nat) : LO → Prop
  | .box cs => allC n cs
  | .row sz m f => ∀ i, i < m → allC n ((f i).take sz)
  | .map es => allC n (es.map (·.2))
  | _ => True

def mkS : List (Nat × LV) → LS
  | [] => fun _ => .any
  | (i, v) :: r => upd (mkS r) i v
def mkH (l : List (Nat × LO)) : LH := ⟨l.length, fun k => l.getD k (0, .dead)⟩
def weakS (n : Nat) (s : LS) : List (Nat × LV) → Prop
  | [] => True
  | (i, v) :: r => s i = v ∧ belowV n v ∧ weakS n s r
def weakH (n : Nat) (h : LH) : Nat → List (Nat × LO) → Prop
  | _, [] => True
  | k, vo :: r => h.f k = vo ∧ belowO n vo.2 ∧ weakH n h (k + 1) r
/-- A state may be taken for one that says less. -/
def weakTo (s : LS) (h : LH) (sv : List (Nat × LV)) (ho : List (Nat × LO)) : Prop :=
  ho.length ≤ h.n ∧ weakS ho.length s sv ∧ weakH ho.length h 0 ho

def Br (g : Bool) (A B : Prop) : Prop := (g = true → A) ∧ (g = false → B)

/-- What stands for a state, stands for another one too, once more of the heap is read-only. -/
def FrzTo (s : LS) (h : LH) (s' : LS) (h' : LH) : Prop := ∀ (B : Nat) (R : RO) (ι : IM) (w : World), B ≤ w.heap.size → Rep R ι h B w → ∃ R', Trans B R ι h w R' ι h' w ∧ ∀ t x, Rv R ι h (s t) x → Rv R' ι h' (s' t) x
/-- A state, or one that says less of it. -/
def Wk (nb : Nat) (s : LS) (h : LH) (s' : LS) (h' : LH) : Prop := (s' = s ∧ h' = h) ∨ (∃ sv ho, nb ≤ ho.length ∧ weakTo s h sv ho ∧ s' = mkS sv ∧ h' = mkH ho) ∨ FrzTo s h s' h'
def lwp (P : Program) (nb : Nat) : LC → (LS → LH → Prop) → (Nat → LS → LH → Prop) → (LS → LH → Prop) → LS → LH → Prop
  | .skip, K, _, _, s, h => K s h
  | .reg ops, K, _, _, s, h => lops P ops K s h
  | .dreg pre sufs, K, _, _, s, h => lopsD P pre sufs K s h
  | .seq a b, K, E, T, s, h => lwp P nb a (fun s h => lwp P nb b K E T s h) E T s h
  | .seqj a b, K, E, T, s, h => lwp P nb a (fun s h => ∃ s' h', Wk nb s h s' h' ∧ lwp P nb b K E T s' h') E T s h
  | .cond c a b, K, E, T, s, h => isBool (op1 s c) ∧ opC true s c ∧ Br (boolOf (op1 s c)) (lwp P nb a K E T s h) (lwp P nb b K E T s h)
  | .block id a, K, E, T, s, h => lwp P nb a K (fun j s h => if j = id then K s h else E j s h) T s h
  | .loop a, _, E, T, s, h => ∃ (α : Type) (I : α → Prop) (sv : α → List (Nat × LV)) (ho : α → List (Nat × LO)) (μ : α → Nat) (x0 : α), I x0 ∧ weakTo s h (sv x0) (ho x0) ∧
      (∀ x, nb ≤ (ho x).length) ∧ ∀ x, I x → lwp P nb a (fun s' h' => ∃ y, I y ∧ weakTo s' h' (sv y) (ho y) ∧ μ y < μ x) E T (mkS (sv x)) (mkH (ho x))
  | .exit id, _, E, _, s, h => E id s h
  | .ret, _, _, T, s, h => T s h

def cCode (P : Program) (N : Nat) : Code → Option LC
  | .skip => some .skip
  | .region _ ops false => (cOps false P N ops ops.toList).map .reg
  | .region _ ops true => match cOps true P N ops ops.toList with
    | some l => (drawAt P ops l).map fun n => .dreg (preX ops l n) (sufsX ops l n)
    | none => none
  | .seq a b => match cCode P N a, cCode P N b with
    | some x, some y => some (.seq x y)
    | _, _ => none
  | .cond c a b => match cCode P N a, cCode P N b with
    | some x, some y => some (.cond c x y)
    | _, _ => none
  | .block id a => (cCode P N a).map (.block id)
  | .loop a => (cCode P N a).map .loop
  | .exit id => some (.exit id)
  | .ret => some .ret
  | _ => none

section
variable {P : Program} {N B : Nat} {R R0 : RO} {ι ι0 : IM} {h h0 : LH} {w w0 : World} {s : LS} {a : Act}

theorem allC_get {n : Nat} : ∀ {cs : List LV} {i : Nat} {c : LV}, allC n cs → cs[i]? = some c → belowC n c
  | [], _, _, _, hx => by simp at hx
  | x :: r, 0, c, h, hx => by simp at hx; subst hx; exact h.1
  | x :: r, i + 1, c, h, hx => allC_get h.2 (by simpa using hx)

theorem allBl_get {n : Nat} : ∀ {cs : List LV} {i : Nat} {c : LV}, allBl n cs → cs[i]? = some c → belowB n c
  | [], _, _, _, hx => by simp at hx
  | x :: r, 0, c, h, hx => by simp at hx; subst hx; exact h.1
  | x :: r, i + 1, c, h, hx => allBl_get h.2 (by simpa using hx)
theorem Rv.truncB {h' : LH} {n : Nat} (hn : n ≤ h'.n) (hf : ∀ k, k < n → h'.f k = h.f k) {lv : LV} {v : Value} (hb : belowB n lv) (hr : Rv R ι h lv v) : Rv R ι h' lv v := by
  cases lv with
  | any => exact .any _
  | sc x => obtain ⟨rfl, hp⟩ := hr.sc_inv; exact .ro (.sc _ hp)
  | nsl => rw [hr.nsl_inv]; exact .ro .nsl
  | rsl sz m f => exact .ro hr.rsl_inv
  | rptr cs => exact .ro hr.rptr_inv
  | rmp es => exact .ro hr.rmp_inv
  | sl k ver sz off len =>
    obtain ⟨a, cap, rfl, h1, h2, h3, h4, h5⟩ := hr.sl_inv
    have hk : k < n := hb
    refine .sl _ _ _ _ _ _ _ (by omega) (by rw [hf k hk]; exact h2) h3 h4 (by rw [hf k hk]; exact h5)
  | ptr k ver sz i c =>
    obtain ⟨a, rfl, h1, h2, h3⟩ := hr.ptr_inv
    have hk : k < n := hb
    exact .ptr _ _ _ _ _ _ (by omega) (by rw [hf k hk]; exact h2) (by rw [hf k hk]; exact h3)
  | mp k ver =>
    obtain ⟨b, rfl, h1, h2, h3⟩ := hr.mp_inv
    have hk : k < n := hb
    exact .mp _ _ _ (by omega) (by rw [hf k hk]; exact h2) (by rw [hf k hk]; exact h3)
  | _ => exact hb.elim
theorem Rv.truncC {h' : LH} {n : Nat} (hn : n ≤ h'.n) (hf : ∀ k, k < n → h'.f k = h.f k) {lv : LV} {v : Value} (hb : belowC n lv) (hr : Rv R ι h lv v) : Rv R ι h' lv v := by
  cases lv with
  | fn f cs =>
    obtain ⟨vs, rfl, h1, h2⟩ := hr.fn_inv
    exact .fn _ _ _ h1 (fun i c hi => (h2 i c hi).truncB hn hf (allBl_get hb hi))
  | _ => exact hr.truncB hn hf hb

theorem Rv.trunc {h' : LH} {n : Nat} (hn : n ≤ h'.n) (hf : ∀ k, k < n → h'.f k = h.f k) {lv : LV} {v : Value} (hb : belowV n lv) (hr : Rv R ι h lv v) : Rv R ι h' lv v := by
  cases lv with
  | agg cs =>
    obtain ⟨vs, rfl, h1, h2, h3⟩ := hr.agg_inv
    exact .agg _ _ h1 (fun i c hi => (h2 i c hi).truncC hn hf (allC_get hb hi)) h3
  | tup cs =>
    obtain ⟨vs, rfl, h1, h2⟩ := hr.tup_inv
    exact .tup _ _ h1 (fun i c hi => (h2 i c hi).truncC hn hf (allC_get hb hi))
  | fn f cs =>
    obtain ⟨vs, rfl, h1, h2⟩ := hr.fn_inv
    exact .fn _ _ _ h1 (fun i c hi => (h2 i c hi).truncC hn hf (allC_get hb hi))
  | _ => exact hr.truncC hn hf hb

theorem belowO_cell {n : Nat} {ob : LO} (hb : belowO n ob) {i c : Nat} {lv : LV} (hx : cellAt ob i c = some lv) : belowC n lv := by
  unfold cellAt at hx
  split at hx
  · split at hx
    · exact allC_get hb hx
    · simp at hx
  · split at hx
    · simp only [Option.map_eq_some_iff] at hx; obtain ⟨x, _, rfl⟩ := hx; exact trivial
    · simp at hx
  · split at hx
    · simp only [Option.map_eq_some_iff] at hx; obtain ⟨x, _, rfl⟩ := hx; exact trivial
    · simp at hx
  · split at hx
    · rename_i e
      refine allC_get (hb i e.1) (i := c) ?_
      rw [List.getElem?_take_of_lt e.2]; exact hx
    · simp at hx
  · simp at hx

theorem Rep.trunc {h' : LH} (hr : Rep R ι h B w) (hn : h'.n ≤ h.n) (hf : ∀ k, k < h'.n → h'.f k = h.f k) (hb : ∀ k, k < h'.n → belowO h'.n (h.f k).2) : Rep R ι h' B w := by
  refine ⟨hr.ro, ?_, ?_, ?_, ?_, ?_⟩
  · intro k hk h1 h2 h3
    have hk' : k < h.n := by omega
    rw [hf k hk] at h1 h2 ⊢
    obtain ⟨cl, e, q1, q2, q3, q4, q5⟩ := (hr.cells k hk' h1 h2 h3).ex
    exact ⟨cl, e, q1, q2, q3, q4, fun i c lv hx => let ⟨v, a1, a2⟩ := q5 i c lv hx; ⟨v, a1, a2.truncC (Nat.le_refl _) hf (belowO_cell (hb k hk) hx)⟩⟩
  · intro k hk h1 h2 h3
    rw [hf k hk] at h1 h2 ⊢
    exact hr.empty k (by omega) h1 h2 h3
  · intro k hk h1 h2
    rw [hf k hk] at h1 h2
    exact hr.base k (by omega) h1 h2
  · intro k k' hk hk' h1 h2 h3 h4
    rw [hf k hk] at h1 h3
    rw [hf k' hk'] at h2 h4
    exact hr.apart k k' (by omega) (by omega) h1 h2 h3 h4
  · intro k es hk he
    have hb' := hb k hk
    rw [hf k hk] at he
    rw [he] at hb'
    obtain ⟨ents, clock, q1, q2, q3, q4⟩ := hr.maps k es (by omega) he
    refine ⟨ents, clock, q1, q2, q3, fun i kv hkv => ?_⟩
    obtain ⟨en, a1, a2, a3⟩ := q4 i kv hkv
    exact ⟨en, a1, a2, a3.truncC (Nat.le_refl _) hf (allC_get hb' (i := i) (by simp [hkv]))⟩

theorem weakH_get {n : Nat} : ∀ {l : List (Nat × LO)} {k j : Nat}, weakH n h k l → (hj : j < l.length) → h.f (k + j) = l[j] ∧ belowO n (l[j]).2
  | [], _, _, _, hj => by simp at hj
  | vo :: r, k, 0, hw, _ => ⟨hw.1, hw.2.1⟩
  | vo :: r, k, j + 1, hw, hj => by
    have := weakH_get (j := j) hw.2.2 (by simpa using hj)
    have e : k + 1 + j = k + (j + 1) := by omega
    rw [e] at this
    exact this

theorem weakS_ok {n : Nat} {h' : LH} (hn : n ≤ h'.n) (hf : ∀ k, k < n → h'.f k = h.f k) (hs : ∀ t, Rv R ι h (s t) (a.eval (.tmp t))) : ∀ (sv : List (Nat × LV)), weakS n s sv → ∀ t, Rv R ι h' (mkS sv t) (a.eval (.tmp t))
  | [], _, t => .any _
  | (i, v) :: r, hw, t => by
    obtain ⟨h1, h2, h3⟩ := hw
    show Rv R ι h' (if t = i then v else mkS r t) _
    split
    · rename_i e; subst e
      have := hs t
      rw [h1] at this
      exact this.trunc hn hf h2
    · exact weakS_ok hn hf hs r h3 t

theorem Good.weak {sv : List (Nat × LV)} {ho : List (Nat × LO)} (hg : Good N B R0 ι0 h0 w0 s h a w) (hnb : h0.n ≤ ho.length) (hw : weakTo s h sv ho) : Good N B R0 ι0 h0 w0 (mkS sv) (mkH ho) a w := by
  obtain ⟨R, ι, hT, hA⟩ := hg
  obtain ⟨w1, w2, w3⟩ := hw
  have hf : ∀ k, k < ho.length → (mkH ho).f k = h.f k := by
    intro k hk
    have := (weakH_get w3 hk).1
    rw [Nat.zero_add] at this
    rw [this]
    show ho.getD k (0, .dead) = _
    rw [getD_el hk]
  have hb : ∀ k, k < (mkH ho).n → belowO (mkH ho).n (h.f k).2 := by
    intro k hk
    have hk' : k < ho.length := hk
    have h2 := weakH_get w3 hk'
    rw [Nat.zero_add] at h2
    rw [h2.1]; exact h2.2
  refine ⟨R, ι, ⟨hT.rep.trunc w1 hf hb, ⟨hT.mono.ro, hnb, fun k hk => ?_, fun k hk he => ?_⟩, hT.below, hT.rob, hT.size⟩, ⟨hA.defers, hA.size, weakS_ok (Nat.le_refl _) hf hA.slots sv w2⟩⟩
  · rw [hf k (by omega)]; exact hT.mono.ver k hk
  · rw [hf k (by omega)] at he; exact hT.mono.same k hk he

theorem cOps_cons {dr : Bool} {all : Array Oper} {o : Oper} {r : List Oper} {l : List LX} (hc : cOps dr P N all (o :: r) = some l) : ∃ x l', cOps dr P N all [o] = some [x] ∧ cOps dr P N all r = some l' ∧ l = x :: l' := by
  simp only [cOps] at hc ⊢
  split at hc
  · rename_i g k l' h1 h2 h3 h4
    injection hc with hc
    refine ⟨⟨o.dst, g, k⟩, l', ?_, h4, hc.symm⟩
    rw [h1, h2, h3]
  · simp at hc
theorem cOps_mk {dr : Bool} {all : Array Oper} {o : Oper} {r : List Oper} {x : LX} {l : List LX} (h1 : cOps dr P N all [o] = some [x]) (h2 : cOps dr P N all r = some l) : cOps dr P N all (o :: r) = some (x :: l) := by
  simp only [cOps] at h1 ⊢
  split at h1
  · rename_i g k l' g1 g2 g3 g4
    injection h1 with h1
    injection h1 with h1 _
    rw [g1, g2, g3, h2, ← h1]
  · simp at h1
theorem cOps_get {dr : Bool} {all : Array Oper} : ∀ {os : List Oper} {l : List LX}, cOps dr P N all os = some l → l.length = os.length ∧ ∀ (i : Nat) (o : Oper), os[i]? = some o → ∃ x, l[i]? = some x ∧ cOps dr P N all [o] = some [x]
  | [], l, hc => by
    simp only [cOps, Option.some.injEq] at hc; subst hc
    exact ⟨rfl, fun i o h => by simp at h⟩
  | o :: r, l, hc => by
    obtain ⟨x, l', h1, h2, rfl⟩ := cOps_cons hc
    obtain ⟨g1, g2⟩ := cOps_get h2
    refine ⟨by simp [g1], fun i o' ho => ?_⟩
    cases i with
    | zero => simp at ho; subst ho; exact ⟨x, rfl, h1⟩
    | succ i => obtain ⟨y, a, b⟩ := g2 i o' (by simpa using ho); exact ⟨y, by simpa using a, b⟩
theorem cOps_pick {dr : Bool} {ops : Array Oper} {l : List LX} (hc : cOps dr P N ops ops.toList = some l) : ∀ (idx : List Nat), cOps dr P N ops (idx.filterMap (ops[·]?)) = some (idx.filterMap (l[·]?))
  | [] => rfl
  | i :: r => by
    obtain ⟨h1, h2⟩ := cOps_get hc
    cases ho : ops[i]? with
    | none =>
      rw [List.filterMap_cons_none (by simpa using ho), List.filterMap_cons_none (by
        have : ops.size ≤ i := Array.getElem?_eq_none_iff.1 ho
        simp only [Array.length_toList] at h1
        exact List.getElem?_eq_none (by omega))]
      exact cOps_pick hc r
    | some o =>
      obtain ⟨x, g1, g2⟩ := h2 i o (by simpa using ho)
      rw [List.filterMap_cons_some (by simpa using ho), List.filterMap_cons_some g1]
      exact cOps_mk g2 (cOps_pick hc r)
theorem Good.drew (hg : Good N B R0 ι0 h0 w0 s h a w) : Good N B R0 ι0 h0 w0 s h a { w with drawn := w.drawn + 1 } := by
  obtain ⟨R, ι, hT, hA⟩ := hg
  exact ⟨R, ι, ⟨hT.rep.drew, hT.mono, hT.below.drew, hT.rob, hT.size⟩, hA⟩

theorem er_skip {lc : LC} (h : erase lc = .skip) : lc = .skip := by cases lc <;> simp [erase] at h ⊢
theorem er_reg {lc : LC} {l : List LX} (h : erase lc = .reg l) : lc = .reg l := by cases lc <;> simp [erase] at h ⊢; exact h
theorem er_dreg {lc : LC} {l : List LX} {f : List (List LX)} (h : erase lc = .dreg l f) : lc = .dreg l f := by cases lc <;> simp [erase] at h ⊢; exact h
theorem er_exit {lc : LC} {i : Nat} (h : erase lc = .exit i) : lc = .exit i := by cases lc <;> simp [erase] at h ⊢; exact h
theorem er_ret {lc : LC} (h : erase lc = .ret) : lc = .ret := by cases lc <;> simp [erase] at h ⊢
theorem er_seq {lc x y : LC} (h : erase lc = .seq x y) : ∃ a b, (lc = .seq a b ∨ lc = .seqj a b) ∧ erase a = x ∧ erase b = y := by
  cases lc with
  | seq a b => simp only [erase, LC.seq.injEq] at h; exact ⟨a, b, .inl rfl, h.1, h.2⟩
  | seqj a b => simp only [erase, LC.seq.injEq] at h; exact ⟨a, b, .inr rfl, h.1, h.2⟩
  | _ => simp [erase] at h
theorem er_cond {lc x y : LC} {c : Operand} (h : erase lc = .cond c x y) : ∃ a b, lc = .cond c a b ∧ erase a = x ∧ erase b = y := by
  cases lc with
  | cond c a b => simp only [erase, LC.cond.injEq] at h; exact ⟨a, b, by rw [h.1], h.2.1, h.2.2⟩
  | _ => simp [erase] at h
theorem er_block {lc x : LC} {i : Nat} (h : erase lc = .block i x) : ∃ a, lc = .block i a ∧ erase a = x := by
  cases lc with
  | block i a => simp only [erase, LC.block.injEq] at h; exact ⟨a, by rw [h.1], h.2⟩
  | _ => simp [erase] at h
theorem er_loop {lc x : LC} (h : erase lc = .loop x) : ∃ a, lc = .loop a ∧ erase a = x := by
  cases lc with
  | loop a => simp only [erase, LC.loop.injEq] at h; exact ⟨a, rfl, h⟩
  | _ => simp [erase] at h
theorem Good.wk {s' : LS} {h' : LH} (hg : Good N B R0 ι0 h0 w0 s h a w) (hw : Wk h0.n s h s' h') : Good N B R0 ι0 h0 w0 s' h' a w := by
  rcases hw with ⟨rfl, rfl⟩ | ⟨sv, ho, h1, h2, rfl, rfl⟩ | hf
  · exact hg
  · exact hg.weak h1 h2
  · obtain ⟨R, ι, hT, hA⟩ := hg
    obtain ⟨R', hT', hv⟩ := hf B R ι w (Nat.le_trans hT.size hT.below.size) hT.rep
    exact ⟨R', ι, hT.trans hT', hA.defers, hA.size, fun t => hv t _ (hA.slots t)⟩
theorem lwp_ok : ∀ (c : Code) (lc : LC), cCode P N c = some (erase lc) → ∀ {K : LS → LH → Prop} {E : Nat → LS → LH → Prop} {T : LS → LH → Prop} {Q : Exit → Act → World → Prop},
    (∀ s h a w, Good N B R0 ι0 h0 w0 s h a w → K s h → Q .normal a w) → (∀ id s h a w, Good N B R0 ι0 h0 w0 s h a w → E id s h → Q (.exit id) a w) → (∀ s h a w, Good N B R0 ι0 h0 w0 s h a w → T s h → Q .ret a w) →
    ∀ s h a w, Good N B R0 ι0 h0 w0 s h a w → lwp P h0.n lc K E T s h → c.wp P Q a w := by
  intro c
  induction c with
  | skip =>
    intro lc hc K E T Q hK hE hT s h a w hg hl
    simp only [cCode, Option.some.injEq] at hc
    obtain rfl := er_skip hc.symm
    exact wp_skip (hK s h a w hg hl)
  | region id ops draw =>
    intro lc hc K E T Q hK hE hT s h a w hg hl
    cases draw with
    | true =>
      simp only [cCode] at hc
      split at hc
      · rename_i l hl'
        have hlen : l.length = ops.size := by have := (cOps_get hl').1; simpa using this
        rw [Option.map_eq_some_iff] at hc
        obtain ⟨n, hn, hc⟩ := hc
        have hok : drawOk P ops l n = true := by
          unfold drawAt at hn
          have := List.find?_some hn
          exact (Bool.and_eq_true _ _ ▸ this).1
        obtain rfl := er_dreg hc.symm
        exact wp_region_draw fun t => lops_ok hK _ _ _ rfl (cOps_pick hl' _) s h a _ hg.drew (lops_draw hl' hlen hok hl t)
      · simp at hc
    | false =>
      simp only [cCode, Option.map_eq_some_iff] at hc
      obtain ⟨l, hl', hc⟩ := hc
      obtain rfl := er_reg hc.symm
      exact wp_region (lops_ok hK _ _ _ (filterMap_range ops) hl' s h a w hg hl)
  | seq x y ihx ihy =>
    intro lc hc K E T Q hK hE hT s h a w hg hl
    simp only [cCode] at hc
    split at hc
    · rename_i lx' ly' hx hy
      injection hc with hc
      obtain ⟨lx, ly, hlc | hlc, rfl, rfl⟩ := er_seq hc.symm
      · subst hlc
        refine wp_seq (ihx lx hx (K := fun s h => lwp P h0.n ly K E T s h) (E := E) (T := T) ?_ ?_ ?_ s h a w hg hl)
        · intro s h a w hg hl; exact ihy ly hy hK hE hT s h a w hg hl
        · intro id s h a w hg hl; exact hE id s h a w hg hl
        · intro s h a w hg hl; exact hT s h a w hg hl
      · subst hlc
        refine wp_seq (ihx lx hx (K := fun s h => ∃ s' h', Wk h0.n s h s' h' ∧ lwp P h0.n ly K E T s' h') (E := E) (T := T) ?_ ?_ ?_ s h a w hg hl)
        · intro s h a w hg hl
          obtain ⟨s', h', hw, hl⟩ := hl
          exact ihy ly hy hK hE hT s' h' a w (hg.wk hw) hl
        · intro id s h a w hg hl; exact hE id s h a w hg hl
        · intro s h a w hg hl; exact hT s h a w hg hl
    · simp at hc
  | cond c x y ihx ihy =>
    intro lc hc K E T Q hK hE hT s h a w hg hl
    simp only [cCode] at hc
    split at hc
    · rename_i lx' ly' hx hy
      injection hc with hc
      obtain ⟨lx, ly, rfl, rfl, rfl⟩ := er_cond hc.symm
      obtain ⟨h1, h2, h3⟩ := hl
      obtain ⟨R, ι, hTr, hA⟩ := hg
      obtain ⟨b, hb, hv⟩ := isBool_inv (op1_ok (eval_ok hA) rfl h2) h1
      refine wp_cond_split hv (fun e => ?_) (fun e => ?_)
      · subst e; exact ihx lx hx hK hE hT s h a w ⟨R, ι, hTr, hA⟩ (h3.1 (by rw [hb]; rfl))
      · subst e; exact ihy ly hy hK hE hT s h a w ⟨R, ι, hTr, hA⟩ (h3.2 (by rw [hb]; rfl))
    · simp at hc
  | block id x ih =>
    intro lc hc K E T Q hK hE hT s h a w hg hl
    simp only [cCode, Option.map_eq_some_iff] at hc
    obtain ⟨lx', hx, hc⟩ := hc
    obtain ⟨lx, rfl, rfl⟩ := er_block hc.symm
    refine wp_block (ih lx hx (K := K) (E := fun j s h => if j = id then K s h else E j s h) (T := T) ?_ ?_ ?_ s h a w hg hl)
    · intro s h a w hg hl; exact hK s h a w hg hl
    · intro j s h a w hg hl
      simp only [Exit.inBlock]
      split
      · rename_i e; rw [if_pos e] at hl; exact hK s h a w hg hl
      · rename_i e; rw [if_neg e] at hl; exact hE j s h a w hg hl
    · intro s h a w hg hl; exact hT s h a w hg hl
  | loop x ih =>
    intro lc hc K E T Q hK hE hT s h a w hg hl
    simp only [cCode, Option.map_eq_some_iff] at hc
    obtain ⟨lx', hx, hc⟩ := hc
    obtain ⟨lx, rfl, rfl⟩ := er_loop hc.symm
    obtain ⟨α, I, sv, ho, μ, x0, hI0, hw0, hnb, hround⟩ := hl
    -- the ghost of a state: some x for which the state is good
    have hch : ∀ (p : Act × World), ∃ n : Nat, (∃ x, I x ∧ Good N B R0 ι0 h0 w0 (mkS (sv x)) (mkH (ho x)) p.1 p.2) → (∃ x, I x ∧ μ x = n ∧ Good N B R0 ι0 h0 w0 (mkS (sv x)) (mkH (ho x)) p.1 p.2) ∧
        ∀ x, I x → Good N B R0 ι0 h0 w0 (mkS (sv x)) (mkH (ho x)) p.1 p.2 → n ≤ μ x := by
      intro p
      by_cases hex : ∃ x, I x ∧ Good N B R0 ι0 h0 w0 (mkS (sv x)) (mkH (ho x)) p.1 p.2
      · have : ∀ n, (∃ x, I x ∧ μ x = n ∧ Good N B R0 ι0 h0 w0 (mkS (sv x)) (mkH (ho x)) p.1 p.2) → ∃ m, (∃ x, I x ∧ μ x = m ∧ Good N B R0 ι0 h0 w0 (mkS (sv x)) (mkH (ho x)) p.1 p.2) ∧
            ∀ x, I x → Good N B R0 ι0 h0 w0 (mkS (sv x)) (mkH (ho x)) p.1 p.2 → m ≤ μ x := by
          intro n
          induction n using Nat.strongRecOn with
          | _ n ihn =>
            intro hn
            by_cases hlow : ∃ x, I x ∧ μ x < n ∧ Good N B R0 ι0 h0 w0 (mkS (sv x)) (mkH (ho x)) p.1 p.2
            · obtain ⟨x, h1, h2, h3⟩ := hlow
              exact ihn (μ x) h2 ⟨x, h1, rfl, h3⟩
            · refine ⟨n, hn, fun x hIx hgx => ?_⟩
              rcases Nat.lt_or_ge (μ x) n with hlt | hge
              · exact absurd ⟨x, hIx, hlt, hgx⟩ hlow
              · exact hge
        obtain ⟨x, h1, h2⟩ := hex
        obtain ⟨m, hm1, hm2⟩ := this (μ x) ⟨x, h1, rfl, h2⟩
        exact ⟨m, fun _ => ⟨hm1, hm2⟩⟩
      · exact ⟨0, fun h => absurd h hex⟩
    obtain ⟨ν, hν⟩ := Classical.axiomOfChoice hch
    refine wp_loop (fun a w => ∃ x, I x ∧ Good N B R0 ι0 h0 w0 (mkS (sv x)) (mkH (ho x)) a w) (fun a w => ν (a, w)) ⟨x0, hI0, hg.weak (hnb x0) hw0⟩ ?_
    intro a w hI
    obtain ⟨⟨x, hIx, hμ, hgx⟩, _⟩ := hν (a, w) hI
    refine ih lx hx (K := fun s' h' => ∃ y, I y ∧ weakTo s' h' (sv y) (ho y) ∧ μ y < μ x) (E := E) (T := T) ?_ ?_ ?_ _ _ a w hgx (hround x hIx)
    · intro s' h' a' w' hg' hy
      obtain ⟨y, hIy, hwy, hlt⟩ := hy
      have hgy := hg'.weak (hnb y) hwy
      refine ⟨⟨y, hIy, hgy⟩, ?_⟩
      have := (hν (a', w') ⟨y, hIy, hgy⟩).2 y hIy hgy
      show ν (a', w') < ν (a, w)
      omega
    · intro id s h a w hg hl; exact hE id s h a w hg hl
    · intro s h a w hg hl; exact hT s h a w hg hl
  | exit id =>
    intro lc hc K E T Q hK hE hT s h a w hg hl
    simp only [cCode, Option.some.injEq] at hc
    obtain rfl := er_exit hc.symm
    exact wp_exit (hE id s h a w hg hl)
  | ret =>
    intro lc hc K E T Q hK hE hT s h a w hg hl
    simp only [cCode, Option.some.injEq] at hc
    obtain rfl := er_ret hc.symm
    exact wp_ret (hT s h a w hg hl)
  | _ => intro lc hc; simp [cCode] at hc

end
end Go.Proofs.Ytfhifkcbdpgomaa
