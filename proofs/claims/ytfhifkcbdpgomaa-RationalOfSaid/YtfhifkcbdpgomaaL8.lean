/- The lifted layer, part 8: operations that make or change memory. Conditions: none. -/
import Derived.Test.YtfhifkcbdpgomaaL7
namespace Go.Proofs.Ytfhifkcbdpgomaa
set_option linter.unusedSimpArgs false
set_option linter.unusedVariables false
open Go.RowKit

/-- Values without a handle into the abstract heap. -/
def roish1 : LV → Prop
  | .sc _ => True
  | .nsl => True
  | .rsl _ _ _ => True
  | .rptr _ => True
  | .rmp _ => True
  | _ => False
def roishL : List LV → Prop
  | [] => True
  | x :: r => roish1 x ∧ roishL r
inductive LEf where
  | st (n : Nat) (x v : Operand)
  | alc (zero : List Value)
  | box (v : Operand)
  | mks (kd sz : Nat) (zero : List Value) (bytes : Nat) (ln cp : Operand)
  | bsl (kd len sz : Nat) (zero : List Value) (parts : List (Nat × Nat × Operand))
  | bsr (len sz : Nat) (zero : List Value) (parts : List (Nat × Nat × Operand))
  | app (kd sz bytes : Nat) (x y : Operand)
  | call (f : FuncId) (args : List Operand)
  | calv (x : Operand) (args : List Operand)
  | mkm
  | mup (kt : TypeId) (m k v : Operand)
  | ext (f : FuncId) (args : List Operand)
  | ecl (f : FuncId) (args : List Operand)
  | bad

open Classical in
/-- A map with another value at a key. -/
noncomputable def mput : List (Value × LV) → Value → LV → List (Value × LV)
  | [], x, v => [(x, v)]
  | (k, u) :: r, x, v => if k = x then (k, v) :: r else (k, u) :: mput r x v

def zk : Value → Nat
  | .int .i64 n => if n = 0 then 1 else 0
  | .bool b => if b then 0 else 2
  | _ => 0
def kindZ : List Value → Nat
  | [v] => zk v
  | _ => 0
theorem kindZ_one {z : List Value} (h : kindZ z = 1) : z = [.int .i64 0] := by
  unfold kindZ at h
  split at h
  · unfold zk at h
    split at h
    · split at h
      · rename_i e; rw [e]
      · simp at h
    · split at h <;> simp at h
    · simp at h
  · simp at h
theorem kindZ_two {z : List Value} (h : kindZ z = 2) : z = [.bool false] := by
  unfold kindZ at h
  split at h
  · unfold zk at h
    split at h
    · split at h <;> simp at h
    · split at h
      · simp at h
      · rename_i e; simp at e; rw [e]
    · simp at h
  · simp at h

def repO (kd sz n : Nat) (zero : List Value) : LO :=
  match kd with
  | 1 => .ints (List.replicate n 0)
  | 2 => .bools (List.replicate n false)
  | _ => .row sz n (fun _ => zero.map liftC1)

def allI : List LV → Prop
  | [] => True
  | x :: r => isI64 x ∧ allI r
def allB : List LV → Prop
  | [] => True
  | x :: r => isBool x ∧ allB r
def litO (kd sz n : Nat) (cs : List LV) : LO :=
  match kd with
  | 1 => .ints (cs.map intOfV)
  | 2 => .bools (cs.map boolOf)
  | _ => .row sz n (fun i => (cs.drop (i * sz)).take sz)
def litC (kd : Nat) (cs : List LV) : Prop :=
  match kd with
  | 1 => allI cs
  | 2 => allB cs
  | _ => True
def repZ (n sz : Nat) (zero : List Value) : List LV := (List.range (n * sz)).map fun i => (zero.map liftC1).getD (i % sz) .any

section
variable {P : Program} {R : RO} {ι : IM} {h : LH} {B : Nat} {w : World} {s : LS} {ρ : Operand → Value}

theorem repO_facts {kd sz n : Nat} {zero : List Value} (hk : kindZ zero = kd) (hz : zero.length = sz) :
    (repO kd sz n zero).live = true ∧ (repO kd sz n zero).isMap = false ∧ (repO kd sz n zero).size = n * sz ∧ (repO kd sz n zero).sz = sz ∧
    ∀ i c lv, cellAt (repO kd sz n zero) i c = some lv → i < n ∧ c < sz ∧ (zero.map liftC1)[c]? = some lv := by
  unfold repO
  split
  · have := kindZ_one hk
    subst this
    simp at hz; subst hz
    refine ⟨rfl, rfl, by simp [LO.size], rfl, fun i c lv hc => ?_⟩
    simp only [cellAt] at hc
    split at hc
    · rename_i e; subst e
      simp only [Option.map_eq_some_iff] at hc
      obtain ⟨x, hx, rfl⟩ := hc
      have h1 := (List.getElem?_eq_some_iff.1 hx).1
      have h2 := (List.getElem?_eq_some_iff.1 hx).2
      simp at h1 h2
      subst h2
      exact ⟨h1, by omega, rfl⟩
    · simp at hc
  · have := kindZ_two hk
    subst this
    simp at hz; subst hz
    refine ⟨rfl, rfl, by simp [LO.size], rfl, fun i c lv hc => ?_⟩
    simp only [cellAt] at hc
    split at hc
    · rename_i e; subst e
      simp only [Option.map_eq_some_iff] at hc
      obtain ⟨x, hx, rfl⟩ := hc
      have h1 := (List.getElem?_eq_some_iff.1 hx).1
      have h2 := (List.getElem?_eq_some_iff.1 hx).2
      simp at h1 h2
      subst h2
      exact ⟨h1, by omega, rfl⟩
    · simp at hc
  · refine ⟨rfl, rfl, rfl, rfl, fun i c lv hc => ?_⟩
    simp only [cellAt] at hc
    split at hc
    · rename_i e; exact ⟨e.1, e.2, hc⟩
    · simp at hc

theorem rv_zero {zero : List Value} (hp : zero.all plainV = true) {c : Nat} {lv : LV} (hc : (zero.map liftC1)[c]? = some lv) : ∃ v, zero[c]? = some v ∧ Rv R ι h lv v ∧ plainV v = true := by
  simp only [List.getElem?_map, Option.map_eq_some_iff] at hc
  obtain ⟨v, hv, rfl⟩ := hc
  have : plainV v = true := by
    rw [List.all_eq_true] at hp
    exact hp v (List.mem_of_getElem? hv)
  exact ⟨v, hv, rv_liftC1 this, this⟩

theorem zeroCells_ok {t : TypeId} {z : List Value} (hz : zeroCells P t = some z) : ∃ v, (zeroValue t).run P w = .ok v w ∧ v.cells.toList = z ∧ z.all plainV = true := by
  unfold zeroCells at hz
  cases hi : P.info? t with
  | none => rw [hi] at hz; simp at hz
  | some i =>
    rw [hi] at hz
    simp only at hz
    cases hv : i.zero with
    | none => rw [hv] at hz; simp at hz
    | some v =>
      rw [hv] at hz
      simp only at hz
      split at hz
      · rename_i hp
        injection hz with hz
        exact ⟨v, by simp [zeroValue, typeInfo, hi, hv], hz, by rw [← hz]; simpa using hp⟩
      · simp at hz

/-- A new variable. -/
theorem newVar_ok (hr : Rep R ι h B w) (hB : B ≤ w.heap.size) {t : TypeId} {v : Value} {cs : List LV} (hl : v.cells.size = cs.length) (hc : ∀ i c, cs[i]? = some c → Rv R ι h c (v.cells.getD i undef))
    (hp : ∀ i, i < v.cells.size → plainV (v.cells.getD i undef) = true) :
    ∃ v' w' ι', (do pure (.pointer (some (← newVar t v))) : Sem Value).run P w = .ok v' w' ∧ Trans B R ι h w R ι' (h.push (.box cs)) w' ∧ Rv R ι' (h.push (.box cs)) (.ptr h.n 0 0 0 0) v' := by
  have hT := hr.push hB (c := v.cells) (e := t) (ob := .box cs) rfl rfl (by simp [LO.size, hl]) hp (fun i c' lv hx => by
    simp only [cellAt] at hx
    split at hx
    · rename_i e; subst e
      refine ⟨v.cells.getD c' undef, ?_, hc c' lv hx⟩
      have := (List.getElem?_eq_some_iff.1 hx).1
      simp only [LO.sz, Nat.zero_mul, Nat.zero_add, Array.getD_eq_getD_getElem?]
      rw [Array.getElem?_eq_getElem (by omega)]; rfl
    · simp at hx)
  refine ⟨_, _, _, by simp [newVar, newRow]; rfl, hT, .ptr _ _ _ _ _ _ (by simp [LH.push]) (by simp [LH.push]) fun _ => ?_⟩
  simp [updI]

theorem range_zero (z : Array Value) (n : Nat) : ((Array.range n).map (z[· % z.size]!)).size = n := by simp
theorem range_get {z : Array Value} {n i : Nat} (hi : i < n) : ((Array.range n).map (z[· % z.size]!))[i]? = some (z[i % z.size]!) := by
  simp [hi]

/-- A new row of zero values. -/
theorem newRep_ok (hr : Rep R ι h B w) (hB : B ≤ w.heap.size) {e : TypeId} {kd sz l c : Nat} {zero : List Value} {z : Array Value} (hzz : z.toList = zero) (hk : kindZ zero = kd) (hz : zero.length = sz) (hp : zero.all plainV = true)
    (hlc : l ≤ c) (hc : c ≤ maxLen) (hs0 : 0 < sz) :
    ∃ w' ι', (newRow e ((Array.range (c * sz)).map (z[· % z.size]!))).run P w = .ok ⟨w.heap.size, 0, none⟩ w' ∧ Trans B R ι h w R ι' (h.push (repO kd sz l zero)) w' ∧
      Rv R ι' (h.push (repO kd sz l zero)) (.sl h.n 0 sz 0 l) (.slice (some ⟨w.heap.size, 0, none⟩) l c) := by
  obtain ⟨f1, f2, f3, f4, f5⟩ := repO_facts (n := l) hk hz
  have hzs : z.size = sz := by rw [← hz, ← hzz]; simp
  have hcell : ∀ i, i < c * sz → ∃ v, z[i % z.size]! = v ∧ plainV v = true ∧ zero[i % sz]? = some v := by
    intro i hi
    have hm : i % z.size < z.size := Nat.mod_lt _ (by omega)
    refine ⟨_, rfl, ?_, ?_⟩
    · rw [getElem!_pos z _ hm]
      rw [List.all_eq_true] at hp
      apply hp
      rw [← hzz]
      simp
    · rw [← hzz, ← hzs, getElem!_pos z _ hm]
      simp [hm]
  have hT := hr.push hB (c := (Array.range (c * sz)).map (z[· % z.size]!)) (e := e) (ob := repO kd sz l zero) f1 f2 (by rw [range_zero, f3]; exact Nat.mul_le_mul_right _ hlc) (fun j hj => by
    rw [range_zero] at hj
    rw [Array.getD_eq_getD_getElem?, range_get hj]
    obtain ⟨v, h1, h2, _⟩ := hcell j hj
    rw [h1]; exact h2) (fun i c' lv hx => by
    obtain ⟨h1, h2, h3⟩ := f5 i c' lv hx
    obtain ⟨v, h4, h5, _⟩ := rv_zero (R := R) (ι := ι) (h := h) hp h3
    have hlt : i * sz + c' < c * sz := by
      have := Nat.mul_le_mul_right sz (Nat.succ_le_of_lt (Nat.lt_of_lt_of_le h1 hlc))
      rw [Nat.succ_mul] at this; omega
    refine ⟨v, ?_, h5⟩
    rw [f4, range_get hlt]
    obtain ⟨u, h6, _, h7⟩ := hcell _ hlt
    rw [h6]
    have : (i * sz + c') % sz = c' := by rw [Nat.mul_comm, Nat.mul_add_mod]; exact Nat.mod_eq_of_lt h2
    rw [this] at h7
    rw [h4] at h7
    injection h7 with h7
    rw [h7])
  refine ⟨_, _, by simp [newRow], hT, .sl _ _ _ _ _ _ _ (by simp [LH.push]) (by simp [LH.push]) hlc hc (.inr fun _ => ?_)⟩
  simp [updI]

theorem repZ_ok {n sz : Nat} {zero : List Value} {z : Array Value} (hzz : z.toList = zero) (hz : zero.length = sz) (hp : zero.all plainV = true) (h0 : 0 < sz) :
    ArrOk R ι h (repZ n sz zero) ((Array.range (n * sz)).map (z[· % z.size]!)) := by
  have hzs : z.size = sz := by rw [← hz, ← hzz]; simp
  have hcell : ∀ i, i < n * sz → plainV (z[i % z.size]!) = true ∧ zero[i % sz]? = some (z[i % z.size]!) := by
    intro i hi
    have hm : i % z.size < z.size := Nat.mod_lt _ (by omega)
    refine ⟨?_, ?_⟩
    · rw [getElem!_pos z _ hm]
      rw [List.all_eq_true] at hp
      apply hp
      rw [← hzz]
      simp
    · rw [← hzz, ← hzs, getElem!_pos z _ hm]
      simp [hm]
  refine ⟨by rw [range_zero]; simp [repZ], fun i c hi => ?_, fun i hi => ?_⟩
  · have hlt : i < n * sz := by
      have := (List.getElem?_eq_some_iff.1 hi).1
      simpa [repZ] using this
    obtain ⟨h1, h2⟩ := hcell i hlt
    rw [Array.getD_eq_getD_getElem?, range_get hlt]
    simp only [repZ, List.getElem?_map, List.getElem?_range hlt, Option.map_some, Option.some.injEq] at hi
    rw [← hi, List.getD_eq_getElem?_getD, List.getElem?_map, h2]
    exact rv_liftC1 h1
  · rw [range_zero] at hi
    rw [Array.getD_eq_getD_getElem?, range_get hi]
    exact (hcell i hi).1

theorem allI_get : ∀ {cs : List LV} {i : Nat} {x : LV}, allI cs → cs[i]? = some x → ∃ a, x = .sc (.int .i64 a)
  | [], i, x, _, hx => by simp at hx
  | c :: r, 0, x, h, hx => by simp at hx; subst hx; exact isI64_inv h.1
  | c :: r, i + 1, x, h, hx => allI_get h.2 (by simpa using hx)
theorem allB_get : ∀ {cs : List LV} {i : Nat} {x : LV}, allB cs → cs[i]? = some x → ∃ a, x = .sc (.bool a)
  | [], i, x, _, hx => by simp at hx
  | c :: r, 0, x, h, hx => by
    simp at hx; subst hx
    have := h.1
    unfold isBool at this
    split at this
    · exact ⟨_, rfl⟩
    · exact this.elim
  | c :: r, i + 1, x, h, hx => allB_get h.2 (by simpa using hx)

theorem litO_facts {kd sz n : Nat} {cs : List LV} (hl : cs.length = n * sz) (hc : litC kd cs) (hk : kd = 1 ∨ kd = 2 → sz = 1) :
    (litO kd sz n cs).live = true ∧ (litO kd sz n cs).isMap = false ∧ (litO kd sz n cs).size = n * sz ∧ (litO kd sz n cs).sz = sz ∧
    ∀ i c lv, cellAt (litO kd sz n cs) i c = some lv → cs[i * sz + c]? = some lv := by
  unfold litO
  unfold litC at hc
  split at hc
  · have := hk (.inl rfl)
    subst this
    refine ⟨rfl, rfl, by simp [LO.size, hl], rfl, fun i c lv hx => ?_⟩
    simp only [cellAt] at hx
    split at hx
    · rename_i e; subst e
      simp only [List.getElem?_map, Option.map_eq_some_iff] at hx
      obtain ⟨a, ⟨x, hx, rfl⟩, rfl⟩ := hx
      obtain ⟨a, rfl⟩ := allI_get hc hx
      simpa [intOfV] using hx
    · simp at hx
  · have := hk (.inr rfl)
    subst this
    refine ⟨rfl, rfl, by simp [LO.size, hl], rfl, fun i c lv hx => ?_⟩
    simp only [cellAt] at hx
    split at hx
    · rename_i e; subst e
      simp only [List.getElem?_map, Option.map_eq_some_iff] at hx
      obtain ⟨a, ⟨x, hx, rfl⟩, rfl⟩ := hx
      obtain ⟨a, rfl⟩ := allB_get hc hx
      simpa [boolOf] using hx
    · simp at hx
  · refine ⟨rfl, rfl, by simp [LO.size], rfl, fun i c lv hx => ?_⟩
    simp only [cellAt] at hx
    split at hx
    · rename_i e
      rw [List.getElem?_take_of_lt e.2, List.getElem?_drop] at hx
      exact hx
    · simp at hx

theorem roish1_ok {R' : RO} {lv : LV} {v : Value} (hr : Rv R ι h lv v) (hl : RoLe R R') (hi : roish1 lv) : Ro R' lv v := by
  cases lv with
  | sc x => obtain ⟨rfl, hp⟩ := hr.sc_inv; exact .sc _ hp
  | nsl => rw [hr.nsl_inv]; exact .nsl
  | rsl sz n f => exact hr.rsl_inv.mono hl
  | rptr cs => exact hr.rptr_inv.mono hl
  | rmp es => exact hr.rmp_inv.mono hl
  | _ => exact hi.elim

theorem roishL_get : ∀ {l : List LV} {i : Nat} {x : LV}, roishL l → l[i]? = some x → roish1 x
  | [], _, _, _, hx => by simp at hx
  | y :: r, 0, x, h, hx => by simp at hx; subst hx; exact h.1
  | y :: r, i + 1, x, h, hx => roishL_get h.2 (by simpa using hx)

theorem trans_call (hB : B ≤ w.heap.size) (hr : Rep R ι h B w) {w' : World} {R1 R2 : RO} (hR1 : ∀ b o, R2 b = some o → w'.heap[b]? = some o) (hb : Below w.heap.size w w') (h1 : RoLe R R1) (h2 : ∀ b, b < w.heap.size → R1 b = R b) (h3 : R1 = R2) :
    Trans B R ι h w R1 ι h w' := by
  subst h3
  refine ⟨⟨hR1, ?_, hr.empty, ?_, hr.apart, ?_⟩, ⟨h1, Nat.le_refl _, fun _ _ => Nat.le_refl _, fun _ _ _ => rfl⟩, hb.mono hB, fun b hbB => h2 b (by omega), hB⟩
  · intro k hk a1 a2 a3
    obtain ⟨cl, e, q1, q2, q3, q4, q5⟩ := (hr.cells k hk a1 a2 a3).ex
    refine ⟨cl, e, ?_, q2, q3, q4, fun i c lv hx => let ⟨v, g1, g2⟩ := q5 i c lv hx; ⟨v, g1, g2.mono ⟨h1, Nat.le_refl _, fun _ _ => Nat.le_refl _, fun _ _ _ => rfl⟩⟩⟩
    rw [hb.block _ (hr.base k hk a1 (.inl a3)).2.1]; exact q1
  · intro k hk a1 a2
    obtain ⟨g1, g2, g3⟩ := hr.base k hk a1 a2
    exact ⟨g1, Nat.lt_of_lt_of_le g2 hb.size, by rw [h2 _ g2]; exact g3⟩
  · intro k es hk he
    obtain ⟨ents, clock, q1, q2, q3, q4⟩ := hr.maps k es hk he
    refine ⟨ents, clock, ?_, q2, q3, fun i kv hkv => let ⟨e, g1, g2, g3⟩ := q4 i kv hkv; ⟨e, g1, g2, g3.mono ⟨h1, Nat.le_refl _, fun _ _ => Nat.le_refl _, fun _ _ _ => rfl⟩⟩⟩
    rw [hb.block _ (hr.base k hk (by rw [he]; rfl) (.inr (by rw [he]; rfl))).2.1]; exact q1

theorem newLit_ok (hr : Rep R ι h B w) (hB : B ≤ w.heap.size) {e : TypeId} {kd sz n : Nat} {cs : List LV} {us : Array Value} (ha : ArrOk R ι h cs us) (hl : cs.length = n * sz) (hc : litC kd cs) (hk : kd = 1 ∨ kd = 2 → sz = 1) (hn : n ≤ maxLen) :
    ∃ w' ι', (newRow e us).run P w = .ok ⟨w.heap.size, 0, none⟩ w' ∧ Trans B R ι h w R ι' (h.push (litO kd sz n cs)) w' ∧
      Rv R ι' (h.push (litO kd sz n cs)) (.sl h.n 0 sz 0 n) (.slice (some ⟨w.heap.size, 0, none⟩) n n) := by
  obtain ⟨f1, f2, f3, f4, f5⟩ := litO_facts hl hc hk
  obtain ⟨a1, a2, a3⟩ := ha
  have hT := hr.push hB (c := us) (e := e) (ob := litO kd sz n cs) f1 f2 (by rw [f3]; omega) a3 (fun i c' lv hx => by
    have hx' := f5 i c' lv hx
    refine ⟨us.getD (i * sz + c') undef, ?_, a2 _ _ hx'⟩
    have := (List.getElem?_eq_some_iff.1 hx').1
    rw [f4, Array.getD_eq_getD_getElem?, Array.getElem?_eq_getElem (by omega)]; rfl)
  refine ⟨_, _, by simp [newRow], hT, .sl _ _ _ _ _ _ _ (by simp [LH.push]) (by simp [LH.push]) (Nat.le_refl _) hn (.inr fun _ => ?_)⟩
  simp [updI]
  omega

theorem newRo_ok (hr : Rep R ι h B w) (hB : B ≤ w.heap.size) {e : TypeId} {sz n : Nat} {cs : List LV} {us : Array Value} (ha : ArrOk R ι h cs us) (hl : cs.length = n * sz) (hro : roishL cs) (hn : n ≤ maxLen) {f : Nat → List LV} (hf : ∀ i, i < n → f i = (cs.drop (i * sz)).take sz) :
    ∃ w' R', (newRow e us).run P w = .ok ⟨w.heap.size, 0, none⟩ w' ∧ Trans B R ι h w R' ι h w' ∧ Ro R' (.rsl sz n f) (.slice (some ⟨w.heap.size, 0, none⟩) n n) := by
  obtain ⟨a1, a2, a3⟩ := ha
  have hnone : R w.heap.size = none := by
    cases hq : R w.heap.size with
    | none => rfl
    | some o => have := (Array.getElem?_eq_some_iff.1 (hr.ro _ _ hq)).1; omega
  have hle : RoLe R (fun b => if b = w.heap.size then some (.cells us e) else R b) := by
    intro b o hb
    by_cases e1 : b = w.heap.size
    · subst e1; rw [hnone] at hb; simp at hb
    · simp only [e1, if_false]; exact hb
  refine ⟨{ w with heap := w.heap.push (.cells us e) }, fun b => if b = w.heap.size then some (.cells us e) else R b, by simp [newRow], ?_, ?_⟩
  · refine trans_call hB hr (w' := { w with heap := w.heap.push (.cells us e) }) ?_ ⟨rfl, rfl, rfl, by simp, fun k hk => by simp only [Array.getElem?_push, if_neg (show ¬ k = w.heap.size by omega)]⟩ hle (fun b hb => by simp only [if_neg (show ¬ b = w.heap.size by omega)]) rfl
    intro b o hb
    by_cases e1 : b = w.heap.size
    · subst e1; simp only [if_true] at hb; simp [← hb]
    · simp only [e1, if_false] at hb
      have := hr.ro b o hb
      simp only [Array.getElem?_push, e1, if_false]; exact this
  · have hidx : ∀ i j, i < n → j < sz → i * sz + j < cs.length := by
      intro i j hi hj
      have : (i + 1) * sz ≤ n * sz := Nat.mul_le_mul_right sz hi
      rw [Nat.add_mul] at this; omega
    refine .rsl sz n _ _ n w.heap.size 0 (fun i j => us.getD (i * sz + j) undef) (Nat.le_refl _) hn (fun _ => rfl) (fun i hi => ?_) (fun i j hi hj => ?_) (fun i j c hi hc => ?_) (fun i j hi hj => ?_)
    · have : (i + 1) * sz ≤ n * sz := Nat.mul_le_mul_right sz hi
      rw [Nat.add_mul] at this
      rw [hf i hi, List.length_take, List.length_drop]; omega
    · have := hidx i j hi hj
      unfold roCell
      simp only [if_true, Nat.zero_add]
      rw [Array.getD_eq_getD_getElem?, Array.getElem?_eq_getElem (by omega)]; rfl
    · rw [hf i hi, List.getElem?_take] at hc
      split at hc
      · rename_i hj
        rw [List.getElem?_drop] at hc
        exact roish1_ok (a2 _ _ hc) hle (roishL_get hro hc)
      · simp at hc
    · have := hidx i j hi hj
      exact a3 _ (by omega)

end
end Go.Proofs.Ytfhifkcbdpgomaa
