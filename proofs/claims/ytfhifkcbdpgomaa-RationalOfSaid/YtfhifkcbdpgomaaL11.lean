/- The lifted layer, part 11: one operation, whole, with its guard. Conditions: none. -/
import Derived.Test.YtfhifkcbdpgomaaL10
namespace Go.Proofs.Ytfhifkcbdpgomaa
set_option linter.unusedSimpArgs false
set_option linter.unusedVariables false
open Go.RowKit

section
variable {P : Program} {R : RO} {ι : IM} {h : LH} {B : Nat} {w : World} {s : LS} {ρ : Operand → Value}

/-- append to a nil slice: a new object. -/
theorem app_nil_ok (hr : Rep R ι h B w) (hB : B ≤ w.heap.size) {t ty el : TypeId} {kd sz bytes : Nat} {zero : List Value} {y : LV} {vy : Value}
    (ht : P.underlying t = some (.slice el)) (hs : sizeO P el = some sz) (hb : bytesO P el = some bytes) (hb1 : 1 ≤ bytes) (hz : zeroCells P el = some zero) (hzl : zero.length = sz) (hk : kindZ zero = kd) (h0 : 0 < sz)
    (hy : Rv R ι h y vy) (hyc : yC h sz y) (hyk : ykC kd h y) (hroom : appRoom bytes (yN y)) (hpos : 0 < yN y) :
    ∃ v w' ι', (Builtin.append_ #[t, t] ty #[.slice none 0 0, vy]).run P w = .ok v w' ∧ Trans B R ι h w R ι' (h.push (appO kd sz 0 0 .dead h y)) w' ∧
      Rv R ι' (h.push (appO kd sz 0 0 .dead h y)) (.sl h.n 0 sz 0 (yN y)) v := by
  obtain ⟨f1, f2, f3, f4, f5⟩ := appO_facts (off := 0) (len := 0) (ob := .dead) hyc hyk (.inr rfl) (ykC_type hk hzl) (.inl rfl)
  obtain ⟨inf, hinf, hbytes, hsize⟩ : ∃ i, P.info? el = some i ∧ i.bytes = bytes ∧ i.size = sz := by
    unfold bytesO at hb
    unfold sizeO at hs
    cases hi : P.info? el with
    | none => rw [hi] at hb; simp at hb
    | some i => rw [hi] at hb hs; simp at hb hs; exact ⟨i, rfl, hb, hs⟩
  obtain ⟨zv, hzv1, hzv2, hzv3⟩ := zeroCells_ok (P := P) (w := w) hz
  have hzi : inf.zero = some zv := by
    simp only [zeroValue, typeInfo, Sem.run_bind, run_program, Result.andThen_ok, hinf, Sem.run_pure] at hzv1
    cases hq : inf.zero with
    | none => rw [hq] at hzv1; simp at hzv1
    | some v => rw [hq] at hzv1; simp at hzv1; rw [hzv1]
  unfold appRoom at hroom
  have hneed : 2 * yN y ≤ 2 * yN y * bytes := by
    have := Nat.mul_le_mul_left (2 * yN y) hb1
    omega
  obtain ⟨ya, ycap, us, rfl, hfc, husz, hus⟩ := firstCells_ok (P := P) hr.drew h0 hy hyc
  have hyp := yPlain h0 husz hus
  have hrun := append_grow (P := P) (w := w) (ty := ty) (a := none) (len := 0) (cap := 0) (n := yN y) (olds := #[]) ht hinf hzi (by omega) (by simp [Builtin.firstCells]) (by rw [hsize]; exact hfc) (by omega)
    (by rw [hbytes]; have := Nat.mul_le_mul_right bytes (nextcap_le (need := 0 + yN y) (cap := 0) (by omega)); rw [Nat.zero_add] at this ⊢; omega)
  rw [Nat.zero_add] at hrun
  have hge := grownCap_ge w (yN y) 0 el
  have hle := grownCap_le_maxLen w (yN y) 0 el (by unfold maxLen; omega)
  have hzs : zv.cells.size = sz := by rw [← hzl, ← hzv2]; simp
  have hzc : (Builtin.zeroCells zv.cells (grownCap w (yN y) 0 el - yN y)).size = (grownCap w (yN y) 0 el - yN y) * sz := by
    unfold Builtin.zeroCells; simp [hzs]
  have hall : (#[] ++ us ++ Builtin.zeroCells zv.cells (grownCap w (yN y) 0 el - yN y)).size = grownCap w (yN y) 0 el * sz := by
    simp only [Array.size_append, husz, hzc, List.size_toArray, List.length_nil, Nat.zero_add]
    rw [← Nat.add_mul]; congr 1; omega
  have hnewsz : yN y * sz ≤ grownCap w (yN y) 0 el * sz := Nat.mul_le_mul_right _ hge
  have hT := hr.drew.push hB (c := #[] ++ us ++ Builtin.zeroCells zv.cells (grownCap w (yN y) 0 el - yN y)) (e := el) (ob := appO kd sz 0 0 .dead h y) f1 f2 (by rw [f3, hall, Nat.zero_add]; exact hnewsz) (fun j hj => by
    rw [Array.getD_eq_getD_getElem?]
    by_cases hj2 : j < us.size
    · rw [Array.getElem?_append_left (by simp; omega)]
      have := hyp j hj2
      rw [Array.getD_eq_getD_getElem?] at this; simpa using this
    · rw [Array.getElem?_append_right (by simp; omega)]
      simp only [Array.size_append] at hj ⊢
      have := zeroC_plain (z := zv.cells) (fun v hv => by
        rw [List.all_eq_true] at hzv3
        exact hzv3 v (by rw [← hzv2]; simpa using hv)) (grownCap w (yN y) 0 el - yN y) (j - us.size) (by simp at hj; omega)
      rw [Array.getD_eq_getD_getElem?] at this; simpa using this) (fun i c lv hx => by
    obtain ⟨hcs', hcase2⟩ := f5 i c lv hx
    rw [f4]
    rcases hcase2 with ⟨hi, _, _⟩ | ⟨hi, hi2, hnew⟩
    · omega
    · rw [Nat.sub_zero] at hi2 hnew
      obtain ⟨lv', e1, e2, e3⟩ := hus i c hi2 hcs'
      rw [e1] at hnew
      injection hnew with hnew
      subst hnew
      obtain ⟨ix1, ix2⟩ := app_index (len := yN y) (m := 0) (i := i) hcs'
      have := ix1 hi2
      refine ⟨_, ?_, e2⟩
      rw [Array.getElem?_append_left (by simp; omega), Array.getD_eq_getD_getElem?]
      have hlt : i * sz + c < us.size := by omega
      simp [hlt])
  refine ⟨_, _, _, hrun, ⟨hT.rep, hT.mono, ⟨hT.below.os, hT.below.tape, hT.below.output, hT.below.size, hT.below.block⟩, hT.rob, hB⟩, ?_⟩
  refine .sl _ _ _ _ _ _ _ (by simp [LH.push]) (by simp [LH.push]) hge hle (.inr fun _ => ?_)
  have hw : w.drew.heap.size = w.heap.size := rfl
  rw [hall]
  simp [updI, hw]

/-- A call: what it hands back and what it makes of the abstract heap. -/
def LCall (P : Program) (f : FuncId) (args : List LV) (h : LH) (r : LV) (h' : LH) : Prop :=
  ∀ (B : Nat) (R : RO) (ι : IM) (w : World) (vs : Array Value), B ≤ w.heap.size → Rep R ι h B w → vs.size = args.length → (∀ i a, args[i]? = some a → Rv R ι h a (vs.getD i undef)) →
    Calls P f vs w fun e w' => ∃ v R' ι', e = .returned v ∧ Trans B R ι h w R' ι' h' w' ∧ Rv R' ι' h' r v

/-- May the function be entered? -/
def okF (P : Program) (f : FuncId) : Bool :=
  match P.funcs[f]? with
  | some fn => fn.name != "runtime.NumGoroutine" && fn.body.isSome
  | none => false

/-- A function that the model stands in for: it hands back a value, and leaves all memory alone. -/
def XCall (P : Program) (f : FuncId) (args : List LV) (r : LV) : Prop :=
  ∀ (R : RO) (ι : IM) (h : LH) (w : World) (vs : Array Value), vs.size = args.length → (∀ i a, args[i]? = some a → Rv R ι h a (vs.getD i undef)) → ∃ v, (callFunc f vs).run P w = .ok (.value v) w ∧ Rv R ι h r v
def extF (P : Program) (f : FuncId) : Bool :=
  match P.funcs[f]? with
  | some fn => fn.body.isNone
  | none => false

def cEf (dr : Bool) (P : Program) : Op → Option LEf
  | .store t x v => (sizeO P t).map fun n => .st n x v
  | .alloc t => (zeroCells P t).map fun z => .alc z
  | .box _ x => some (.box x)
  | .makeSlice t l c => match P.underlying t with
    | some (.slice e) => match sizeO P e, bytesO P e, zeroCells P e with
      | some sz, some by', some z => if z.length = sz ∧ 0 < sz ∧ 1 ≤ by' then some (.mks (kindZ z) sz z by' l c) else none
      | _, _, _ => none
    | _ => none
  | .buildSlice t len parts => match P.underlying t with
    | some (.slice e) => match sizeO P e, zeroCells P e with
      | some sz, some z => if z.length = sz ∧ 0 < sz ∧ len * sz ≤ 16777216 then (partsO (fun i => some (i * sz, sz)) parts.toList).map fun l => bif dr then .bsr len sz z l else .bsl (kindZ z) len sz z l else none
      | _, _ => none
    | _ => none
  | .call c => match c.callee, c.args.toList, c.argTypes.toList with
    | .builtin .append, [x, y], [t, t'] => if t = t' then match P.underlying t with
      | some (.slice e) => match sizeO P e, bytesO P e, zeroCells P e with
        | some sz, some by', some z => if z.length = sz ∧ 0 < sz ∧ 1 ≤ by' then some (.app (kindZ z) sz by' x y) else none
        | _, _, _ => none
      | _ => none
      else none
    | .value (.func f), args, _ => if okF P f then some (.call f args) else if extF P f then some (.ext f args) else none
    | .value x, args, _ => some (.calv x args)
    | _, _, _ => none
  | .makeMap _ none => some .mkm
  | .mapUpdate t m k v => match P.underlying t with
    | some (.map kt _) => if keyedB P kt then some (.mup kt m k v) else none
    | _ => none
  | .panic _ => some .bad
  | .makeInterface .. => some .bad
  | _ => none

def fnOf : LV → FuncId
  | .fn f _ => f
  | _ => 0
def capsOf : LV → List LV
  | .fn _ cs => cs
  | _ => []
def isFn : LV → Prop
  | .fn _ _ => True
  | _ => False

def mksC (l c : Int) (bytes : Nat) : Prop := 0 ≤ l ∧ l ≤ c ∧ c ≤ 281474976710656 ∧ bytes * c.toNat ≤ 281474976710656

/-- What an operation that makes or changes memory does. -/
def eff (P : Program) (s : LS) (h : LH) : LEf → LV → LH → Prop
  | .st n x v, r, h' => match op1 s x with
    | .ptr k ver sz i c => opC true s x ∧ opC true s v ∧ flatOk (op1 s v) = true ∧ (flat (op1 s v)).length = n ∧ k < h.n ∧ (h.f k).1 = ver ∧ stC (h.f k).2 sz i c (flat (op1 s v)) ∧
        r = .any ∧ h' = h.set k (ver, stV (h.f k).2 i c (flat (op1 s v)))
    | _ => False
  | .alc z, r, h' => r = .ptr h.n 0 0 0 0 ∧ h' = h.push (.box (z.map liftC1))
  | .box v, r, h' => opC true s v ∧ flatOk (op1 s v) = true ∧ r = .ptr h.n 0 0 0 0 ∧ h' = h.push (.box (flat (op1 s v)))
  | .mks kd sz z bytes l c, r, h' => opC true s l ∧ opC true s c ∧ isI64 (op1 s l) ∧ isI64 (op1 s c) ∧ mksC (intOfV (op1 s l)) (intOfV (op1 s c)) bytes ∧
      r = .sl h.n 0 sz 0 (intOfV (op1 s l)).toNat ∧ h' = h.push (repO kd sz (intOfV (op1 s l)).toNat z)
  | .bsl kd len sz z parts, r, h' => opLC true s parts ∧ fillC (len * sz) (opL s parts) ∧ litC kd (fillV (repZ len sz z) (opL s parts)) ∧
      r = .sl h.n 0 sz 0 len ∧ h' = h.push (litO kd sz len (fillV (repZ len sz z) (opL s parts)))
  | .bsr len sz z parts, r, h' => opLC true s parts ∧ fillC (len * sz) (opL s parts) ∧ roishL (fillV (repZ len sz z) (opL s parts)) ∧
      (∃ f, (∀ i, i < len → f i = ((fillV (repZ len sz z) (opL s parts)).drop (i * sz)).take sz) ∧ r = .rsl sz len f) ∧ h' = h
  | .app kd sz bytes x y, r, h' => opC true s x ∧ opC true s y ∧ yC h sz (op1 s y) ∧ ykC kd h (op1 s y) ∧ match op1 s x with
    | .sl k ver sz' off len => sz' = sz ∧ k < h.n ∧ (h.f k).1 = ver ∧ kdC kd (h.f k).2 ∧ rngC (h.f k).2 sz off len ∧ appRoom bytes (len + yN (op1 s y)) ∧
        r = .sl k (ver + 1) sz 0 (len + yN (op1 s y)) ∧ h' = h.set k (ver + 1, appO kd sz off len (h.f k).2 h (op1 s y))
    | .nsl => 0 < yN (op1 s y) ∧ appRoom bytes (yN (op1 s y)) ∧ r = .sl h.n 0 sz 0 (yN (op1 s y)) ∧ h' = h.push (appO kd sz 0 0 .dead h (op1 s y))
    | _ => False
  | .call f args, r, h' => (∀ x, x ∈ args → opC true s x) ∧ LCall P f (args.map (op1 s)) h r h'
  | .mkm, r, h' => r = .mp h.n 0 ∧ h' = h.push (.map [])
  | .mup kt m k v, r, h' => opC true s m ∧ opC true s k ∧ opC true s v ∧ keyC (op1 s k) ∧ match op1 s m with
    | .mp a ver => a < h.n ∧ (h.f a).1 = ver ∧ (h.f a).2.isMap = true ∧ keysOk P kt (mapO (h.f a).2) (keyV (op1 s k)) ∧ r = .any ∧ h' = h.set a (ver, .map (mput (mapO (h.f a).2) (keyV (op1 s k)) (op1 s v)))
    | _ => False
  | .ext f args, r, h' => (∀ x, x ∈ args → opC true s x) ∧ XCall P f (args.map (op1 s)) r ∧ h' = h
  | .ecl f args, r, h' => (∀ x, x ∈ args → opC true s x) ∧ (∀ hh, LCall P f (args.map (op1 s)) hh r hh) ∧ h' = h
  | .bad, _, _ => False
  | .calv x args, r, h' => opC true s x ∧ (∀ x, x ∈ args → opC true s x) ∧ isFn (op1 s x) ∧ okF P (fnOf (op1 s x)) = true ∧ LCall P (fnOf (op1 s x)) (args.map (op1 s) ++ capsOf (op1 s x)) h r h'

theorem mput_none {es : List (Value × LV)} {x : Value} {v : LV} (hn : ∀ kv, kv ∈ es → kv.1 ≠ x) : mput es x v = es ++ [(x, v)] := by
  induction es with
  | nil => rfl
  | cons kv r ih =>
    obtain ⟨k, u⟩ := kv
    simp only [mput]
    rw [if_neg (hn (k, u) (by simp)), ih (fun kv h => hn kv (by simp [h]))]; rfl
theorem mput_some {x : Value} {v : LV} : ∀ {es : List (Value × LV)} {i : Nat} {kv : Value × LV}, (es.map (·.1)).Nodup → es[i]? = some kv → kv.1 = x → mput es x v = es.set i (x, v)
  | [], i, kv, _, hi, _ => by simp at hi
  | (k, u) :: r, 0, kv, _, hi, hx => by
    simp at hi; subst hi
    simp only at hx
    simp only [mput, List.set_cons_zero]
    rw [if_pos hx, hx]
  | (k, u) :: r, i + 1, kv, hn, hi, hx => by
    simp only [List.map_cons, List.nodup_cons] at hn
    have hi' : r[i]? = some kv := by simpa using hi
    simp only [mput, List.set_cons_succ]
    rw [if_neg, mput_some hn.2 hi' hx]
    intro e
    apply hn.1
    rw [e, ← hx]
    exact List.mem_map_of_mem (List.mem_of_getElem? hi')

/-- How an operation of the model ends: with a value, with none, or in a call. -/
def Ends (P : Program) (B : Nat) (R : RO) (ι : IM) (h : LH) (w : World) (res : Result Next) (r : LV) (h' : LH) : Prop :=
  (∃ v w' R' ι', (res = .ok (.value v) w' ∨ (res = .ok .skip w' ∧ v = undef)) ∧ Trans B R ι h w R' ι' h' w' ∧ Rv R' ι' h' r v) ∨
  ∃ f vs, res = .ok (.enter f vs) w ∧ Calls P f vs w fun e w' => ∃ v R' ι', e = .returned v ∧ Trans B R ι h w R' ι' h' w' ∧ Rv R' ι' h' r v

theorem args_ok (hs : ∀ x, Rv R ι h (oev s x) (ρ x)) {args : List Operand} (hc : ∀ x, x ∈ args → opC true s x) : ∀ i a, (args.map (op1 s))[i]? = some a → Rv R ι h a ((args.map ρ).toArray.getD i undef) := by
  intro i a hi
  simp only [List.getElem?_map, Option.map_eq_some_iff] at hi
  obtain ⟨x, hx, rfl⟩ := hi
  have : (args.map ρ).toArray.getD i undef = ρ x := by
    rw [Array.getD_eq_getD_getElem?]; simp [hx]
  rw [this]
  exact op1_ok hs rfl (hc x (List.mem_of_getElem? hx))

theorem callFunc_ok {f : FuncId} (hf : okF P f = true) (vs : Array Value) : (callFunc f vs).run P w = .ok (.enter f vs) w := by
  unfold okF at hf
  cases hfn : P.funcs[f]? with
  | none => rw [hfn] at hf; simp at hf
  | some fn =>
    rw [hfn] at hf
    simp only [Bool.and_eq_true, bne_iff_ne] at hf
    obtain ⟨h1, h2⟩ := hf
    have h3 : ¬ fn.body = none := by intro e; rw [e] at h2; simp at h2
    simp [callFunc, hfn, h1, h3]

end
end Go.Proofs.Ytfhifkcbdpgomaa
