/- The lifted layer, part 5: the one theorem on operations that only compute or read. Conditions: none. -/
import Derived.Test.YtfhifkcbdpgomaaL4e
import Derived.DeepKeys5
namespace Go.Proofs.Ytfhifkcbdpgomaa
set_option linter.unusedSimpArgs false
set_option linter.unusedVariables false
open Go.RowKit

section
variable {P : Program} {R : RO} {ι : IM} {h : LH} {B : Nat} {w : World} {s : LS} {ρ : Operand → Value}

theorem places_ok : ∀ (fs : List Field) (l : List (Nat × Nat)), placesO P fs = some l → (fs.mapM (m := Sem) fun f => do pure (f.offset, ← sizeOf f.type)).run P w = .ok l w := by
  intro fs
  induction fs with
  | nil => intro l hl; simp only [placesO, Option.some.injEq] at hl; subst hl; simp
  | cons f r ih =>
    intro l hl
    simp only [placesO] at hl
    cases hi : P.info? f.type with
    | none => rw [hi] at hl; simp at hl
    | some i =>
      cases hr : placesO P r with
      | none => rw [hi, hr] at hl; simp at hl
      | some l' =>
        rw [hi, hr] at hl
        simp only [Option.some.injEq] at hl
        subst hl
        have := ih l' hr
        simp only [List.mapM_cons, Sem.run_bind, sizeOf, typeInfo, run_program, Result.andThen_ok, hi, Sem.run_pure]
        simp only [sizeOf, typeInfo] at this
        rw [this]; rfl

theorem zero_arr {t : TypeId} {z : List Value} (hz : zeroCells P t = some z) : ∃ v, (zeroValue t).run P w = .ok v w ∧ v.cells.toList = z ∧ ArrOk R ι h (z.map liftC1) v.cells := by
  unfold zeroCells at hz
  cases hi : P.info? t with
  | none => rw [hi] at hz; simp at hz
  | some i =>
    rw [hi] at hz
    simp only at hz
    cases hv : i.zero with
    | none => rw [hv] at hz; simp at hz
    | some v =>
      rw [hv] at hz
      simp only at hz
      split at hz
      · rename_i hp
        injection hz with hz
        have hall : ∀ j, (hj : j < v.cells.size) → plainV v.cells[j] = true := by simpa [Array.all_eq_true] using hp
        refine ⟨v, by simp [zeroValue, typeInfo, hi, hv], hz, ?_, ?_, ?_⟩
        · rw [← hz]; simp
        · intro j c hj
          rw [← hz] at hj
          simp only [List.getElem?_map, Option.map_eq_some_iff] at hj
          obtain ⟨x, hx, rfl⟩ := hj
          have hlt : j < v.cells.size := by
            have := (List.getElem?_eq_some_iff.1 hx).1; simpa using this
          have e : v.cells.getD j undef = x := by
            rw [Array.getD_eq_getD_getElem?, Array.getElem?_eq_getElem hlt]
            simp at hx
            rw [Array.getElem?_eq_getElem hlt] at hx
            injection hx
          rw [e, ← e, Array.getD_eq_getD_getElem?, Array.getElem?_eq_getElem hlt]
          exact rv_liftC1 (hall j hlt)
        · intro j hj
          rw [Array.getD_eq_getD_getElem?, Array.getElem?_eq_getElem hj]
          exact hall j hj
      · simp at hz

theorem bld_ok_struct {t : TypeId} {fs : Array Field} {z : List Value} {pl : List (Nat × Nat)} {parts : Array (Nat × Operand)} {l : List (Nat × Nat × Operand)} (ht : P.underlying t = some (.struct fs)) (hz : zeroCells P t = some z)
    (hpl : placesO P fs.toList = some pl) (hl : partsO (pl[·]?) parts.toList = some l) (hs : ∀ x, Rv R ι h (oev s x) (ρ x)) (h1 : opLC true s l) (h2 : fillC z.length (opL s l)) :
    ∃ v, (Instr.build t (parts.map fun (i, x) => (i, ρ x))).run P w = .ok v w ∧ Rv R ι h (.agg (fillV (z.map liftC1) (opL s l))) v := by
  obtain ⟨zv, hz1, hz2, hz3⟩ := zero_arr (P := P) (R := R) (ι := ι) (h := h) (w := w) hz
  obtain ⟨us, hf1, hf2⟩ := fill_ok (R := R) (ι := ι) (h := h) (s := s) (ρ := ρ) (pl[·]?) hs parts.toList l _ zv.cells hl h1 (by simpa using h2) hz3
  refine ⟨.agg us, ?_, .agg _ _ hf2.1 hf2.2.1 hf2.2.2⟩
  have hm : (fs.mapM (m := Sem) fun f => do pure (f.offset, ← sizeOf f.type)).run P w = .ok pl.toArray w := by
    rw [Array.mapM_eq_mapM_toList]
    simp only [Sem.run_map, places_ok (P := P) (w := w) fs.toList pl hpl, Result.andThen_ok]
  simp only [Instr.build, Sem.run_bind, hz1, Result.andThen_ok, underlying, run_program, ht, Sem.run_pure, hm]
  have e : (fun x : Nat => pl.toArray[x]?) = (fun x : Nat => pl[x]?) := by funext x; simp
  simp only [e, Array.toList_map, hf1, Sem.run_pure]

theorem bld_ok_array {t e : TypeId} {len n : Nat} {z : List Value} {parts : Array (Nat × Operand)} {l : List (Nat × Nat × Operand)} (ht : P.underlying t = some (.array len e)) (hz : zeroCells P t = some z)
    (hn : sizeO P e = some n) (hl : partsO (fun i => some (i * n, n)) parts.toList = some l) (hs : ∀ x, Rv R ι h (oev s x) (ρ x)) (h1 : opLC true s l) (h2 : fillC z.length (opL s l)) :
    ∃ v, (Instr.build t (parts.map fun (i, x) => (i, ρ x))).run P w = .ok v w ∧ Rv R ι h (.agg (fillV (z.map liftC1) (opL s l))) v := by
  obtain ⟨zv, hz1, hz2, hz3⟩ := zero_arr (P := P) (R := R) (ι := ι) (h := h) (w := w) hz
  obtain ⟨us, hf1, hf2⟩ := fill_ok (R := R) (ι := ι) (h := h) (s := s) (ρ := ρ) (fun i => some (i * n, n)) hs parts.toList l _ zv.cells hl h1 (by simpa using h2) hz3
  refine ⟨.agg us, ?_, .agg _ _ hf2.1 hf2.2.1 hf2.2.2⟩
  simp only [Instr.build, Sem.run_bind, hz1, Result.andThen_ok, underlying, run_program, ht, Sem.run_pure, sizeO_ok hn]
  simp only [Array.toList_map, hf1, Sem.run_pure]

theorem mkf_ok {f : FuncId} {caps : List Operand} (hs : ∀ x, Rv R ι h (oev s x) (ρ x)) (hc : ∀ x, x ∈ caps → opC true s x) : Rv R ι h (.fn f (caps.map (op1 s))) (.func (.func f) #[] (caps.map ρ).toArray) := by
  refine .fn _ _ _ (by simp) fun i c hi => ?_
  simp only [List.getElem?_map, Option.map_eq_some_iff] at hi
  obtain ⟨x, hx, rfl⟩ := hi
  have : (caps.map ρ).toArray.getD i undef = ρ x := by
    rw [Array.getD_eq_getD_getElem?]; simp [hx]
  rw [this]
  exact op1_ok hs rfl (hc x (List.mem_of_getElem? hx))

theorem nilc_ok {x : LV} {vx : Value} (hx : Rv R ι h x vx) (hc : nilcC x) : (∃ a, vx = .pointer (some a)) ∨ ∃ f vs, vx = .func (.func f) #[] vs := by
  unfold nilcC at hc
  split at hc
  · cases hx.rptr_inv; exact .inl ⟨_, rfl⟩
  · obtain ⟨a, rfl, _⟩ := hx.ptr_inv; exact .inl ⟨_, rfl⟩
  · obtain ⟨vs, rfl, _⟩ := hx.fn_inv; exact .inr ⟨_, _, rfl⟩
  · exact hc.elim

theorem binb_ok {t : TypeId} {a b : Bool} (hu : P.underlying t = some .bool) : (Op.equal t (.bool a) (.bool b)).run P w = .ok (a == b) w := by
  show (Op.equalIn (9999 + 1) t (.bool a) (.bool b)).run P w = .ok (a == b) w
  unfold Op.equalIn
  simp only [Sem.run_bind, underlying, run_program, Result.andThen_ok, hu, Sem.run_pure]

theorem keyedB_ok {k : TypeId} (hk : keyedB P k = true) : Maps.Keyed P k := by
  unfold keyedB at hk
  split at hk
  · rename_i hu; exact Maps.Keyed.of_law (WideMaps.string_law hu)
  · rename_i hu; exact Maps.int_keyed hu
  · rename_i hu; exact Maps.bool_keyed hu
  · rename_i hu
    simp only [Bool.and_eq_true, decide_eq_true_eq] at hk
    exact Maps.Keyed.of_law (deep_law_gate hk.1.1.1 hk.1.1.2 hk.1.2 hk.2 (by rw [hu]))
  · rename_i hu
    simp only [Bool.and_eq_true, decide_eq_true_eq] at hk
    exact Maps.Keyed.of_law (deep_law_gate hk.1.1.1 hk.1.1.2 hk.1.2 hk.2 (by rw [hu]))
  · simp at hk

theorem mfind_none {es : List (Value × LV)} {x : Value} (hn : ∀ kv, kv ∈ es → kv.1 ≠ x) : mfind es x = none := by
  induction es with
  | nil => rfl
  | cons kv r ih =>
    obtain ⟨k, v⟩ := kv
    simp only [mfind]
    rw [if_neg (hn (k, v) (by simp))]
    exact ih (fun kv h => hn kv (by simp [h]))
theorem mfind_some {es : List (Value × LV)} {x : Value} : ∀ {i : Nat} {kv : Value × LV}, (es.map (·.1)).Nodup → es[i]? = some kv → kv.1 = x → mfind es x = some kv.2 := by
  induction es with
  | nil => intro i kv _ h; simp at h
  | cons p r ih =>
    intro i kv hn hi hx
    obtain ⟨k, v⟩ := p
    simp only [mfind]
    simp only [List.map_cons, List.nodup_cons] at hn
    cases i with
    | zero => simp at hi; subst hi; rw [if_pos hx]
    | succ i =>
      have hi' : r[i]? = some kv := by simpa using hi
      rw [if_neg, ih hn.2 hi' hx]
      intro e
      apply hn.1
      rw [e, ← hx]
      exact List.mem_map_of_mem (List.mem_of_getElem? hi')

theorem keyV_ok {lv : LV} {v : Value} (hr : Rv R ι h lv v) (hk : keyC lv) : keyV lv = v := by
  unfold keyC at hk
  split at hk
  · exact (hr.sc_inv).1.symm
  · rename_i cs
    obtain ⟨vs, rfl, hl, hc, _⟩ := hr.agg_inv
    simp only [keyV]
    congr 1
    rw [← Array.toList_inj]
    simp only
    apply List.ext_getElem?
    intro i
    simp only [List.getElem?_map]
    cases hi : cs[i]? with
    | none =>
      have := List.getElem?_eq_none_iff.1 hi
      simp only [Option.map_none]
      rw [List.getElem?_eq_none (by simp; omega)]
    | some c =>
      have hlt : i < vs.size := by rw [hl]; exact (List.getElem?_eq_some_iff.1 hi).1
      have hci := hc i c hi
      have hsc : ∀ {l : List LV} {i : Nat} {c : LV}, scalC l → l[i]? = some c → ∃ u, c = .sc u := by
        intro l
        induction l with
        | nil => intro i c _ h; simp at h
        | cons a r ih =>
          intro i c h hi
          cases a <;> simp only [scalC] at h
          cases i with
          | zero => simp at hi; exact ⟨_, hi.symm⟩
          | succ i => exact ih h (by simpa using hi)
      obtain ⟨u, rfl⟩ := hsc hk hi
      have := hci.sc_inv.1
      simp only [Option.map_some]
      rw [Array.getElem?_toList, Array.getElem?_eq_getElem hlt]
      rw [Array.getD_eq_getD_getElem?, Array.getElem?_eq_getElem hlt] at this
      simp only [Option.getD_some] at this
      rw [this]; rfl
  · exact hk.elim

/-- A map that can be read: its entries as they lie. -/
theorem mapLive_ok (hr : Rep R ι h B w) {lv : LV} {v : Value} (hv : Rv R ι h lv v) (hl : mapLive h lv) :
    ∃ b ents clock, v = .map (some b) ∧ w.heap[b]? = some (.map ents clock) ∧ ents.size = (mapE h lv).length ∧ ((mapE h lv).map (·.1)).Nodup ∧
      ∀ (i : Nat) (kv : Value × LV), (mapE h lv)[i]? = some kv → ∃ e : MapEntry, ents[i]? = some e ∧ e.key = kv.1 ∧ Rv R ι h kv.2 e.val := by
  unfold mapLive at hl
  split at hl
  · rename_i k ver
    obtain ⟨hk, hver, hm⟩ := hl
    obtain ⟨b, rfl, _, _, hb⟩ := hv.mp_inv
    have := hb hver.symm
    subst this
    simp only [mapE]
    cases hob : (h.f k).2 with
    | map es =>
      obtain ⟨ents, clock, h1, h2, h3, h4⟩ := hr.maps k es hk hob
      exact ⟨_, ents, clock, rfl, h1, h2, h3.2, h4⟩
    | _ => rw [hob] at hm; simp [LO.isMap] at hm
  · rename_i es
    cases hv.rmp_inv with
    | rmp _ b ents clock hb h2 h3 h4 h5 =>
      refine ⟨b, ents, clock, rfl, hr.ro _ _ hb, h2, h3, fun i kv hi => ?_⟩
      obtain ⟨e, he, hke⟩ := h4 i kv hi
      exact ⟨e, he, hke, .ro (h5 i kv e hi he)⟩
  · exact hl.elim

theorem getObj_map {b : Nat} {ents : Array MapEntry} {clock : Nat} (hw : w.heap[b]? = some (.map ents clock)) : (getObj b).run P w = .ok (.map ents clock) w := by
  simp [getObj, Sem.run, hw]

/-- Finding a key among entries that stand for a list. -/
theorem find_ok {kt : TypeId} (K : Maps.Keyed P kt) {es : List (Value × LV)} {ents : Array MapEntry} {x : Value} (hsz : ents.size = es.length) (hn : (es.map (·.1)).Nodup)
    (hent : ∀ (i : Nat) (kv : Value × LV), es[i]? = some kv → ∃ e : MapEntry, ents[i]? = some e ∧ e.key = kv.1 ∧ Rv R ι h kv.2 e.val) (hk : keysOk P kt es x) :
    ((Instr.findKey kt x ents.toList).run P w = .ok none w ∧ mfind es x = none ∧ ∀ kv, kv ∈ es → kv.1 ≠ x) ∨
    ∃ (j : Nat) (e : MapEntry) (kv : Value × LV), (Instr.findKey kt x ents.toList).run P w = .ok (some (j, e.val)) w ∧ ents[j]? = some e ∧ e.key = x ∧ es[j]? = some kv ∧ kv.1 = x ∧ Rv R ι h kv.2 e.val ∧ mfind es x = some kv.2 := by
  obtain ⟨hx, hes⟩ := hk
  obtain ⟨lx, hlx⟩ := Option.isSome_iff_exists.1 hx
  have hkeys : ∀ e ∈ ents.toList, ∃ l, keyOf P kt e.key = some l := by
    intro e he
    obtain ⟨i, hi, rfl⟩ := List.getElem_of_mem he
    have hi' : i < es.length := by simpa [hsz] using hi
    obtain ⟨e', he', hke, _⟩ := hent i es[i] (List.getElem?_eq_getElem hi')
    have e1 : ents.toList[i] = e' := by
      have : ents[i]? = some ents.toList[i] := by
        rw [← Array.getElem?_toList, List.getElem?_eq_getElem hi]
      rw [this] at he'; injection he'
    rw [e1, hke]
    exact Option.isSome_iff_exists.1 (hes _ (List.getElem_mem hi'))
  rcases K.find w hlx ents.toList hkeys with ⟨h1, h2⟩ | ⟨j, e, h1, h2, h3⟩
  · left
    have hne : ∀ kv, kv ∈ es → kv.1 ≠ x := by
      intro kv hm e
      obtain ⟨i, hi, rfl⟩ := List.getElem_of_mem hm
      obtain ⟨en, g1, g2, _⟩ := hent i es[i] (List.getElem?_eq_getElem hi)
      exact h2 en (List.mem_of_getElem? (by rw [Array.getElem?_toList]; exact g1)) (by rw [g2, e])
    exact ⟨h1, mfind_none hne, hne⟩
  · right
    have hj : ents[j]? = some e := by rw [← Array.getElem?_toList]; exact h2
    have hjl : j < es.length := by rw [← hsz]; exact (Array.getElem?_eq_some_iff.1 hj).1
    obtain ⟨en, g1, g2, g3⟩ := hent j es[j] (List.getElem?_eq_getElem hjl)
    rw [hj] at g1
    injection g1 with g1
    subst g1
    exact ⟨j, e, es[j], h1, hj, h3, List.getElem?_eq_getElem hjl, by rw [← g2]; exact h3, g3, mfind_some hn (List.getElem?_eq_getElem hjl) (by rw [← g2]; exact h3)⟩

theorem lkp_ok (hr : Rep R ι h B w) {t kt e : TypeId} {z : Value} {ok : Bool} {m x : LV} {vm vx : Value} (ht : P.underlying t = some (.map kt e)) (hz : zeroV P e = some z) (hkt : keyedB P kt = true) (hm : Rv R ι h m vm) (hx : Rv R ι h x vx)
    (hl : mapLive h m) (hkc : keyC x) (hk : keysOk P kt (mapE h m) (keyV x)) : ∃ v, (Instr.lookup t vm vx ok).run P w = .ok v w ∧ Rv R ι h (lkpV z ok (mapE h m) (keyV x)) v := by
  obtain ⟨b, ents, clock, rfl, hw, hsz, hn, hent⟩ := mapLive_ok hr hm hl
  have hkx := keyV_ok hx hkc
  rw [hkx] at hk ⊢
  have K := keyedB_ok hkt
  obtain ⟨lx, hlx⟩ := Option.isSome_iff_exists.1 hk.1
  have hzr : (zeroValue e).run P w = .ok z w ∧ aggOk z = true := by
    unfold zeroV at hz
    cases hi : P.info? e with
    | none => rw [hi] at hz; simp at hz
    | some i =>
      rw [hi] at hz
      simp only at hz
      cases hzz : i.zero with
      | none => rw [hzz] at hz; simp at hz
      | some v =>
        rw [hzz] at hz
        simp only at hz
        split at hz
        · rename_i ha; injection hz with hz; subst hz; exact ⟨by simp [zeroValue, typeInfo, hi, hzz], ha⟩
        · simp at hz
  have hchk := K.check w ents.isEmpty hlx
  have hrun : ∀ (r : Option (Nat × Value)), (Instr.findKey kt vx ents.toList).run P w = .ok r w → (Instr.lookup t (.map (some b)) vx ok).run P w = .ok (if ok then .tuple #[(r.map (·.2)).getD z, .bool r.isSome] else (r.map (·.2)).getD z) w := by
    intro r hf
    cases r with
    | none => cases ok <;> simp [Instr.lookup, run_underlying ht, getObj_map hw, hchk, hf, hzr.1]
    | some jv => cases ok <;> simp [Instr.lookup, run_underlying ht, getObj_map hw, hchk, hf]
  rcases find_ok (P := P) (w := w) K hsz hn hent hk with ⟨h1, h2, _⟩ | ⟨j, en, kv, h1, _, _, _, _, h6, h7⟩
  · refine ⟨_, hrun _ h1, ?_⟩
    unfold lkpV
    rw [h2]
    cases ok with
    | true =>
      refine .tup _ _ rfl (fun i c hi => ?_)
      rcases i with _ | _ | i
      · simp at hi; subst hi; exact rv_liftC hzr.2
      · simp at hi; subst hi; exact rv_sc rfl
      · simp at hi
    | false => exact rv_liftC hzr.2
  · refine ⟨_, hrun _ h1, ?_⟩
    unfold lkpV
    rw [h7]
    cases ok with
    | true =>
      refine .tup _ _ rfl (fun i c hi => ?_)
      rcases i with _ | _ | i
      · simp at hi; subst hi; exact h6
      · simp at hi; subst hi; exact rv_sc rfl
      · simp at hi
    | false => exact h6

theorem pop_eq (hs : ∀ x, Rv R ι h (oev s x) (ρ x)) {op : BinOp} {t yt : TypeId} {x y : Operand} {lo : LOp} {dst : Option Nat} {ty : TypeId} {pos : String} {after : Array Edge} {guard : Option (Nat × Bool)} (hc : cEq P op t x y = some lo) (hv : pvc P true s h lo) :
    pfact s lo ∧ ∃ v, (execOp ρ ⟨dst, .binOp op t x y yt, ty, pos, after, guard⟩).run P w = .ok (.value v) w ∧ Rv R ι h (pval s h lo) v := by
  unfold cEq at hc
  split at hc
  · rename_i ks hk
    split at hc
    · rename_i hg
      injection hc with hc; subst hc
      obtain ⟨h1, h2, h3⟩ := hv
      obtain ⟨xs, ys, e1, e2, r, e3, e4⟩ := eqa_ok (w := w) hk hg.1 (op1_ok hs rfl h1) (op1_ok hs rfl h2) h3
      rw [e1, e2] at e3
      refine ⟨trivial, .bool r, ?_, ?_⟩
      · simp [execOp, e1, e2, eqGuard, hg.2, binOp, e3]
      · simp only [pval, e4]
        cases r <;> exact rv_sc rfl
    · simp at hc
  · rename_i ks hk
    split at hc
    · rename_i hg
      injection hc with hc; subst hc
      obtain ⟨h1, h2, h3⟩ := hv
      obtain ⟨xs, ys, e1, e2, r, e3, e4⟩ := eqa_ok (w := w) hk hg.1 (op1_ok hs rfl h1) (op1_ok hs rfl h2) h3
      rw [e1, e2] at e3
      refine ⟨trivial, .bool (!r), ?_, ?_⟩
      · simp [execOp, e1, e2, eqGuard, hg.2, binOp, e3]
      · simp only [pval, e4]
        cases r <;> exact rv_sc rfl
    · simp at hc
  · simp at hc

set_option maxHeartbeats 1000000 in
theorem pop_ok (hr : Rep R ι h B w) (hs : ∀ x, Rv R ι h (oev s x) (ρ x)) {o : Oper} {lo : LOp} (hc : cOp P o.op = some lo) (hv : pvc P true s h lo) :
    pfact s lo ∧ ∃ v, (execOp ρ o).run P w = .ok (.value v) w ∧ Rv R ι h (pval s h lo) v := by
  obtain ⟨dst, op, ty, pos, after, guard⟩ := o
  simp only at hc
  have H1 : ∀ x, opC true s x → Rv R ι h (op1 s x) (ρ x) := fun x hx => op1_ok hs rfl hx
  unfold cOp at hc
  split at hc
  · injection hc with hc; subst hc; exact ⟨trivial, _, rfl, H1 _ hv⟩
  · injection hc with hc; subst hc; exact ⟨trivial, _, rfl, H1 _ hv⟩
  · -- pick
    injection hc with hc; subst hc
    rename_i c a b
    obtain ⟨h1, h2, h3, h4⟩ := hv
    obtain ⟨cb, he, hcb⟩ := isBool_inv (H1 c h1) h2
    rw [he] at h3 h4
    simp only [boolOf, Bool.true_and] at h3 h4
    refine ⟨trivial, (if cb = true then ρ a else ρ b), ?_, ?_⟩
    · simp only [execOp, hcb, asBool, Sem.run_bind, Sem.run_pure, Result.andThen_ok]
    · simp only [pval, he, boolOf]
      exact selB_ok (fun e => op1_ok hs e h3) (fun e => op1_ok hs (by simp [e]) h4)
  · -- binOp
    rename_i op t x y yt
    split at hc
    · rename_i k hu
      split at hc
      · rename_i hng
        injection hc with hc; subst hc
        obtain ⟨h1, h2⟩ := hv
        unfold isNg at hng
        split at hng
        · rename_i n
          have hn : n = 0 := by simpa using hng
          subst hn
          have hx : ρ (.const (.int .i64 0)) = .int .i64 0 := (hs (.const (.int .i64 0))).sc_inv.1
          have hy := H1 y h1
          unfold ngC at h2
          split at h2
          · rename_i a ha
            rw [ha] at hy
            have hy' := hy.sc_inv.1
            refine ⟨trivial, .int .i64 (IntKind.i64.wrap (0 - a)), ?_, ?_⟩
            · simp [execOp, hx, hy', eqGuard, binOp, Op.intArith]
            · simp only [pval, ha, ngV]; exact rv_sc rfl
          · exact h2.elim
        · simp at hng
      · injection hc with hc; subst hc
        obtain ⟨h1, h2, h3⟩ := hv
        obtain ⟨v, h4, h5, h6⟩ := bin_ok (P := P) (w := w) (H1 x h1) (H1 y h2) h3 t
        exact ⟨trivial, v, by simp [execOp, h6, h4], h5⟩
    · injection hc with hc; subst hc
      obtain ⟨h1, h2, h3⟩ := hv
      obtain ⟨v, h4, h5, h6⟩ := bin_ok (P := P) (w := w) (H1 x h1) (H1 y h2) h3 t
      exact ⟨trivial, v, by simp [execOp, h6, h4], h5⟩
    · rename_i hu
      split at hc
      · injection hc with hc; subst hc
        obtain ⟨h1, h2, h3, h4⟩ := hv
        obtain ⟨a, ha, hva⟩ := isBool_inv (H1 x h1) h3
        obtain ⟨b, hb, hvb⟩ := isBool_inv (H1 y h2) h4
        simp only [pval, ha, hb, binbV]
        refine ⟨trivial, .bool (a == b), ?_, ?_⟩
        · simp only [execOp, hva, hvb, eqGuard, binOp, Sem.run_bind, Sem.run_pure, Result.andThen_ok, binb_ok hu]
          rfl
        · cases a <;> cases b <;> exact rv_sc rfl
      · injection hc with hc; subst hc
        obtain ⟨h1, h2, h3, h4⟩ := hv
        obtain ⟨a, ha, hva⟩ := isBool_inv (H1 x h1) h3
        obtain ⟨b, hb, hvb⟩ := isBool_inv (H1 y h2) h4
        simp only [pval, ha, hb, binbV]
        refine ⟨trivial, .bool (!(a == b)), ?_, ?_⟩
        · simp only [execOp, hva, hvb, eqGuard, binOp, Sem.run_bind, Sem.run_pure, Result.andThen_ok, binb_ok hu]
          rfl
        · cases a <;> cases b <;> exact rv_sc rfl
      · simp at hc
    · exact pop_eq hs hc hv
    · exact pop_eq hs hc hv
    · simp at hc
  · injection hc with hc; subst hc
    obtain ⟨h1, h2⟩ := hv
    obtain ⟨v, h3, h4⟩ := un_ok (P := P) (w := w) (H1 _ h1) h2
    exact ⟨trivial, v, by simp [execOp, h3], h4⟩
  · -- field
    rename_i t x i
    split at hc
    · rename_i fs hu
      split at hc
      · rename_i f hf
        simp only [Option.map_eq_some_iff] at hc
        obtain ⟨n, hn, rfl⟩ := hc
        obtain ⟨h1, h2⟩ := hv
        have hx := H1 x h1
        simp only [pval]
        generalize op1 s x = lx at *
        cases lx with
        | agg cs =>
          obtain ⟨vs, hvs, hl, hcs, hp⟩ := hx.agg_inv
          obtain ⟨v, h3, h4⟩ := part_cells (P := P) (w := w) hn h2 hl hcs hp
          exact ⟨trivial, v, by simp [execOp, Instr.field, underlying, hu, hf, hvs, asAgg, h3], h4⟩
        | _ => exact h2.elim
      · simp at hc
    · simp at hc
  · -- index
    rename_i t x i
    split at hc
    · rename_i hu
      injection hc with hc; subst hc
      obtain ⟨h1, h2, h3⟩ := hv
      obtain ⟨v, h4, h5⟩ := idxs_ok (P := P) (w := w) hu (H1 x h1) (H1 i h2) h3
      exact ⟨trivial, v, by simp [execOp, h4], h5⟩
    · rename_i len e hu
      split at hc
      · rename_i n z hn hz
        injection hc with hc; subst hc
        obtain ⟨h1, h2, h3⟩ := hv
        obtain ⟨v, h4, h5⟩ := idxa_ok (P := P) (w := w) hu hn hz (H1 x h1) (H1 i h2) h3
        exact ⟨trivial, v, by simp [execOp, h4], h5⟩
      · simp at hc
    · simp at hc
  · injection hc with hc; subst hc
    obtain ⟨h1, h2⟩ := hv
    obtain ⟨v, h3, h4⟩ := ext_ok (P := P) (w := w) (H1 _ h1) h2
    exact ⟨trivial, v, by simp [execOp, h3], h4⟩
  · -- build
    rename_i t parts
    split at hc
    · rename_i fs z hu hz
      split at hc
      · rename_i pl hpl
        simp only [Option.map_eq_some_iff] at hc
        obtain ⟨l, hl, rfl⟩ := hc
        obtain ⟨v, h3, h4⟩ := bld_ok_struct (w := w) hu hz hpl hl hs hv.1 hv.2
        exact ⟨trivial, v, by simp only [execOp, Sem.run_bind, h3, Result.andThen_ok, Sem.run_pure], h4⟩
      · simp at hc
    · rename_i len e z hu hz
      split at hc
      · rename_i n hn
        simp only [Option.map_eq_some_iff] at hc
        obtain ⟨l, hl, rfl⟩ := hc
        obtain ⟨v, h3, h4⟩ := bld_ok_array (w := w) hu hz hn hl hs hv.1 hv.2
        exact ⟨trivial, v, by simp only [execOp, Sem.run_bind, h3, Result.andThen_ok, Sem.run_pure], h4⟩
      · simp at hc
    · simp at hc
  · -- convert
    rename_i a b x
    split at hc
    · rename_i j k ha hb
      injection hc with hc; subst hc
      obtain ⟨h1, h2⟩ := hv
      obtain ⟨v, h3, h4⟩ := cvt_ok (w := w) ha hb (H1 x h1) h2
      exact ⟨trivial, v, by simp [execOp, h3], h4⟩
    · simp at hc
  · -- len
    rename_i c
    obtain ⟨callee, args, tys⟩ := c
    cases callee with
    | builtin b =>
      simp only at hc
      unfold cLen at hc
      split at hc
      · rename_i x t ha htt
        have ha' : args = #[x] := by rw [← Array.toList_inj, ha]
        have ht' : tys = #[t] := by rw [← Array.toList_inj, htt]
        subst ha' ht'
        split at hc
        · rename_i hu
          injection hc with hc; subst hc
          obtain ⟨hf, v, h3, h4⟩ := len_ok hr (ty := ty) (.inl ⟨rfl, hu⟩) (H1 x hv.1) hv.2
          exact ⟨hf, v, by simp [execOp, resolve, invoke, builtin, h3], h4⟩
        · rename_i e hu
          injection hc with hc; subst hc
          obtain ⟨hf, v, h3, h4⟩ := len_ok hr (ty := ty) (.inr (.inl ⟨rfl, e, hu⟩)) (H1 x hv.1) hv.2
          exact ⟨hf, v, by simp [execOp, resolve, invoke, builtin, h3], h4⟩
        · rename_i k e hu
          injection hc with hc; subst hc
          obtain ⟨hf, v, h3, h4⟩ := len_ok hr (ty := ty) (.inr (.inr ⟨rfl, k, e, hu⟩)) (H1 x hv.1) hv.2
          exact ⟨hf, v, by simp [execOp, resolve, invoke, builtin, h3], h4⟩
        · simp at hc
      · simp at hc
    | _ => simp at hc
  · -- slice
    rename_i t x lo hi
    split at hc
    · rename_i hu
      injection hc with hc; subst hc
      obtain ⟨h1, h2, h3, h4⟩ := hv
      obtain ⟨a1, a2⟩ := opt_rel hs h2
      obtain ⟨b1, b2⟩ := opt_rel hs h3
      obtain ⟨v, h5, h6⟩ := slcs_ok (w := w) hu (H1 x h1) a1 a2 b1 b2 h4
      exact ⟨trivial, v, by simp only [execOp, Sem.run_bind, Option.map_none, h5, Result.andThen_ok, Sem.run_pure], h6⟩
    · rename_i e hu
      simp only [Option.map_eq_some_iff] at hc
      obtain ⟨z, hz, rfl⟩ := hc
      obtain ⟨h1, h2, h3, h4⟩ := hv
      obtain ⟨a1, a2⟩ := opt_rel hs h2
      obtain ⟨b1, b2⟩ := opt_rel hs h3
      obtain ⟨v, h5, h6⟩ := slc_ok (w := w) hu hz (H1 x h1) a1 a2 b1 b2 h4
      exact ⟨trivial, v, by simp only [execOp, Sem.run_bind, Option.map_none, h5, Result.andThen_ok, Sem.run_pure], h6⟩
    · simp at hc
  · -- fieldAddr
    rename_i t x i
    split at hc
    · rename_i fs hu
      split at hc
      · rename_i f hf
        split at hc
        · rename_i z hz
          injection hc with hc; subst hc
          obtain ⟨v, h3, h4⟩ := fad_ok (w := w) hu hf hz (H1 x hv.1) hv.2
          exact ⟨trivial, v, by simp [execOp, h3], h4⟩
        · simp at hc
      · simp at hc
    · simp at hc
  · -- indexAddr
    rename_i t x i
    split at hc
    · rename_i e hu
      simp only [Option.map_eq_some_iff] at hc
      obtain ⟨z, hz, rfl⟩ := hc
      obtain ⟨h1, h2, h3⟩ := hv
      obtain ⟨v, h4, h5⟩ := iad_ok (w := w) hu hz (H1 x h1) (H1 i h2) h3
      exact ⟨trivial, v, by simp [execOp, h4], h5⟩
    · rename_i len e hu
      simp only [Option.map_eq_some_iff] at hc
      obtain ⟨z, hz, rfl⟩ := hc
      obtain ⟨h1, h2, h3⟩ := hv
      obtain ⟨v, h4, h5⟩ := iada_ok (w := w) hu hz (H1 x h1) (H1 i h2) h3
      exact ⟨trivial, v, by simp [execOp, h4], h5⟩
    · simp at hc
  · -- load
    rename_i t x
    simp only [Option.map_eq_some_iff] at hc
    obtain ⟨n, hn, rfl⟩ := hc
    obtain ⟨v, h3, h4⟩ := ld_ok hr hn (H1 x hv.1) hv.2
    exact ⟨trivial, v, by simp [execOp, h3], h4⟩
  · -- makeFunc
    rename_i fn first caps
    split at hc
    · rename_i f hf
      injection hc with hc; subst hc
      have hf' : first = #[] := by rw [← Array.toList_inj, hf]
      subst hf'
      refine ⟨trivial, _, ?_, mkf_ok hs hv⟩
      have e : Array.map ρ caps = (List.map ρ caps.toList).toArray := by rw [← Array.toList_inj]; simp
      simp [execOp, Instr.makeFunc, e]
    · simp at hc
  · -- nilCheck
    rename_i x
    injection hc with hc; subst hc
    have hx := H1 x hv.1
    rcases nilc_ok hx hv.2 with ⟨a, ha⟩ | ⟨f, vs, ha⟩
    · refine ⟨trivial, _, ?_, hx⟩
      simp [execOp, ha]
    · refine ⟨trivial, _, ?_, hx⟩
      simp [execOp, ha]
  · -- lookup
    rename_i t m k ok
    split at hc
    · rename_i kt e hu
      split at hc
      · rename_i z hz
        split at hc
        · rename_i hkt
          injection hc with hc; subst hc
          obtain ⟨h1, h2, h3, h4, h5⟩ := hv
          obtain ⟨v, g1, g2⟩ := lkp_ok (ok := ok) hr hu hz hkt (H1 m h1) (H1 k h2) h3 h4 h5
          exact ⟨trivial, v, by simp [execOp, g1], g2⟩
        · simp at hc
      · simp at hc
    · simp at hc
  · simp at hc

end
end Go.Proofs.Ytfhifkcbdpgomaa
