/- The lifted layer, part 4: every operation that only computes or reads, whole. Conditions: none. -/
import Derived.Test.YtfhifkcbdpgomaaL3
namespace Go.Proofs.Ytfhifkcbdpgomaa
set_option linter.unusedSimpArgs false
set_option linter.unusedVariables false
open Go.RowKit

section
variable {P : Program} {R : RO} {ι : IM} {h : LH} {B : Nat} {w : World} {s : LS} {ρ : Operand → Value}

theorem rv_liftC1 {v : Value} (hp : plainV v = true) : Rv R ι h (liftC1 v) v := by
  unfold liftC1
  split
  · exact .ro .nsl
  · exact .any _
  · exact .any _
  · exact .ro (.sc _ hp)

theorem rv_liftC {v : Value} (ha : aggOk v = true) : Rv R ι h (liftC v) v := by
  cases v with
  | agg cs =>
    simp only [aggOk, Array.all_eq_true] at ha
    have hp : ∀ i, i < cs.size → plainV (cs.getD i undef) = true := fun i hi => by
      rw [Array.getD_eq_getD_getElem?, Array.getElem?_eq_getElem hi]; exact ha i hi
    refine .agg _ _ (by simp) (fun i c hi => ?_) hp
    simp only [List.getElem?_map, Option.map_eq_some_iff] at hi
    obtain ⟨x, hx, rfl⟩ := hi
    have hlt : i < cs.size := by
      have := (List.getElem?_eq_some_iff.1 hx).1; simpa using this
    have e : cs.getD i undef = x := by
      rw [Array.getD_eq_getD_getElem?, Array.getElem?_eq_getElem hlt]
      simp at hx
      rw [Array.getElem?_eq_getElem hlt] at hx
      injection hx
    have h9 := hp i hlt
    rw [e] at h9 ⊢
    exact rv_liftC1 h9
  | tuple vs => exact .any _
  | bool b => exact .ro (.sc _ rfl)
  | int k n => exact .ro (.sc _ rfl)
  | slice a n c => exact rv_liftC1 rfl
  | _ => exact .ro (.sc _ rfl)

theorem rv_oev (a : Act) (ht : ∀ t, Rv R ι h (s t) (a.eval (.tmp t))) (x : Operand) : Rv R ι h (oev s x) (a.eval x) := by
  cases x with
  | tmp t => exact ht t
  | const v =>
    show Rv R ι h (if aggOk v then liftC v else .any) v
    by_cases ha : aggOk v = true
    · rw [if_pos ha]; exact rv_liftC ha
    · rw [if_neg ha]; exact .any _
  | global g => exact .any _
  | func f => exact .ro (.fn f [] #[] rfl (fun i c hi => by simp at hi))

theorem isBool_inv {lv : LV} {v : Value} (hr : Rv R ι h lv v) (hb : isBool lv) : ∃ b, lv = .sc (.bool b) ∧ v = .bool b := by
  unfold isBool at hb
  split at hb
  · exact ⟨_, rfl, (hr.sc_inv).1⟩
  · exact hb.elim

theorem selB_ok {c : Bool} {a b : LV} {va vb : Value} (ha : c = true → Rv R ι h a va) (hb : c = false → Rv R ι h b vb) :
    Rv R ι h (selB c a b) (if c = true then va else vb) := by
  unfold selB
  split
  · rename_i x y
    cases c
    · have := (hb rfl).sc_inv.1; subst this; exact rv_sc rfl
    · have := (ha rfl).sc_inv.1; subst this; exact rv_sc rfl
  · cases c
    · exact hb rfl
    · exact ha rfl

theorem un_ok {op : UnOp} {x : LV} {vx : Value} (hx : Rv R ι h x vx) (hc : unC true op x) :
    ∃ v, (Op.unary op vx).run P w = .ok v w ∧ Rv R ι h (unV op x) v := by
  unfold unC at hc
  split at hc
  · rename_i k a
    obtain ⟨rfl, _⟩ := hx.sc_inv
    split at hc
    · exact ⟨.int k (k.wrap (0 - a)), by simp only [Op.unary, Op.intArith, Sem.run_pure], arV_ok hc⟩
    · exact hc.elim
  · rename_i b
    obtain ⟨rfl, _⟩ := hx.sc_inv
    split at hc
    · exact ⟨_, by simp [Op.unary], rv_sc rfl⟩
    · exact hc.elim
  · exact hc.elim

theorem idxs_ok {t : TypeId} {x i : LV} {vx vi : Value} (ht : P.underlying t = some .string) (hx : Rv R ι h x vx) (hi : Rv R ι h i vi) (hc : idxsC true x i) :
    ∃ v, (Instr.index t vx vi).run P w = .ok v w ∧ Rv R ι h (idxsV x i) v := by
  unfold idxsC at hc
  split at hc
  · rename_i s k i
    obtain ⟨rfl, _⟩ := hx.sc_inv
    obtain ⟨rfl, _⟩ := hi.sc_inv
    obtain ⟨h1, h2⟩ := hc rfl
    refine ⟨_, ?_, rv_sc rfl⟩
    have e : s[i.toNat]? = some s[i.toNat] := getElem?_pos s i.toNat h2
    have e2 : sbyte s i.toNat = s[i.toNat] := by
      unfold sbyte
      rw [Array.getD_eq_getD_getElem?, Array.getElem?_eq_getElem h2]; rfl
    simp only [Instr.index, asIntOf, underlying, Sem.run_bind, Sem.run_pure, Result.andThen_ok, run_program, ht, h1, if_true, e, e2]
  · exact hc.elim

theorem idxa_ok {t e : TypeId} {len sz : Nat} {n : Option Nat} {x i : LV} {vx vi : Value} (ht : P.underlying t = some (.array len e)) (hk : ldK P e = some n) (hz : sizeO P e = some sz)
    (hx : Rv R ι h x vx) (hi : Rv R ι h i vi) (hc : idxaC true len sz n x i) :
    ∃ v, (Instr.index t vx vi).run P w = .ok v w ∧ Rv R ι h (idxaV sz n x i) v := by
  unfold idxaC at hc
  split at hc
  · rename_i cs k i
    obtain ⟨vs, rfl, hl, hcs, hp⟩ := hx.agg_inv
    obtain ⟨rfl, _⟩ := hi.sc_inv
    obtain ⟨h1, h2⟩ := hc rfl
    obtain ⟨v, hv1, hv2⟩ := part_cells (P := P) (w := w) hk h2 hl hcs hp
    refine ⟨v, ?_, hv2⟩
    unfold sizeO at hz
    cases hi : P.info? e with
    | none => rw [hi] at hz; simp at hz
    | some inf =>
      rw [hi] at hz; simp at hz
      simp only [Instr.index, asIntOf, underlying, Sem.run_bind, Sem.run_pure, Result.andThen_ok, run_program, ht, h1, and_self, if_true, sizeOf, typeInfo, hi, hz, hv1]
  · exact hc.elim

theorem ext_ok {x : LV} {i : Nat} {vx : Value} (hx : Rv R ι h x vx) (hc : extC i x) : ∃ v, (Instr.extract vx i).run P w = .ok v w ∧ Rv R ι h (extV i x) v := by
  unfold extC at hc
  split at hc
  · rename_i vs
    obtain ⟨us, rfl, hl, hcs⟩ := hx.tup_inv
    have hlt : i < us.size := by omega
    refine ⟨us[i], ?_, ?_⟩
    · simp only [Instr.extract, Array.getElem?_eq_getElem hlt, Sem.run_pure]
    · simp only [extV]
      have := hcs i (vs[i]) (List.getElem?_eq_getElem hc)
      rw [Array.getD_eq_getD_getElem?, Array.getElem?_eq_getElem hlt] at this
      rw [getD_el hc]; exact this
  · exact hc.elim

theorem cvt_ok {a b : TypeId} {k j : IntKind} {x : LV} {vx : Value} (ha : P.underlying a = some (.int j)) (hb : P.underlying b = some (.int k)) (hx : Rv R ι h x vx) (hc : cvtC true k x) :
    ∃ v, (convert a b vx).run P w = .ok v w ∧ Rv R ι h (cvtV k x) v := by
  unfold cvtC at hc
  split at hc
  · rename_i k' i
    obtain ⟨rfl, _⟩ := hx.sc_inv
    exact ⟨_, by simp [convert, underlying, ha, hb, Conv.intToInt], arV_ok hc⟩
  · exact hc.elim

theorem len_ok (hr : Rep R ι h B w) {t ty : TypeId} {kd : Nat} {x : LV} {vx : Value} (ht : kd = 0 ∧ P.underlying t = some .string ∨ kd = 1 ∧ (∃ e, P.underlying t = some (.slice e)) ∨ kd = 2 ∧ ∃ k e, P.underlying t = some (.map k e))
    (hx : Rv R ι h x vx) (hc : lenC h kd x) : lenF x ∧ ∃ v, (Builtin.len_ #[t] ty #[vx]).run P w = .ok v w ∧ Rv R ι h (lenV h x) v := by
  unfold lenC at hc
  split at hc
  · subst hc
    obtain ⟨e, hu⟩ : ∃ e, P.underlying t = some (.slice e) := by simpa using ht
    cases hx.rsl_inv with
    | rsl sz n f a cap b o g hcp hm =>
      refine ⟨?_, _, ?_, rv_sc rfl⟩
      · unfold maxLen at hm; simp only [lenF]; omega
      · simp [Builtin.len_, underlying, hu, goInt]
  · subst hc
    obtain ⟨e, hu⟩ : ∃ e, P.underlying t = some (.slice e) := by simpa using ht
    obtain ⟨a, cap, rfl, _, _, hl, hm, _⟩ := hx.sl_inv
    refine ⟨?_, _, ?_, rv_sc rfl⟩
    · unfold maxLen at hm; simp only [lenF]; omega
    · simp [Builtin.len_, underlying, hu, goInt]
  · subst hc
    obtain ⟨e, hu⟩ : ∃ e, P.underlying t = some (.slice e) := by simpa using ht
    have := hx.nsl_inv
    subst this
    exact ⟨trivial, _, by simp [Builtin.len_, underlying, hu, goInt], rv_sc rfl⟩
  · subst hc
    have hu : P.underlying t = some .string := by simpa using ht
    obtain ⟨rfl, _⟩ := hx.sc_inv
    exact ⟨trivial, _, by simp [Builtin.len_, underlying, hu, goInt], rv_sc rfl⟩
  · rename_i k ver
    obtain ⟨rfl, hk, hver, hm⟩ := hc
    obtain ⟨k', e, hu⟩ : ∃ k e, P.underlying t = some (.map k e) := by simpa using ht
    obtain ⟨b, rfl, _, _, hb⟩ := hx.mp_inv
    have := hb hver.symm
    subst this
    cases hob : (h.f k).2 with
    | map es =>
      obtain ⟨ents, clock, hw, hsz, _, _⟩ := hr.maps k es hk hob
      refine ⟨trivial, .int .i64 es.length, ?_, by simp only [lenV, hob]; exact rv_sc rfl⟩
      have hg : (getObj (ι k).b).run P w = .ok (.map ents clock) w := by simp [getObj, Sem.run, hw]
      simp [Builtin.len_, underlying, hu, hg, goInt, hsz]
    | _ => rw [hob] at hm; simp [LO.isMap] at hm
  · rename_i es
    subst hc
    obtain ⟨k', e, hu⟩ : ∃ k e, P.underlying t = some (.map k e) := by simpa using ht
    cases hx.rmp_inv with
    | rmp _ b ents clock hb h2 h3 h4 h5 =>
      refine ⟨trivial, .int .i64 es.length, ?_, rv_sc rfl⟩
      have hg : (getObj b).run P w = .ok (.map ents clock) w := by simp [getObj, Sem.run, hr.ro _ _ hb]
      simp [Builtin.len_, underlying, hu, hg, goInt, h2]
  · exact hc.elim

theorem sliceBound_ok {x : Value} {k : IntKind} {i : Int} {y : Nat} {c : BoundsCode} (hx : x = .int k i) (h0 : 0 ≤ i) (h1 : i ≤ y) : (Instr.sliceBound x y c).run P w = .ok i.toNat w := by
  subst hx
  simp [Instr.sliceBound, asIntOf, h0, h1]

theorem bnd_inv {o : Option LV} {v : Option Value} (hb : bndOk o) (hv : ∀ x y, o = some x → v = some y → Rv R ι h x y) (hn : o = none ↔ v = none) :
    (o = none ∧ v = none) ∨ ∃ k i, o = some (.sc (.int k i)) ∧ v = some (.int k i) := by
  unfold bndOk at hb
  split at hb
  · left; exact ⟨rfl, hn.1 rfl⟩
  · rename_i k i
    cases hvv : v with
    | none => have := hn.2 hvv; simp at this
    | some y =>
      right
      have := (hv _ y rfl hvv).sc_inv.1
      exact ⟨k, i, rfl, by rw [this]⟩
  · exact hb.elim

theorem bounds_ok {isS : Bool} {n cap : Nat} {lo hi : Option LV} {vlo vhi : Option Value} (hnc : n ≤ cap)
    (hlo : (lo = none ∧ vlo = none) ∨ ∃ k i, lo = some (.sc (.int k i)) ∧ vlo = some (.int k i)) (hhi : (hi = none ∧ vhi = none) ∨ ∃ k i, hi = some (.sc (.int k i)) ∧ vhi = some (.int k i))
    (h0 : 0 ≤ loOf lo) (h1 : loOf lo ≤ hiOf n hi) (h2 : hiOf n hi ≤ n) :
    (Instr.sliceBounds isS n cap vlo vhi none).run P w = .ok ((loOf lo).toNat, (hiOf n hi).toNat, cap) w := by
  rcases hlo with ⟨rfl, rfl⟩ | ⟨k, i, rfl, rfl⟩ <;> rcases hhi with ⟨rfl, rfl⟩ | ⟨k', j, rfl, rfl⟩ <;> simp only [loOf, hiOf] at h0 h1 h2 ⊢
  · simp [Instr.sliceBounds]
  · simp only [Instr.sliceBounds, Sem.run_bind, Sem.run_pure, Result.andThen_ok]
    rw [sliceBound_ok rfl (by omega) (by omega)]; rfl
  · simp only [Instr.sliceBounds, Sem.run_bind, Sem.run_pure, Result.andThen_ok]
    rw [sliceBound_ok rfl (by omega) (by omega)]; simp
  · simp only [Instr.sliceBounds, Sem.run_bind, Sem.run_pure, Result.andThen_ok]
    rw [sliceBound_ok rfl (by omega) (by omega)]
    simp only [Result.andThen_ok]
    rw [sliceBound_ok rfl (by omega) (by omega)]; rfl

theorem slcs_ok {t : TypeId} {x : LV} {lo hi : Option LV} {vx : Value} {vlo vhi : Option Value} (ht : P.underlying t = some .string) (hx : Rv R ι h x vx)
    (hlo : ∀ a b, lo = some a → vlo = some b → Rv R ι h a b) (hlo' : lo = none ↔ vlo = none) (hhi : ∀ a b, hi = some a → vhi = some b → Rv R ι h a b) (hhi' : hi = none ↔ vhi = none)
    (hc : slcsC true lo hi x) : ∃ v, (Instr.sliceAt t vx vlo vhi none).run P w = .ok v w ∧ Rv R ι h (slcsV lo hi x) v := by
  unfold slcsC at hc
  split at hc
  · rename_i s
    obtain ⟨hb1, hb2, hc⟩ := hc
    obtain ⟨h0, h1, h2⟩ := hc rfl
    obtain ⟨rfl, _⟩ := hx.sc_inv
    refine ⟨_, ?_, rv_sc rfl⟩
    have hbs := bounds_ok (P := P) (w := w) (isS := false) (n := s.size) (cap := s.size) (Nat.le_refl _) (bnd_inv hb1 hlo hlo') (bnd_inv hb2 hhi hhi') h0 h1 h2
    simp [Instr.sliceAt, Instr.slice, underlying, ht, hbs]
  · exact hc.elim

theorem sizeO_ok {e : TypeId} {z : Nat} (hz : sizeO P e = some z) : (sizeOf e).run P w = .ok z w := by
  unfold sizeO at hz
  simp only [sizeOf, typeInfo, Sem.run_bind, run_program, Result.andThen_ok]
  cases hi : P.info? e <;> simp_all

theorem slc_ok {t e : TypeId} {sz : Nat} {x : LV} {lo hi : Option LV} {vx : Value} {vlo vhi : Option Value} (ht : P.underlying t = some (.slice e)) (hz : sizeO P e = some sz) (hx : Rv R ι h x vx)
    (hlo : ∀ a b, lo = some a → vlo = some b → Rv R ι h a b) (hlo' : lo = none ↔ vlo = none) (hhi : ∀ a b, hi = some a → vhi = some b → Rv R ι h a b) (hhi' : hi = none ↔ vhi = none)
    (hc : slcC true sz lo hi x) : ∃ v, (Instr.sliceAt t vx vlo vhi none).run P w = .ok v w ∧ Rv R ι h (slcV lo hi x) v := by
  unfold slcC at hc
  split at hc
  · rename_i sz' n f
    obtain ⟨rfl, hb1, hb2, hc⟩ := hc
    obtain ⟨h0, h1, h2⟩ := hc rfl
    cases hx.rsl_inv with
    | rsl _ _ _ a cap b o g hcp hm ha hf hcell hv hp =>
      have hbs := bounds_ok (P := P) (w := w) (isS := true) hcp (bnd_inv hb1 hlo hlo') (bnd_inv hb2 hhi hhi') h0 h1 h2
      refine ⟨.slice (if cap = (loOf lo).toNat then a else a.map (·.add ((loOf lo).toNat * sz'))) ((hiOf n hi).toNat - (loOf lo).toNat) (cap - (loOf lo).toNat), ?_, ?_⟩
      · simp [Instr.sliceAt, Instr.slice, underlying, ht, hbs, sizeO_ok hz]
      · simp only [slcV]
        refine .ro (.rsl _ _ _ _ _ b (o + (loOf lo).toNat * sz') (fun i j => g ((loOf lo).toNat + i) j) (by omega) (by omega) ?_ ?_ ?_ ?_ ?_)
        · intro hn
          rw [if_neg (by omega), ha (by omega)]
          simp [add_mk]
        · intro i hi; exact hf _ (by omega)
        · intro i j hi hj
          rw [← hcell ((loOf lo).toNat + i) j (by omega) hj]
          congr 1
          rw [Nat.add_mul]; omega
        · intro i j c hi hj; exact hv _ _ _ (by omega) hj
        · intro i j hi hj; exact hp _ _ (by omega) hj
  · rename_i k ver sz' off n
    obtain ⟨rfl, hb1, hb2, hc⟩ := hc
    obtain ⟨h0, h1, h2⟩ := hc rfl
    obtain ⟨a, cap, rfl, hk, hver, hcp, hm, hcase⟩ := hx.sl_inv
    have hbs := bounds_ok (P := P) (w := w) (isS := true) hcp (bnd_inv hb1 hlo hlo') (bnd_inv hb2 hhi hhi') h0 h1 h2
    refine ⟨.slice (if cap = (loOf lo).toNat then a else a.map (·.add ((loOf lo).toNat * sz'))) ((hiOf n hi).toNat - (loOf lo).toNat) (cap - (loOf lo).toNat), ?_, ?_⟩
    · simp [Instr.sliceAt, Instr.slice, underlying, ht, hbs, sizeO_ok hz]
    · simp only [slcV]
      refine .sl _ _ _ _ _ _ _ hk hver (by omega) (by omega) ?_
      by_cases he : cap = (loOf lo).toNat
      · left; omega
      · right
        intro hv
        rcases hcase with h9 | h9
        · omega
        · obtain ⟨h10, h11⟩ := h9 hv
          rw [if_neg he, h10]
          refine ⟨by simp [add_mk, Nat.add_mul, Nat.add_assoc], ?_⟩
          refine Nat.le_trans (Nat.mul_le_mul_right _ ?_) h11
          omega
  · exact hc.elim

theorem fad_ok {t : TypeId} {fs : Array Field} {i z : Nat} {f : Field} {x : LV} {vx : Value} (ht : P.underlying t = some (.struct fs)) (hf : fs[i]? = some f) (hz : sizeO P f.type = some (z + 1)) (hx : Rv R ι h x vx)
    (hc : fadC f.offset x) : ∃ v, (Instr.fieldAt t vx i).run P w = .ok v w ∧ Rv R ι h (fadV f.offset x) v := by
  have key : ∀ b o, (Instr.fieldAt t (.pointer (some ⟨b, o, none⟩)) i).run P w = .ok (.pointer (some ⟨b, o + f.offset, none⟩)) w := by
    intro b o
    simp [Instr.fieldAt, underlying, ht, hf, Instr.sureAddr, fieldPlace, sizeO_ok hz, add_mk]
  unfold fadC at hc
  split at hc
  · rename_i cs
    cases hx.rptr_inv with
    | rptr _ b o g hcell hv hp =>
      refine ⟨_, key b o, .ro (.rptr _ b (o + f.offset) (fun j => g (f.offset + j)) ?_ ?_ ?_)⟩
      · intro j hj; simp at hj; rw [← hcell (f.offset + j) (by omega)]; congr 1; omega
      · intro j c hj; rw [List.getElem?_drop] at hj; exact hv _ _ hj
      · intro j hj; simp at hj; exact hp _ (by omega)
  · rename_i k ver sz j c
    obtain ⟨a, rfl, hk, hver, ha⟩ := hx.ptr_inv
    have key2 : ∃ a', (Instr.fieldAt t (.pointer (some a)) i).run P w = .ok (.pointer (some a')) w ∧ a' = a.add f.offset :=
      ⟨_, by simp [Instr.fieldAt, underlying, ht, hf, Instr.sureAddr, fieldPlace, sizeO_ok hz], rfl⟩
    obtain ⟨a', h1, rfl⟩ := key2
    refine ⟨_, h1, .ptr _ _ _ _ _ _ hk hver fun e => ?_⟩
    rw [ha e, add_mk]; congr 1; omega
  · exact hc.elim

theorem iad_ok {t e : TypeId} {sz : Nat} {x i : LV} {vx vi : Value} (ht : P.underlying t = some (.slice e)) (hz : sizeO P e = some sz) (hx : Rv R ι h x vx) (hi : Rv R ι h i vi) (hc : iadC h true sz x i) :
    ∃ v, (Instr.indexAt t vx vi).run P w = .ok v w ∧ Rv R ι h (iadV x i) v := by
  unfold iadC at hc
  split at hc
  · rename_i sz' n f k i
    obtain ⟨rfl, hc⟩ := hc
    obtain ⟨h0, h1⟩ := hc rfl
    obtain ⟨rfl, _⟩ := hi.sc_inv
    have hlt : i.toNat < n := by omega
    cases hx.rsl_inv with
    | rsl _ _ _ a cap b o g hcp hm ha hf hcell hv hp =>
      have := ha (by omega)
      subst this
      refine ⟨.pointer (some ⟨b, o + i.toNat * sz', none⟩), ?_, .ro (.rptr _ _ _ (fun j => g i.toNat j) ?_ ?_ ?_)⟩
      · simp [Instr.indexAt, asIntOf, underlying, ht, h0, h1, sizeO_ok hz, add_mk]
      · intro j hj; rw [hf _ hlt] at hj; exact hcell _ _ hlt hj
      · intro j c hj; exact hv _ _ _ hlt hj
      · intro j hj; rw [hf _ hlt] at hj; exact hp _ _ hlt hj
  · rename_i k ver sz' off n k' i
    obtain ⟨rfl, _, hv, hc⟩ := hc
    obtain ⟨h0, h1⟩ := hc rfl
    obtain ⟨rfl, _⟩ := hi.sc_inv
    obtain ⟨a, cap, rfl, hk, hver, hcp, hm, hcase⟩ := hx.sl_inv
    rcases hcase with h9 | h9
    · omega
    · obtain ⟨rfl, _⟩ := h9 hv.symm
      refine ⟨.pointer (some ⟨(ι k).b, (ι k).o + off * sz' + i.toNat * sz', none⟩), ?_, .ptr _ _ _ _ _ _ hk hver fun _ => ?_⟩
      · simp [Instr.indexAt, asIntOf, underlying, ht, h0, h1, sizeO_ok hz, add_mk]
      · congr 1; rw [Nat.add_mul]; omega
  · exact hc.elim

theorem iada_ok {t e : TypeId} {len sz : Nat} {x i : LV} {vx vi : Value} (ht : P.underlying t = some (.array len e)) (hz : sizeO P e = some sz) (hx : Rv R ι h x vx) (hi : Rv R ι h i vi) (hc : iadaC true len sz x i) :
    ∃ v, (Instr.indexAt t vx vi).run P w = .ok v w ∧ Rv R ι h (iadaV sz x i) v := by
  unfold iadaC at hc
  split at hc
  · rename_i cs k i
    obtain ⟨⟨h0, h1⟩, h2⟩ := hc rfl
    obtain ⟨rfl, _⟩ := hi.sc_inv
    cases hx.rptr_inv with
    | rptr _ b o g hcell hv hp =>
      refine ⟨.pointer (some ⟨b, o + i.toNat * sz, none⟩), ?_, .ro (.rptr _ _ _ (fun j => g (i.toNat * sz + j)) ?_ ?_ ?_)⟩
      · simp [Instr.indexAt, asIntOf, underlying, ht, h0, h1, Instr.sureAddr, sizeO_ok hz, add_mk]
      · intro j hj; simp at hj; rw [← hcell (i.toNat * sz + j) (by omega)]; congr 1; omega
      · intro j c hj; rw [List.getElem?_drop] at hj; exact hv _ _ hj
      · intro j hj; simp at hj; exact hp _ (by omega)
  · rename_i k ver sz' j c k' i
    obtain ⟨h0, h1⟩ := hc rfl
    obtain ⟨rfl, _⟩ := hi.sc_inv
    obtain ⟨a, rfl, hk, hver, ha⟩ := hx.ptr_inv
    refine ⟨.pointer (some (a.add (i.toNat * sz))), ?_, .ptr _ _ _ _ _ _ hk hver fun e => ?_⟩
    · simp [Instr.indexAt, asIntOf, underlying, ht, h0, h1, Instr.sureAddr, sizeO_ok hz]
    · rw [ha e, add_mk]; congr 1; omega
  · exact hc.elim

theorem ld_ok (hr : Rep R ι h B w) {t : TypeId} {n : Option Nat} {x : LV} {vx : Value} (hk : ldK P t = some n) (hx : Rv R ι h x vx) (hc : ldC true n h x) :
    ∃ v, (Instr.loadAt t vx).run P w = .ok v w ∧ Rv R ι h (ldV n h x) v := by
  unfold ldC at hc
  split at hc
  · rename_i cs
    cases hx.rptr_inv with
    | rptr _ b o g hcell hv hp =>
      exact ld_cells hk (hc rfl) fun j c hj => ⟨g j, ro_cell hr (hcell j (List.getElem?_eq_some_iff.1 hj).1), .ro (hv j c hj), hp j (List.getElem?_eq_some_iff.1 hj).1⟩
  · rename_i k ver sz i c
    obtain ⟨_, hver, hc⟩ := hc
    obtain ⟨b, o, cs, rfl, hcs, hp, he⟩ := cellsOk_at hr hx hver hc
    obtain ⟨v, h1, h2⟩ := ld_cells (P := P) hk hp hcs
    exact ⟨v, h1, by simp only [ldV]; rw [← he]; exact h2⟩
  · exact hc.elim

theorem opt_rel (hs : ∀ x, Rv R ι h (oev s x) (ρ x)) {lo : Option Operand} (hc : ∀ y, lo = some y → opC true s y) :
    (∀ a b, lo.map (op1 s) = some a → lo.map ρ = some b → Rv R ι h a b) ∧ (lo.map (op1 s) = none ↔ lo.map ρ = none) := by
  cases lo with
  | none => exact ⟨fun a b h => by simp at h, by simp⟩
  | some y => exact ⟨fun a b h1 h2 => by simp at h1 h2; subst h1; subst h2; exact op1_ok hs rfl (hc y rfl), by simp⟩

theorem setL_len (cs : List LV) (o : Nat) (xs : List LV) : (setL cs o xs).length = cs.length := by
  induction xs generalizing cs o with
  | nil => rfl
  | cons x r ih => simp [setL, ih]

/-- Cells in an array that stand for a list. -/
def ArrOk (R : RO) (ι : IM) (h : LH) (cs : List LV) (vs : Array Value) : Prop :=
  vs.size = cs.length ∧ (∀ i c, cs[i]? = some c → Rv R ι h c (vs.getD i undef)) ∧ ∀ i, i < vs.size → plainV (vs.getD i undef) = true

theorem getD_set {vs : Array Value} {i j : Nat} {v : Value} : (vs.setIfInBounds i v).getD j undef = if i = j ∧ i < vs.size then v else vs.getD j undef := by
  simp only [Array.getD_eq_getD_getElem?, Array.getElem?_setIfInBounds]
  by_cases e : i = j
  · subst e
    by_cases hl : i < vs.size <;> simp [hl]
  · simp [e]

theorem ArrOk.set {cs : List LV} {vs : Array Value} (ha : ArrOk R ι h cs vs) {i : Nat} (hi : i < cs.length) {c : LV} {v : Value} (hc : Rv R ι h c v) (hp : plainV v = true) : ArrOk R ι h (cs.set i c) (vs.setIfInBounds i v) := by
  obtain ⟨h1, h2, h3⟩ := ha
  refine ⟨by simp [h1], fun j d hj => ?_, fun j hj => ?_⟩
  · rw [getD_set, h1]
    by_cases e : i = j
    · subst e
      rw [List.getElem?_set_self hi] at hj
      injection hj with hj
      subst hj
      simp [hi, hc]
    · rw [List.getElem?_set_ne e] at hj
      simp only [e, false_and, if_false]
      exact h2 j d hj
  · rw [getD_set]
    split
    · exact hp
    · exact h3 j (by simpa using hj)

theorem foldl_set {cs : List LV} {vs : Array Value} (ha : ArrOk R ι h cs vs) (off : Nat) : ∀ (xs : List LV) (us : List Value) (k : Nat), us.length = xs.length → (∀ i c, xs[i]? = some c → Rv R ι h c (us.getD i undef)) → (∀ i, i < us.length → plainV (us.getD i undef) = true) →
    off + k + xs.length ≤ cs.length → ArrOk R ι h (setL cs (off + k) xs) ((us.zipIdx k).foldl (fun a (c, j) => a.setIfInBounds (off + j) c) vs) := by
  intro xs
  induction xs generalizing cs vs with
  | nil => intro us k hl _ _ _; cases us with
    | nil => exact ha
    | cons => simp at hl
  | cons x r ih =>
    intro us k hl hc hp hlen
    cases us with
    | nil => simp at hl
    | cons u us =>
      simp only [List.zipIdx_cons, List.foldl_cons, setL]
      have h0 := hc 0 x rfl
      have hp0 := hp 0 (by simp)
      simp only [List.length_cons] at hlen hl
      have := ih (ha.set (i := off + k) (by omega) h0 hp0) us (k + 1) (by omega) (fun i c hi => by
        have := hc (i + 1) c (by simpa using hi); simpa using this) (fun i hi => by have := hp (i + 1) (by simpa using hi); simpa using this) (by simp; omega)
      exact this

theorem fill_ok (pl : Nat → Option (Nat × Nat)) (hs : ∀ x, Rv R ι h (oev s x) (ρ x)) : ∀ (parts : List (Nat × Operand)) (l : List (Nat × Nat × Operand)) (cs : List LV) (vs : Array Value), partsO pl parts = some l → opLC true s l → fillC cs.length (opL s l) → ArrOk R ι h cs vs →
    ∃ us, Instr.fill pl vs (parts.map fun (i, x) => (i, ρ x)) = some us ∧ ArrOk R ι h (fillV cs (opL s l)) us := by
  intro parts
  induction parts with
  | nil => intro l cs vs hl _ _ ha; simp only [partsO, Option.some.injEq] at hl; subst hl; exact ⟨vs, rfl, ha⟩
  | cons p r ih =>
    intro l cs vs hl hoc hf ha
    obtain ⟨i, x⟩ := p
    simp only [partsO] at hl
    cases hp : pl i with
    | none => rw [hp] at hl; simp at hl
    | some oz =>
      obtain ⟨o, z⟩ := oz
      rw [hp] at hl
      cases hr : partsO pl r with
      | none => rw [hr] at hl; simp at hl
      | some l' =>
        rw [hr] at hl
        simp only [Option.some.injEq] at hl
        subst hl
        obtain ⟨hx, hoc⟩ := hoc
        obtain ⟨hok, hlen, hle, hf⟩ := hf
        have hrv := op1_ok hs rfl hx
        obtain ⟨hsz, hc, hpl⟩ := hrv.flat hok
        have harr : ArrOk R ι h (setL cs o (flat (op1 s x))) ((ρ x).cells.toList.zipIdx.foldl (fun a (c, j) => a.setIfInBounds (o + j) c) vs) := by
          have := foldl_set ha o (flat (op1 s x)) (ρ x).cells.toList 0 (by simpa using hsz) (fun i c hi => by
            have := hc i c hi
            rw [Array.getD_eq_getD_getElem?] at this
            rw [List.getD_eq_getElem?_getD]; simpa using this) (fun i hi => by
            have := hpl i (by simpa using hi)
            rw [Array.getD_eq_getD_getElem?] at this
            rw [List.getD_eq_getElem?_getD]; simpa using this) (by omega)
          exact this
        obtain ⟨us, h1, h2⟩ := ih l' (setL cs o (flat (op1 s x))) _ hr hoc (by rw [setL_len]; exact hf) harr
        refine ⟨us, ?_, h2⟩
        simp only [List.map_cons, Instr.fill, hp]
        rw [if_neg]
        · rw [← Array.foldl_toList] at *
          simpa using h1
        · simp only [Bool.not_eq_true, Bool.or_eq_false_iff, decide_eq_false_iff_not]
          have := ha.1
          constructor
          · simp; omega
          · omega

end
end Go.Proofs.Ytfhifkcbdpgomaa
