/- The lifted layer, part 12: operations that make or change memory are what the model runs. Conditions: none. -/
import Derived.Test.YtfhifkcbdpgomaaL11
namespace Go.Proofs.Ytfhifkcbdpgomaa
set_option linter.unusedSimpArgs false
set_option linter.unusedVariables false
open Go.RowKit

section
variable {P : Program} {R : RO} {ι : IM} {h : LH} {B : Nat} {w : World} {s : LS} {ρ : Operand → Value}

theorem kindZ_le {z : List Value} : kindZ z = 0 ∨ kindZ z = 1 ∨ kindZ z = 2 := by
  unfold kindZ
  split
  · unfold zk
    split <;> (try split) <;> simp
  · simp

theorem eff_ok {dr : Bool} (hr : Rep R ι h B w) (hB : B ≤ w.heap.size) (hs : ∀ x, Rv R ι h (oev s x) (ρ x)) {o : Oper} {lo : LEf} (hc : cEf dr P o.op = some lo) {r : LV} {h' : LH} (hv : eff P s h lo r h') :
    Ends P B R ι h w ((execOp ρ o).run P w) r h' := by
  obtain ⟨dst, op, ty, pos, after, guard⟩ := o
  simp only at hc
  have H1 : ∀ x, opC true s x → Rv R ι h (op1 s x) (ρ x) := fun x hx => op1_ok hs rfl hx
  cases op with
  | store t x v =>
    simp only [cEf, Option.map_eq_some_iff] at hc
    obtain ⟨n, hn, rfl⟩ := hc
    simp only [eff] at hv
    split at hv
    · rename_i k ver sz i c hx
      obtain ⟨h1, h2, h3, h4, h5, h6, h7, rfl, rfl⟩ := hv
      have hxr := H1 x h1
      rw [hx] at hxr
      obtain ⟨a, ha, _, _, hpl⟩ := hxr.ptr_inv
      obtain ⟨g1, g2, g3⟩ := (H1 v h2).flat h3
      obtain ⟨w', s1, s2⟩ := stN_ok (P := P) (flat (op1 s v)) (ρ v).cells.toList c 0 hr hB h5 h6 (hpl h6.symm) (by simpa using g1) (fun q y hq => by
        have := g2 q y hq
        rw [Array.getD_eq_getD_getElem?] at this
        rw [List.getD_eq_getElem?_getD]; simpa using this) (by simpa using h7)
      left
      refine ⟨undef, w', R, ι, .inr ⟨?_, rfl⟩, by simpa using s2, .any _⟩
      have hsz : ¬ (ρ v).cells.size ≠ n := by omega
      simp only [execOp, Sem.run_bind, Instr.storeAt, ha, Instr.sureAddr, Sem.run_pure, Result.andThen_ok, storeVar, sizeO_ok hn]
      rw [if_neg hsz]
      simp only [s1, Sem.run_bind, Sem.run_pure, Result.andThen_ok]
    · exact hv.elim
  | alloc t =>
    simp only [cEf, Option.map_eq_some_iff] at hc
    obtain ⟨z, hz, rfl⟩ := hc
    obtain ⟨rfl, rfl⟩ := hv
    obtain ⟨zv, z1, z2, z3⟩ := zero_arr (P := P) (R := R) (ι := ι) (h := h) (w := w) hz
    obtain ⟨v', w', ι', e1, e2, e3⟩ := newVar_ok (P := P) hr hB (t := t) (v := zv) z3.1 z3.2.1 z3.2.2
    left
    refine ⟨v', w', R, ι', .inl ?_, e2, e3⟩
    simp only [execOp, Sem.run_bind, Instr.alloc, z1, Result.andThen_ok]
    simp only [Sem.run_bind] at e1
    rw [e1]; rfl
  | box t x =>
    simp only [cEf, Option.some.injEq] at hc
    subst hc
    obtain ⟨h1, h2, rfl, rfl⟩ := hv
    obtain ⟨g1, g2, g3⟩ := (H1 x h1).flat h2
    obtain ⟨v', w', ι', e1, e2, e3⟩ := newVar_ok (P := P) hr hB (t := t) (v := ρ x) g1 g2 g3
    left
    refine ⟨v', w', R, ι', .inl ?_, e2, e3⟩
    simp only [execOp, Sem.run_bind, Instr.box]
    simp only [Sem.run_bind] at e1
    rw [e1]; rfl
  | makeSlice t l c =>
    simp only [cEf] at hc
    split at hc
    · rename_i e hu
      split at hc
      · rename_i sz by' z hsz hby hz
        split at hc
        · rename_i hcond
          obtain ⟨hl, h0, hb1⟩ := hcond
          injection hc with hc
          subst hc
          obtain ⟨h1, h2, h3, h4, ⟨m1, m2, m3, m4⟩, rfl, rfl⟩ := hv
          obtain ⟨li, hli⟩ := isI64_inv h3
          obtain ⟨ci, hci⟩ := isI64_inv h4
          have hlv := H1 l h1
          have hcv := H1 c h2
          rw [hli] at hlv ⊢
          rw [hci] at hcv
          rw [hli] at m1 m2
          rw [hci] at m2 m3 m4
          simp only [intOfV] at m1 m2 m3 m4 ⊢
          have hlv' := hlv.sc_inv.1
          have hcv' := hcv.sc_inv.1
          obtain ⟨zv, z1, z2, z3⟩ := zeroCells_ok (P := P) (w := w) hz
          obtain ⟨w', ι', e1, e2, e3⟩ := newRep_ok (P := P) hr hB (e := e) (l := li.toNat) (c := ci.toNat) z2 rfl hl z3 (by omega) (by unfold maxLen; omega) h0
          obtain ⟨inf, hinf, hbytes⟩ : ∃ i, P.info? e = some i ∧ i.bytes = by' := by
            unfold bytesO at hby
            cases hi : P.info? e with
            | none => rw [hi] at hby; simp at hby
            | some i => rw [hi] at hby; simp at hby; exact ⟨i, rfl, hby⟩
          left
          refine ⟨_, w', R, ι', .inl ?_, e2, e3⟩
          have hzi : inf.zero = some zv := by
            simp only [zeroValue, typeInfo, Sem.run_bind, run_program, Result.andThen_ok, hinf, Sem.run_pure] at z1
            cases hq : inf.zero with
            | none => rw [hq] at z1; simp at z1
            | some v => rw [hq] at z1; simp at z1; rw [z1]
          have hisz : inf.size = sz := by
            unfold sizeO at hsz
            rw [hinf] at hsz; simpa using hsz
          have hmk := run_make (P := P) w t e inf zv hu hinf hzi .i64 .i64 li ci m1 m2 (by
            have e9 : (inf.bytes : Int) * ci = ((by' * ci.toNat : Nat) : Int) := by
              rw [Int.natCast_mul, hbytes]; congr 1; omega
            rw [e9]; omega) (by omega)
          rw [hisz] at hmk
          simp only [newRow, Sem.run_bind, run_newObj, Result.andThen_ok, Sem.run_pure, Result.ok.injEq] at e1
          simp only [execOp, Sem.run_bind, hlv', hcv', hmk, Result.andThen_ok, Sem.run_pure, Result.ok.injEq, true_and]
          exact e1.2
        · simp at hc
      · simp at hc
    · simp at hc
  | buildSlice t len parts =>
    simp only [cEf] at hc
    split at hc
    · rename_i e hu
      split at hc
      · rename_i sz z hsz hz
        split at hc
        · rename_i hcond
          obtain ⟨hl, h0, hmax⟩ := hcond
          simp only [Option.map_eq_some_iff] at hc
          obtain ⟨l, hpl, rfl⟩ := hc
          cases dr with
          | false =>
            simp only [cond_false] at hv
            obtain ⟨h1, h2, h3, rfl, rfl⟩ := hv
            obtain ⟨zv, z1, z2, z3⟩ := zeroCells_ok (P := P) (w := w) hz
            have harr := repZ_ok (R := R) (ι := ι) (h := h) (n := len) z2 hl z3 h0
            have hrl : (repZ len sz z).length = len * sz := by simp [repZ]
            obtain ⟨us, u1, u2⟩ := fill_ok (R := R) (ι := ι) (h := h) (s := s) (ρ := ρ) (fun i => some (i * sz, sz)) hs parts.toList l _ _ hpl h1 (by rw [hrl]; exact h2) harr
            have hfl : ∀ (ps : List (Nat × Nat × LV)) (cs : List LV), (fillV cs ps).length = cs.length := by
              intro ps
              induction ps with
              | nil => intro cs; rfl
              | cons p r ih => intro cs; obtain ⟨o, z', v⟩ := p; simp only [fillV]; rw [ih, setL_len]
            obtain ⟨w', ι', e1, e2, e3⟩ := newLit_ok (P := P) hr hB (e := e) (kd := kindZ z) (n := len) u2 (by rw [hfl, hrl]) h3 (ykC_type rfl hl) (by
              unfold maxLen
              have := Nat.mul_le_mul_left len (show 1 ≤ sz from h0)
              omega)
            left
            refine ⟨_, w', R, ι', .inl ?_, e2, e3⟩
            have hnm : ¬ len * sz > 2 ^ 24 := by omega
            simp only [newRow, Sem.run_bind, run_newObj, Result.andThen_ok, Sem.run_pure, Result.ok.injEq] at e1
            by_cases hn : len * sz = 0
            · have hl0 : len = 0 := by
                rcases Nat.mul_eq_zero.1 hn with e | e
                · exact e
                · omega
              subst hl0
              have hu1 : Instr.fill (fun i => some (i * sz, sz)) #[] (parts.toList.map fun x => (x.1, ρ x.2)) = some us := by
                rw [← u1]; congr 1
                apply Array.ext'
                simp
              have hbs : (Instr.buildSlice t 0 (parts.map fun (i, x) => (i, ρ x))).run P w = .ok (.slice (some ⟨w.heap.size, 0, none⟩) 0 0) w' := by
                rw [← e1.2]
                simp [Instr.buildSlice, run_underlying hu, sizeO_ok hsz, hu1, newRow, Array.range_zero']
              simp only [execOp, Sem.run_bind, hbs, Result.andThen_ok, Sem.run_pure]
            · have hbs : (Instr.buildSlice t len (parts.map fun (i, x) => (i, ρ x))).run P w = .ok (.slice (some ⟨w.heap.size, 0, none⟩) len len) w' := by
                simp only [Instr.buildSlice, Sem.run_bind, run_underlying hu, Result.andThen_ok, sizeO_ok hsz, hnm, if_false, if_neg hn, z1, Sem.run_pure, Array.toList_map, u1, newRow, run_newObj, Result.ok.injEq, true_and]
                exact e1.2
              simp only [execOp, Sem.run_bind, hbs, Result.andThen_ok, Sem.run_pure]
          | true =>
            simp only [cond_true] at hv
            obtain ⟨h1, h2, h3, ⟨f, hff, rfl⟩, rfl⟩ := hv
            obtain ⟨zv, z1, z2, z3⟩ := zeroCells_ok (P := P) (w := w) hz
            have harr := repZ_ok (R := R) (ι := ι) (h := h') (n := len) z2 hl z3 h0
            have hrl : (repZ len sz z).length = len * sz := by simp [repZ]
            obtain ⟨us, u1, u2⟩ := fill_ok (R := R) (ι := ι) (h := h') (s := s) (ρ := ρ) (fun i => some (i * sz, sz)) hs parts.toList l _ _ hpl h1 (by rw [hrl]; exact h2) harr
            have hfl : ∀ (ps : List (Nat × Nat × LV)) (cs : List LV), (fillV cs ps).length = cs.length := by
              intro ps
              induction ps with
              | nil => intro cs; rfl
              | cons p r ih => intro cs; obtain ⟨o, z', v⟩ := p; simp only [fillV]; rw [ih, setL_len]
            obtain ⟨w', R', e1, e2, e3⟩ := newRo_ok (P := P) hr hB (e := e) (n := len) (sz := sz) u2 (by rw [hfl, hrl]) h3 (by
              unfold maxLen
              have := Nat.mul_le_mul_left len (show 1 ≤ sz from h0)
              omega) hff
            left
            refine ⟨_, w', R', ι, .inl ?_, e2, .ro e3⟩
            have hnm : ¬ len * sz > 2 ^ 24 := by omega
            simp only [newRow, Sem.run_bind, run_newObj, Result.andThen_ok, Sem.run_pure, Result.ok.injEq] at e1
            by_cases hn : len * sz = 0
            · have hl0 : len = 0 := by
                rcases Nat.mul_eq_zero.1 hn with e | e
                · exact e
                · omega
              subst hl0
              have hu1 : Instr.fill (fun i => some (i * sz, sz)) #[] (parts.toList.map fun x => (x.1, ρ x.2)) = some us := by
                rw [← u1]; congr 1
                apply Array.ext'
                simp
              have hbs : (Instr.buildSlice t 0 (parts.map fun (i, x) => (i, ρ x))).run P w = .ok (.slice (some ⟨w.heap.size, 0, none⟩) 0 0) w' := by
                rw [← e1.2]
                simp [Instr.buildSlice, run_underlying hu, sizeO_ok hsz, hu1, newRow, Array.range_zero']
              simp only [execOp, Sem.run_bind, hbs, Result.andThen_ok, Sem.run_pure]
            · have hbs : (Instr.buildSlice t len (parts.map fun (i, x) => (i, ρ x))).run P w = .ok (.slice (some ⟨w.heap.size, 0, none⟩) len len) w' := by
                simp only [Instr.buildSlice, Sem.run_bind, run_underlying hu, Result.andThen_ok, sizeO_ok hsz, hnm, if_false, if_neg hn, z1, Sem.run_pure, Array.toList_map, u1, newRow, run_newObj, Result.ok.injEq, true_and]
                exact e1.2
              simp only [execOp, Sem.run_bind, hbs, Result.andThen_ok, Sem.run_pure]
        · simp at hc
      · simp at hc
    · simp at hc
  | call c =>
    obtain ⟨callee, args, tys⟩ := c
    simp only [cEf] at hc
    split at hc
    · rename_i x y t t' ha ht
      split at hc
      · rename_i heq
        subst heq
        have ha' : args = #[x, y] := by rw [← Array.toList_inj, ha]
        have ht' : tys = #[t, t] := by rw [← Array.toList_inj, ht]
        subst ha' ht'
        split at hc
        · rename_i e hu
          split at hc
          · rename_i sz by' z hsz hby hz
            split at hc
            · rename_i hcond
              obtain ⟨hl, h0, hb1⟩ := hcond
              injection hc with hc
              subst hc
              obtain ⟨h1, h2, h3, h4, h5⟩ := hv
              split at h5
              · rename_i k ver sz' off len hx
                obtain ⟨rfl, k1, k2, k3, k4, k5, rfl, rfl⟩ := h5
                have hxr := H1 x h1
                rw [hx] at hxr
                obtain ⟨v, w', ι', e1, e2, e3⟩ := app_ok (P := P) hr hB (ty := ty) hu hsz hby hb1 hz hl rfl h0 hxr (H1 y h2) k2 k3 k4 h3 h4 k5
                left
                refine ⟨v, w', R, ι', .inl ?_, e2, e3⟩
                simp [execOp, resolve, invoke, builtin, e1]
              · rename_i hx
                obtain ⟨k1, k2, rfl, rfl⟩ := h5
                have hxr := H1 x h1
                rw [hx] at hxr
                have hxn := hxr.nsl_inv
                obtain ⟨v, w', ι', e1, e2, e3⟩ := app_nil_ok (P := P) hr hB (ty := ty) hu hsz hby hb1 hz hl rfl h0 (H1 y h2) h3 h4 k2 k1
                left
                refine ⟨v, w', R, ι', .inl ?_, e2, e3⟩
                simp [execOp, resolve, invoke, builtin, hxn, e1]
              · exact h5.elim
            · simp at hc
          · simp at hc
        · simp at hc
      · simp at hc
    · rename_i f
      split at hc
      · rename_i hok
        injection hc with hc
        subst hc
        obtain ⟨h1, h2⟩ := hv
        right
        refine ⟨f, args.map ρ, ?_, ?_⟩
        · obtain ⟨vs, hvf, hvs, _⟩ := (hs (.func f)).fn_inv
          have hvs0 : vs = #[] := Array.eq_empty_of_size_eq_zero hvs
          subst hvs0
          simp [execOp, resolve, invoke, Deferred.ofValue, hvf, callFunc_ok hok]
        · have e : args.map ρ = (args.toList.map ρ).toArray := by rw [← Array.toList_inj]; simp
          rw [e]
          exact h2 B R ι w _ hB hr (by simp) (args_ok hs h1)
      · split at hc
        · injection hc with hc
          subst hc
          obtain ⟨h1, h2, rfl⟩ := hv
          have e : args.map ρ = (args.toList.map ρ).toArray := by rw [← Array.toList_inj]; simp
          obtain ⟨v, h3, h4⟩ := h2 R ι h' w (args.toList.map ρ).toArray (by simp) (args_ok hs h1)
          left
          refine ⟨v, w, R, ι, .inl ?_, Trans.refl hr hB, h4⟩
          obtain ⟨vs, hvf, hvs, _⟩ := (hs (.func f)).fn_inv
          have hvs0 : vs = #[] := Array.eq_empty_of_size_eq_zero hvs
          subst hvs0
          rw [← e] at h3
          simp [execOp, resolve, invoke, Deferred.ofValue, hvf, h3]
        · simp at hc
    · rename_i x _
      injection hc with hc
      subst hc
      obtain ⟨h1, h2, h3, h4, h5⟩ := hv
      have hxr := H1 x h1
      generalize hlx : op1 s x = lx at *
      cases lx with
      | fn f caps =>
        obtain ⟨vs, hvx, hvl, hvc⟩ := hxr.fn_inv
        simp only [fnOf, capsOf] at h4 h5
        right
        refine ⟨f, args.map ρ ++ vs, ?_, ?_⟩
        · simp [execOp, resolve, invoke, Deferred.ofValue, hvx, callFunc_ok h4]
        · have e : args.map ρ ++ vs = (args.toList.map ρ ++ vs.toList).toArray := by rw [← Array.toList_inj]; simp
          refine h5 B R ι w _ hB hr (by simp; omega) (fun i a hi => ?_)
          have hal := args_ok hs h2
          by_cases hlt : i < args.size
          · rw [List.getElem?_append_left (by simp; omega)] at hi
            have := hal i a hi
            rw [Array.getD_eq_getD_getElem?] at this ⊢
            rw [Array.getElem?_append_left (by simpa using hlt)]
            simpa using this
          · rw [List.getElem?_append_right (by simp; omega)] at hi
            have := hvc _ a hi
            rw [Array.getD_eq_getD_getElem?] at this ⊢
            rw [Array.getElem?_append_right (by simp; omega)]
            simpa using this
      | _ => exact h3.elim
    · simp at hc
  | panic x => simp only [cEf, Option.some.injEq] at hc; subst hc; exact hv.elim
  | makeInterface t x => simp only [cEf, Option.some.injEq] at hc; subst hc; exact hv.elim
  | makeMap t r0 =>
    cases r0 with
    | some x => simp [cEf] at hc
    | none =>
      simp only [cEf, Option.some.injEq] at hc
      subst hc
      obtain ⟨rfl, rfl⟩ := hv
      left
      refine ⟨.map (some w.heap.size), _, R, _, .inl ?_, hr.pushMap hB, .mp _ _ _ (by simp [LH.push]) (by simp [LH.push]) fun _ => by simp [updI]⟩
      simp [execOp, Instr.makeMap]
  | mapUpdate t m k v =>
    simp only [cEf] at hc
    split at hc
    · rename_i kt e hu
      split at hc
      · rename_i hkt
        injection hc with hc
        subst hc
        obtain ⟨h1, h2, h3, h4, h5⟩ := hv
        split at h5
        · rename_i a ver hm
          obtain ⟨k1, k2, k3, k4, rfl, rfl⟩ := h5
          have hmr := H1 m h1
          rw [hm] at hmr
          obtain ⟨b, ents, clock, hvm, hw, hsz, hn, hent⟩ := mapLive_ok hr hmr ⟨k1, k2, k3⟩
          simp only [mapE] at hsz hn hent
          have hkx := keyV_ok (H1 k h2) h4
          rw [hkx] at k4 ⊢
          have K := keyedB_ok hkt
          obtain ⟨lx, hlx⟩ := Option.isSome_iff_exists.1 k4.1
          have hchk := K.check w false hlx
          have hstay := K.stays w hlx
          have hvr := H1 v h3
          have hba : b = (ι a).b := by
            obtain ⟨b', e1, _, _, e2⟩ := hmr.mp_inv
            rw [hvm] at e1
            injection e1 with e1
            injection e1 with e1
            rw [e1]; exact e2 k2.symm
          obtain ⟨es, hes⟩ : ∃ es, (h.f a).2 = .map es := by
            cases hob : (h.f a).2 with
            | map es => exact ⟨es, rfl⟩
            | _ => rw [hob] at k3; simp [LO.isMap] at k3
          have hborn : ∀ (i : Nat) (en : MapEntry), ents[i]? = some en → en.born < clock := by
            obtain ⟨ents', clock', g1, _, g3, _⟩ := hr.maps a es k1 hes
            rw [hba] at hw
            rw [hw] at g1
            injection g1 with g1
            injection g1 with g1 g2
            subst g1 g2
            exact g3.1
          have hbs : b < w.heap.size := (Array.getElem?_eq_some_iff.1 hw).1
          have hset : ∀ (o : Obj), (setObj b o).run P w = .ok () { w with heap := w.heap.setIfInBounds b o } := by
            intro o; simp [setObj, Sem.run, hw]
          generalize hmo : mapO (h.f a).2 = eo at *
          rcases find_ok (P := P) (w := w) K hsz hn hent k4 with ⟨f1, _, f3⟩ | ⟨j, en, kv, f1, f2, f3, f4, f5, f6, _⟩
          · left
            have hT := hr.changeMap hB k1 (es' := mput eo (ρ k) (op1 s v)) (ents' := ents.push { key := ρ k, val := ρ v, born := clock }) (clock' := clock + 1) k3 (by rw [mput_none f3]; simp [hsz]) (fun i e he => by
              rw [Array.getElem?_push] at he
              split at he
              · injection he with he; rw [← he]; simp
              · have := hborn i e he; omega) (by
              rw [mput_none f3, List.map_append, List.nodup_append]
              refine ⟨hn, by simp, ?_⟩
              intro x hx y hy
              simp at hy
              obtain ⟨kv, hkv, rfl⟩ := List.mem_map.1 hx
              rw [hy]; exact f3 kv hkv) (fun i kv hi => by
              rw [mput_none f3] at hi
              by_cases hlt : i < eo.length
              · rw [List.getElem?_append_left hlt] at hi
                obtain ⟨e', q1, q2, q3⟩ := hent i kv hi
                refine ⟨e', ?_, q2, q3⟩
                rw [Array.getElem?_push, if_neg (by omega)]; exact q1
              · have hil : i = eo.length := by
                  have := (List.getElem?_eq_some_iff.1 hi).1
                  simp at this; omega
                subst hil
                simp at hi
                subst hi
                exact ⟨_, by rw [Array.getElem?_push, if_pos hsz.symm], rfl, hvr⟩)
            rw [k2] at hT
            refine ⟨undef, _, R, ι, .inr ⟨?_, rfl⟩, hT, .any _⟩
            rw [← hba]
            simp [execOp, Instr.mapUpdate, run_underlying hu, hvm, getObj_map hw, hchk, f1, hset]
          · left
            have hjl : j < eo.length := (List.getElem?_eq_some_iff.1 f4).1
            have hjs : j < ents.size := by omega
            have hT := hr.changeMap hB k1 (es' := mput eo (ρ k) (op1 s v)) (ents' := ents.modify j fun e => { e with key := ρ k, val := ρ v }) (clock' := clock) k3 (by rw [mput_some hn f4 f5]; simp [hsz]) (fun i e he => by
              rw [Array.getElem?_modify] at he
              split at he
              · simp only [Option.map_eq_some_iff] at he
                obtain ⟨e', he', rfl⟩ := he
                exact hborn i e' he'
              · exact hborn i e he) (by
              rw [mput_some hn f4 f5, List.map_set]
              have : (eo.map (·.1)).set j (ρ k) = eo.map (·.1) := by
                apply List.ext_getElem?
                intro q
                by_cases e : j = q
                · subst e
                  rw [List.getElem?_set_self (by simpa using hjl)]
                  simp [f4, f5]
                · rw [List.getElem?_set_ne e]
              rw [this]; exact hn) (fun i kv' hi => by
              rw [mput_some hn f4 f5] at hi
              by_cases e : j = i
              · subst e
                rw [List.getElem?_set_self hjl] at hi
                injection hi with hi
                subst hi
                refine ⟨{ en with key := ρ k, val := ρ v }, ?_, rfl, hvr⟩
                rw [Array.getElem?_modify, if_pos rfl, f2]; rfl
              · rw [List.getElem?_set_ne e] at hi
                obtain ⟨e', q1, q2, q3⟩ := hent i kv' hi
                refine ⟨e', ?_, q2, q3⟩
                rw [Array.getElem?_modify, if_neg e]; exact q1)
            rw [k2] at hT
            refine ⟨undef, _, R, ι, .inr ⟨?_, rfl⟩, hT, .any _⟩
            rw [← hba]
            have hkk : ((ents[j]?).map (·.key)).getD (ρ k) = ρ k := by rw [f2]; simpa using f3
            simp [execOp, Instr.mapUpdate, run_underlying hu, hvm, getObj_map hw, hchk, f1, hkk, hstay, hset]
        · exact h5.elim
      · simp at hc
    · simp at hc
  | _ => simp [cEf] at hc

end
end Go.Proofs.Ytfhifkcbdpgomaa
