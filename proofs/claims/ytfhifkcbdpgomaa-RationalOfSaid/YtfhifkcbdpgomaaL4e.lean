/- The lifted layer, part 4e: structs and arrays compared cell by cell. Conditions: none. -/
import Derived.Test.YtfhifkcbdpgomaaL4
import Derived.Laws.StructEq
import Derived.ChangeKeysEq
namespace Go.Proofs.Ytfhifkcbdpgomaa
set_option linter.unusedSimpArgs false
set_option linter.unusedVariables false
open Go.RowKit

def KM : List CK → List Value → Prop
  | [], [] => True
  | .i k :: r, .int k' _ :: q => k' = k ∧ KM r q
  | .b :: r, .bool _ :: q => KM r q
  | .s :: r, .string _ :: q => KM r q
  | _, _ => False
def valOf (P : Program) (t : TypeId) (x : Value) (cx : List Value) : Prop := (aggT P t = true ∧ x = .agg cx.toArray) ∨ (aggT P t = false ∧ cx = [x])

section
variable {P : Program} {w : World}

theorem KM_len : ∀ {ks : List CK} {cs : List Value}, KM ks cs → cs.length = ks.length
  | [], [], _ => rfl
  | .i k :: r, .int k' _ :: q, h => by simp [KM_len h.2]
  | .b :: r, .bool _ :: q, h => by simp [KM_len (ks := r) h]
  | .s :: r, .string _ :: q, h => by simp [KM_len (ks := r) h]
theorem KM_app : ∀ {a b : List CK} {cs : List Value}, KM (a ++ b) cs → KM a (cs.take a.length) ∧ KM b (cs.drop a.length)
  | [], b, cs, h => ⟨trivial, h⟩
  | .i k :: r, b, .int k' n :: q, h => by
    obtain ⟨h1, h2⟩ := KM_app (a := r) h.2
    exact ⟨⟨h.1, h1⟩, h2⟩
  | .b :: r, b, .bool _ :: q, h => KM_app (a := r) h
  | .s :: r, b, .string _ :: q, h => KM_app (a := r) h
theorem aggT_none {t : TypeId} (hk : ldK P t = some none) : aggT P t = false := by
  unfold ldK at hk
  unfold aggT
  cases hu : P.underlying t with
  | none => rfl
  | some d => rw [hu] at hk; cases d <;> cases hi : P.info? t <;> simp_all
theorem aggT_some {t : TypeId} {m : Nat} (hk : ldK P t = some (some m)) : aggT P t = true := by
  unfold ldK at hk
  unfold aggT
  cases hu : P.underlying t with
  | none => rw [hu] at hk; simp at hk
  | some d => rw [hu] at hk; cases d <;> cases hi : P.info? t <;> simp_all
theorem part_val {t : TypeId} {n : Option Nat} (hk : ldK P t = some n) {cx : List Value} {off : Nat} (hl : off + n.getD 1 ≤ cx.length) :
    ∃ v, (part t cx.toArray off).run P w = .ok v w ∧ valOf P t v ((cx.drop off).take (n.getD 1)) := by
  cases n with
  | none =>
    simp only [Option.getD_none] at hl ⊢
    have hlt : off < cx.toArray.size := by simp; omega
    refine ⟨cx[off]'(by omega), ?_, .inr ⟨aggT_none hk, ?_⟩⟩
    · simp only [part, Sem.run_bind, ldK_none hk, Result.andThen_ok, Bool.false_eq_true, if_false, Array.getElem?_eq_getElem hlt, Sem.run_pure]
      rfl
    · rw [List.drop_eq_getElem_cons (by omega)]; rfl
  | some m =>
    simp only [Option.getD_some] at hl ⊢
    refine ⟨.agg (cx.toArray.extract off (off + m)), ?_, .inl ⟨aggT_some hk, ?_⟩⟩
    · simp only [part, Sem.run_bind, (ldK_some hk).1, (ldK_some hk).2, Result.andThen_ok, if_true, Sem.run_pure]
    · congr 1
      apply Array.ext'
      simp only [Array.toList_extract, List.extract_eq_take_drop]
      rw [show off + m - off = m by omega]

def EqGood (P : Program) (dd : Nat) (t : TypeId) (ks : List CK) : Prop :=
  ∀ (w : World) (x y : Value) (cx cy : List Value), KM ks cx → KM ks cy → valOf P t x cx → valOf P t y cy → ∃ r, (Op.equalIn dd t x y).run P w = .ok r w ∧ (r = true ↔ cx = cy)

theorem eqFields_good {dd : Nat} {g : TypeId → Option (List CK)} (hg : ∀ t ks, g t = some ks → EqGood P dd t ks) (xs ys : List Value) : ∀ (fs : List Field) (off : Nat) (ks : List CK), eqKsF P g fs off = some ks → off ≤ xs.length → off ≤ ys.length →
    KM ks (xs.drop off) → KM ks (ys.drop off) → ∃ r, (Op.eqFields dd xs.toArray ys.toArray fs).run P w = .ok r w ∧ (r = true ↔ xs.drop off = ys.drop off)
  | [], off, ks, h, ox, oy, hx, hy => by
    simp only [eqKsF, Option.some.injEq] at h; subst h
    have h1 := KM_len hx
    have h2 := KM_len hy
    refine ⟨true, by simp [Op.eqFields], ?_⟩
    rw [List.length_eq_zero_iff.1 h1, List.length_eq_zero_iff.1 h2]
    simp
  | f :: r, off, ks, h, ox, oy, hx, hy => by
    simp only [eqKsF] at h
    split at h
    · rename_i a b n ha hb hn
      split at h
      · rename_i hc
        injection h with h; subst h
        obtain ⟨rfl, c2, c3, c4⟩ := hc
        obtain ⟨x1, x2⟩ := KM_app hx
        obtain ⟨y1, y2⟩ := KM_app hy
        have lx := KM_len hx
        have ly := KM_len hy
        simp only [List.length_append, List.length_drop] at lx ly
        obtain ⟨vx, p1, p2⟩ := part_val (w := w) hn (cx := xs) (off := f.offset) (by omega)
        obtain ⟨vy, q1, q2⟩ := part_val (w := w) hn (cx := ys) (off := f.offset) (by omega)
        rw [c4] at p2 q2
        obtain ⟨r1, e1, e2⟩ := hg _ _ ha w vx vy _ _ x1 y1 p2 q2
        rw [List.drop_drop, c3] at x2 y2
        obtain ⟨r2, e3, e4⟩ := eqFields_good hg xs ys r _ b hb (by omega) (by omega) x2 y2
        have hsplit : xs.drop f.offset = ys.drop f.offset ↔ (xs.drop f.offset).take a.length = (ys.drop f.offset).take a.length ∧ xs.drop (f.offset + P.cellsOf f.type) = ys.drop (f.offset + P.cellsOf f.type) := by
          rw [← c3, ← List.drop_drop, ← List.drop_drop]
          constructor
          · intro h; rw [h]; exact ⟨rfl, rfl⟩
          · rintro ⟨h1, h2⟩
            rw [← List.take_append_drop a.length (xs.drop f.offset), h1, h2, List.take_append_drop]
        cases r1
        · refine ⟨false, by simp [Op.eqFields, c2, p1, q1, e1], ?_⟩
          simp only [Bool.false_eq_true, false_iff]
          intro h
          have := e2.2 (hsplit.1 h).1
          simp at this
        · refine ⟨r2, by simp [Op.eqFields, c2, p1, q1, e1, e3], ?_⟩
          rw [e4, hsplit]
          exact ⟨fun h => ⟨e2.1 rfl, h⟩, fun h => h.2⟩
      · simp at h
    · simp at h

theorem eqItems_good {dd : Nat} {e : TypeId} {a : List CK} {z : Option Nat} (hg : EqGood P dd e a) (hz : ldK P e = some z) (hl : a.length = P.cellsOf e) (hz2 : z.getD 1 = a.length) (xs ys : List Value) : ∀ (n k : Nat), k * P.cellsOf e ≤ xs.length → k * P.cellsOf e ≤ ys.length →
    KM (List.replicate n a).flatten (xs.drop (k * P.cellsOf e)) → KM (List.replicate n a).flatten (ys.drop (k * P.cellsOf e)) →
    ∃ r, (Op.eqItems dd e (P.cellsOf e) xs.toArray ys.toArray (List.range' k n)).run P w = .ok r w ∧ (r = true ↔ xs.drop (k * P.cellsOf e) = ys.drop (k * P.cellsOf e))
  | 0, k, ox, oy, hx, hy => by
    have h1 := KM_len hx
    have h2 := KM_len hy
    refine ⟨true, by simp [Op.eqItems], ?_⟩
    rw [List.length_eq_zero_iff.1 h1, List.length_eq_zero_iff.1 h2]
    simp
  | n + 1, k, ox, oy, hx, hy => by
    rw [List.replicate_succ, List.flatten_cons] at hx hy
    obtain ⟨x1, x2⟩ := KM_app hx
    obtain ⟨y1, y2⟩ := KM_app hy
    have lx := KM_len hx
    have ly := KM_len hy
    simp only [List.length_append, List.length_drop] at lx ly
    obtain ⟨vx, p1, p2⟩ := part_val (w := w) hz (cx := xs) (off := k * P.cellsOf e) (by omega)
    obtain ⟨vy, q1, q2⟩ := part_val (w := w) hz (cx := ys) (off := k * P.cellsOf e) (by omega)
    rw [hz2] at p2 q2
    obtain ⟨r1, e1, e2⟩ := hg w vx vy _ _ x1 y1 p2 q2
    have hk : k * P.cellsOf e + P.cellsOf e = (k + 1) * P.cellsOf e := by rw [Nat.succ_mul]
    rw [List.drop_drop, hl, hk] at x2 y2
    obtain ⟨r2, e3, e4⟩ := eqItems_good hg hz hl hz2 xs ys n (k + 1) (by omega) (by omega) x2 y2
    have hsplit : xs.drop (k * P.cellsOf e) = ys.drop (k * P.cellsOf e) ↔ (xs.drop (k * P.cellsOf e)).take a.length = (ys.drop (k * P.cellsOf e)).take a.length ∧ xs.drop ((k + 1) * P.cellsOf e) = ys.drop ((k + 1) * P.cellsOf e) := by
      rw [← hk, ← hl, ← List.drop_drop, ← List.drop_drop]
      constructor
      · intro h; rw [h]; exact ⟨rfl, rfl⟩
      · rintro ⟨h1, h2⟩
        rw [← List.take_append_drop a.length (xs.drop (k * a.length)), h1, h2, List.take_append_drop]
    rw [List.range'_succ]
    cases r1
    · refine ⟨false, by simp [Op.eqItems, p1, q1, e1], ?_⟩
      simp only [Bool.false_eq_true, false_iff]
      intro h
      have := e2.2 (hsplit.1 h).1
      simp at this
    · refine ⟨r2, by simp [Op.eqItems, p1, q1, e1, e3], ?_⟩
      rw [e4, hsplit]
      exact ⟨fun h => ⟨e2.1 rfl, h⟩, fun h => h.2⟩

theorem eqKs_good : ∀ (d D : Nat) (t : TypeId) (ks : List CK), eqKs P d t = some ks → EqGood P (D + d) t ks
  | 0, _, _, _, h => by simp [eqKs] at h
  | d + 1, D, t, ks, h => by
    intro w x y cx cy hx hy vx vy
    unfold eqKs at h
    split at h
    · rename_i k hu
      injection h with h; subst h
      have ha : aggT P t = false := by unfold aggT; rw [hu]
      rcases vx with ⟨h1, _⟩ | ⟨_, rfl⟩
      · rw [ha] at h1; simp at h1
      rcases vy with ⟨h1, _⟩ | ⟨_, rfl⟩
      · rw [ha] at h1; simp at h1
      cases x <;> simp only [KM] at hx
      cases y <;> simp only [KM] at hy
      rename_i k1 n1 k2 n2
      obtain ⟨rfl, _⟩ := hx
      obtain ⟨rfl, _⟩ := hy
      exact ⟨n1 == n2, by rw [show D + (d + 1) = (D + d) + 1 from rfl]; exact run_equalIn_int w (D + d) t _ _ n1 n2 hu, by simp⟩
    · rename_i hu
      injection h with h; subst h
      have ha : aggT P t = false := by unfold aggT; rw [hu]
      rcases vx with ⟨h1, _⟩ | ⟨_, rfl⟩
      · rw [ha] at h1; simp at h1
      rcases vy with ⟨h1, _⟩ | ⟨_, rfl⟩
      · rw [ha] at h1; simp at h1
      cases x <;> simp only [KM] at hx
      cases y <;> simp only [KM] at hy
      rename_i b1 b2
      exact ⟨b1 == b2, by rw [show D + (d + 1) = (D + d) + 1 from rfl]; exact run_equalIn_bool' w (D + d) t b1 b2 hu, by simp⟩
    · rename_i hu
      injection h with h; subst h
      have ha : aggT P t = false := by unfold aggT; rw [hu]
      rcases vx with ⟨h1, _⟩ | ⟨_, rfl⟩
      · rw [ha] at h1; simp at h1
      rcases vy with ⟨h1, _⟩ | ⟨_, rfl⟩
      · rw [ha] at h1; simp at h1
      cases x <;> simp only [KM] at hx
      cases y <;> simp only [KM] at hy
      rename_i b1 b2
      refine ⟨b1.toList == b2.toList, by rw [show D + (d + 1) = (D + d) + 1 from rfl]; exact run_equalIn_string w (D + d) t b1 b2 hu, ?_⟩
      rw [ba_eq]; simp
    · rename_i fs hu
      have ha : aggT P t = true := by unfold aggT; rw [hu]
      rcases vx with ⟨_, rfl⟩ | ⟨h1, _⟩
      · rcases vy with ⟨_, rfl⟩ | ⟨h1, _⟩
        · split at h
          · rename_i hs
            have hfs : P.fieldsOf t = fs := by simp [Program.fieldsOf, hu]
            obtain ⟨r, e1, e2⟩ := eqFields_good (w := w) (dd := D + d) (fun t ks hk => eqKs_good d D t ks hk) cx cy fs.toList 0 ks h (Nat.zero_le _) (Nat.zero_le _) (by simpa using hx) (by simpa using hy)
            refine ⟨r, ?_, by simpa using e2⟩
            rw [show D + (d + 1) = (D + d) + 1 from rfl, run_equalIn_struct w (D + d) t _ _ (by rw [hfs]; exact hu) hs, hfs]
            exact e1
          · simp at h
        · rw [ha] at h1; simp at h1
      · rw [ha] at h1; simp at h1
    · rename_i n e hu
      have ha : aggT P t = true := by unfold aggT; rw [hu]
      rcases vx with ⟨_, rfl⟩ | ⟨h1, _⟩
      · rcases vy with ⟨_, rfl⟩ | ⟨h1, _⟩
        · split at h
          · rename_i a z hka hz
            split at h
            · rename_i hc
              injection h with h; subst h
              obtain ⟨r, e1, e2⟩ := eqItems_good (w := w) (eqKs_good d D e a hka) hz hc.1 hc.2 cx cy n 0 (by simp) (by simp) (by simpa using hx) (by simpa using hy)
              have hi : ∃ i, P.info? e = some i := by
                unfold ldK at hz
                cases hi : P.info? e with
                | some i => exact ⟨i, rfl⟩
                | none => rw [hi] at hz; cases hu2 : P.underlying e with
                  | none => rw [hu2] at hz; simp at hz
                  | some d => rw [hu2] at hz; cases d <;> simp at hz
              obtain ⟨i, hi⟩ := hi
              refine ⟨r, ?_, by simpa using e2⟩
              rw [show D + (d + 1) = (D + d) + 1 from rfl, run_equalIn_array w (D + d) _ _ hu hi, List.range_eq_range']
              exact e1
            · simp at h
          · simp at h
        · rw [ha] at h1; simp at h1
      · rw [ha] at h1; simp at h1
    · simp at h
end
section
variable {P : Program} {R : RO} {ι : IM} {h : LH} {w : World}
theorem kind_ok : ∀ {ks : List CK} {xs : List LV} {vs : List Value}, kindL ks xs → vs.length = xs.length → (∀ (i : Nat) (c : LV) (v : Value), xs[i]? = some c → vs[i]? = some v → Rv R ι h c v) → KM ks vs
  | [], [], [], _, _, _ => trivial
  | [], [], _ :: _, _, hl, _ => by simp at hl
  | k :: r, x :: q, [], _, hl, _ => by simp at hl
  | k :: r, x :: q, v :: u, hk, hl, hc => by
    have h0 := hc 0 x v rfl rfl
    have hr : ∀ (i : Nat) (c : LV) (v : Value), q[i]? = some c → u[i]? = some v → Rv R ι h c v := fun i c v h1 h2 => hc (i + 1) c v (by simpa using h1) (by simpa using h2)
    have hl' : u.length = q.length := by simpa using hl
    unfold kindL at hk
    split at hk
    · rename_i e _; simp at e
    · rename_i e1 e2
      injection e1 with e1 e1'
      injection e2 with e2 e2'
      subst e1 e1' e2 e2'
      obtain ⟨rfl, _⟩ := h0.sc_inv
      exact ⟨hk.1, kind_ok hk.2 hl' hr⟩
    · rename_i e1 e2
      injection e1 with e1 e1'
      injection e2 with e2 e2'
      subst e1 e1' e2 e2'
      obtain ⟨rfl, _⟩ := h0.sc_inv
      exact kind_ok (ks := r) hk hl' hr
    · rename_i e1 e2
      injection e1 with e1 e1'
      injection e2 with e2 e2'
      subst e1 e1' e2 e2'
      obtain ⟨rfl, _⟩ := h0.sc_inv
      exact kind_ok (ks := r) hk hl' hr
    · exact hk.elim
  | [], _ :: _, _, hk, _, _ => hk.elim
  | .i _ :: _, [], _, hk, _, _ => hk.elim
  | .b :: _, [], _, hk, _, _ => hk.elim
  | .s :: _, [], _, hk, _, _ => hk.elim
def cellOf : CK → LV → Prop
  | .i k, x => ∃ n, x = .sc (.int k n)
  | .b, x => ∃ b, x = .sc (.bool b)
  | .s, x => ∃ s, x = .sc (.string s)
theorem kind_inv {k : CK} {r : List CK} {x : LV} {q : List LV} (h : kindL (k :: r) (x :: q)) : kindL r q ∧ cellOf k x := by
  unfold kindL at h
  split at h
  · rename_i e _; simp at e
  · rename_i e1 e2
    injection e1 with e1 e1'
    injection e2 with e2 e2'
    subst e1 e1' e2 e2'
    exact ⟨h.2, _, by rw [← h.1]⟩
  · rename_i e1 e2
    injection e1 with e1 e1'
    injection e2 with e2 e2'
    subst e1 e1' e2 e2'
    exact ⟨h, _, rfl⟩
  · rename_i e1 e2
    injection e1 with e1 e1'
    injection e2 with e2 e2'
    subst e1 e1' e2 e2'
    exact ⟨h, _, rfl⟩
  · exact h.elim
theorem eqL_ok : ∀ {ks : List CK} {xs ys : List LV} {vs us : List Value}, kindL ks xs → kindL ks ys → vs.length = xs.length → us.length = ys.length → (∀ (i : Nat) (c : LV) (v : Value), xs[i]? = some c → vs[i]? = some v → Rv R ι h c v) →
    (∀ (i : Nat) (c : LV) (v : Value), ys[i]? = some c → us[i]? = some v → Rv R ι h c v) → (eqL xs ys = true ↔ vs = us)
  | [], [], [], [], [], _, _, _, _, _, _ => by simp [eqL]
  | k :: r, x :: q, y :: q', v :: u, v' :: u', hk, hk', hl, hl', hc, hc' => by
    have h0 := hc 0 x v rfl rfl
    have h0' := hc' 0 y v' rfl rfl
    have hr : ∀ (i : Nat) (c : LV) (v : Value), q[i]? = some c → u[i]? = some v → Rv R ι h c v := fun i c v h1 h2 => hc (i + 1) c v (by simpa using h1) (by simpa using h2)
    have hr' : ∀ (i : Nat) (c : LV) (v : Value), q'[i]? = some c → u'[i]? = some v → Rv R ι h c v := fun i c v h1 h2 => hc' (i + 1) c v (by simpa using h1) (by simpa using h2)
    have hkr : kindL r q ∧ kindL r q' := ⟨(kind_inv hk).1, (kind_inv hk').1⟩
    have ih := eqL_ok hkr.1 hkr.2 (by simpa using hl) (by simpa using hl') hr hr'
    have hcell : eqCell x y = true ↔ v = v' := by
      have a1 := (kind_inv hk).2
      have a2 := (kind_inv hk').2
      cases k with
      | i kk =>
        obtain ⟨n, rfl⟩ := a1
        obtain ⟨m, rfl⟩ := a2
        obtain ⟨rfl, _⟩ := h0.sc_inv
        obtain ⟨rfl, _⟩ := h0'.sc_inv
        simp [eqCell]
      | b =>
        obtain ⟨n, rfl⟩ := a1
        obtain ⟨m, rfl⟩ := a2
        obtain ⟨rfl, _⟩ := h0.sc_inv
        obtain ⟨rfl, _⟩ := h0'.sc_inv
        simp [eqCell]
      | s =>
        obtain ⟨n, rfl⟩ := a1
        obtain ⟨m, rfl⟩ := a2
        obtain ⟨rfl, _⟩ := h0.sc_inv
        obtain ⟨rfl, _⟩ := h0'.sc_inv
        simp [eqCell]
    simp only [eqL, Bool.and_eq_true, hcell, ih, List.cons.injEq]
  | [], [], [], _ :: _, _, _, _, hl, _, _, _ => by simp at hl
  | [], [], [], [], _ :: _, _, _, _, hl, _, _ => by simp at hl
  | _ :: _, _ :: _, _ :: _, [], _, _, _, hl, _, _, _ => by simp at hl
  | _ :: _, _ :: _, _ :: _, _ :: _, [], _, _, _, hl, _, _ => by simp at hl
  | [], _ :: _, _, _, _, hk, _, _, _, _, _ => hk.elim
  | [], [], _ :: _, _, _, _, hk, _, _, _, _ => hk.elim
  | k :: _, [], _, _, _, hk, _, _, _, _, _ => by cases k <;> exact hk.elim
  | k :: _, _ :: _, [], _, _, _, hk, _, _, _, _ => by cases k <;> exact hk.elim

theorem eqa_ok {t : TypeId} {ks : List CK} (hk : eqKs P 20 t = some ks) (ha : aggT P t = true) {x y : LV} {vx vy : Value} (hx : Rv R ι h x vx) (hy : Rv R ι h y vy) (hc : eqaC ks x y) :
    ∃ xs ys : Array Value, vx = .agg xs ∧ vy = .agg ys ∧ ∃ r, (Op.equal t vx vy).run P w = .ok r w ∧ ∀ neg, eqaV neg x y = .sc (.bool (bif neg then !r else r)) := by
  unfold eqaC at hc
  split at hc
  · rename_i cs ds
    obtain ⟨xs, rfl, h1, h2, _⟩ := hx.agg_inv
    obtain ⟨ys, rfl, g1, g2, _⟩ := hy.agg_inv
    have hx' : ∀ (i : Nat) (c : LV) (v : Value), cs[i]? = some c → xs.toList[i]? = some v → Rv R ι h c v := fun i c v hc hv => by
      have := h2 i c hc
      rw [Array.getElem?_toList] at hv
      rw [Array.getD_eq_getD_getElem?, hv] at this; exact this
    have hy' : ∀ (i : Nat) (c : LV) (v : Value), ds[i]? = some c → ys.toList[i]? = some v → Rv R ι h c v := fun i c v hc hv => by
      have := g2 i c hc
      rw [Array.getElem?_toList] at hv
      rw [Array.getD_eq_getD_getElem?, hv] at this; exact this
    obtain ⟨r, e1, e2⟩ := eqKs_good 20 9980 t ks hk w (.agg xs) (.agg ys) xs.toList ys.toList (kind_ok hc.1 (by simpa using h1) hx') (kind_ok hc.2 (by simpa using g1) hy') (.inl ⟨ha, by simp⟩) (.inl ⟨ha, by simp⟩)
    refine ⟨xs, ys, rfl, rfl, r, e1, fun neg => ?_⟩
    have := eqL_ok hc.1 hc.2 (by simpa using h1) (by simpa using g1) hx' hy'
    have hb : eqL cs ds = r := by rw [Bool.eq_iff_iff, this, e2]
    simp only [eqaV, hb]
  · exact hc.elim
end
end Go.Proofs.Ytfhifkcbdpgomaa
