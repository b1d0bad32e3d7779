/- The lifted layer, part 7: stores and new objects. Conditions: none. -/
import Derived.Test.YtfhifkcbdpgomaaL6
namespace Go.Proofs.Ytfhifkcbdpgomaa
set_option linter.unusedSimpArgs false
set_option linter.unusedVariables false
open Go.RowKit

section
variable {P : Program} {R : RO} {ι : IM} {h : LH} {B : Nat} {w : World} {s : LS} {ρ : Operand → Value}

theorem updI_self (ι : IM) (k : Nat) : updI ι k (ι k) = ι := by
  funext j; unfold updI; split
  · rename_i e; rw [e]
  · rfl

theorem idx_inj {i i' sz c c' : Nat} (hc : c < sz) (hc' : c' < sz) (he : i * sz + c = i' * sz + c') : i = i' ∧ c = c' := by
  have h1 : i = i' := by
    rcases Nat.lt_trichotomy i i' with hlt | e | hlt
    · have := Nat.mul_le_mul_right sz hlt
      rw [Nat.succ_mul] at this; omega
    · exact e
    · have := Nat.mul_le_mul_right sz hlt
      rw [Nat.succ_mul] at this; omega
  subst h1
  exact ⟨rfl, by omega⟩

theorem isI64_inv {lv : LV} (hi : isI64 lv) : ∃ a, lv = .sc (.int .i64 a) := by
  unfold isI64 at hi
  split at hi
  · exact ⟨_, rfl⟩
  · exact hi.elim

theorem stC1_cell {ob : LO} {sz i c : Nat} {lv : LV} (hc : stC1 ob sz i c lv) : isCell lv = true := by
  unfold stC1 at hc
  split at hc
  · exact hc.2.2.2
  · obtain ⟨a, rfl⟩ := isI64_inv hc.2.2.2; rfl
  · have := hc.2.2.2
    unfold isBool at this
    split at this
    · rfl
    · exact this.elim
  · exact hc.2.2.2.2
  · exact hc.elim

theorem stV1_sz (ob : LO) (i c : Nat) (lv : LV) : (stV1 ob i c lv).sz = ob.sz := by cases ob <;> rfl
theorem stV1_size (ob : LO) (i c : Nat) (lv : LV) : (stV1 ob i c lv).size = ob.size := by cases ob <;> simp [stV1, LO.size]
theorem stV1_live (ob : LO) (i c : Nat) (lv : LV) : (stV1 ob i c lv).live = ob.live := by cases ob <;> rfl
theorem stV1_isMap (ob : LO) (i c : Nat) (lv : LV) : (stV1 ob i c lv).isMap = ob.isMap := by cases ob <;> rfl
theorem stC1_szeq {ob : LO} {sz i c : Nat} {lv : LV} (hc : stC1 ob sz i c lv) : sz = ob.sz ∧ ob.live = true ∧ ob.isMap = false ∧ ob.size ≠ 0 := by
  unfold stC1 at hc
  split at hc
  · exact ⟨hc.1, rfl, rfl, by simp only [LO.size]; omega⟩
  · exact ⟨hc.1, rfl, rfl, by simp only [LO.size]; omega⟩
  · exact ⟨hc.1, rfl, rfl, by simp only [LO.size]; omega⟩
  · exact ⟨hc.1, rfl, rfl, by simp only [LO.size]; exact Nat.mul_ne_zero (by omega) (by omega)⟩
  · exact hc.elim

/-- Where a cell of the changed object comes from. -/
theorem cellAt_stV1 {ob : LO} {sz i c : Nat} {lv : LV} (hc : stC1 ob sz i c lv) {i' c' : Nat} {x : LV} (hx : cellAt (stV1 ob i c lv) i' c' = some x) :
    (i' = i ∧ c' = c ∧ x = lv) ∨ (cellAt ob i' c' = some x ∧ i' * ob.sz + c' ≠ i * ob.sz + c) := by
  unfold stC1 at hc
  split at hc
  · rename_i cs
    obtain ⟨rfl, rfl, hlt, _⟩ := hc
    simp only [stV1, cellAt] at hx
    split at hx
    · rename_i e
      subst e
      by_cases e2 : c' = c
      · subst e2; rw [List.getElem?_set_self hlt] at hx; injection hx with hx; exact .inl ⟨rfl, rfl, hx.symm⟩
      · rw [List.getElem?_set_ne (fun h => e2 h.symm)] at hx
        exact .inr ⟨by simp [cellAt, hx], by simp [LO.sz, e2]⟩
    · simp at hx
  · rename_i xs
    obtain ⟨rfl, rfl, hlt, hi⟩ := hc
    obtain ⟨a, rfl⟩ := isI64_inv hi
    simp only [stV1, cellAt, intOfV] at hx
    split at hx
    · rename_i e
      subst e
      by_cases e2 : i' = i
      · subst e2; rw [List.getElem?_set_self hlt] at hx; simp at hx; exact .inl ⟨rfl, rfl, hx.symm⟩
      · rw [List.getElem?_set_ne (fun h => e2 h.symm)] at hx
        exact .inr ⟨by simpa [cellAt] using hx, by simp [LO.sz, e2]⟩
    · simp at hx
  · rename_i xs
    obtain ⟨rfl, rfl, hlt, hi⟩ := hc
    obtain ⟨a, rfl⟩ : ∃ a, lv = .sc (.bool a) := by
      unfold isBool at hi
      split at hi
      · exact ⟨_, rfl⟩
      · exact hi.elim
    simp only [stV1, cellAt, boolOf] at hx
    split at hx
    · rename_i e
      subst e
      by_cases e2 : i' = i
      · subst e2; rw [List.getElem?_set_self hlt] at hx; simp at hx; exact .inl ⟨rfl, rfl, hx.symm⟩
      · rw [List.getElem?_set_ne (fun h => e2 h.symm)] at hx
        exact .inr ⟨by simpa [cellAt] using hx, by simp [LO.sz, e2]⟩
    · simp at hx
  · rename_i sz' n f
    obtain ⟨rfl, hcs, hlt, hfl, _⟩ := hc
    simp only [stV1, cellAt] at hx
    split at hx
    · rename_i e
      by_cases e2 : i' = i
      · subst e2
        simp only [if_true] at hx
        by_cases e3 : c' = c
        · subst e3; rw [List.getElem?_set_self (by omega)] at hx; injection hx with hx; exact .inl ⟨rfl, rfl, hx.symm⟩
        · rw [List.getElem?_set_ne (fun h => e3 h.symm)] at hx
          exact .inr ⟨by simp [cellAt, hx, e.1, e.2], by simp [LO.sz]; omega⟩
      · simp only [e2, if_false] at hx
        refine .inr ⟨by simp [cellAt, hx, e.1, e.2], fun h => e2 ?_⟩
        exact (idx_inj e.2 hcs h).1
    · simp at hx
  · exact hc.elim

theorem cellAt_lt {ob : LO} {i c : Nat} {x : LV} (hx : cellAt ob i c = some x) : i * ob.sz + c < ob.size := by
  unfold cellAt at hx
  split at hx
  · split at hx
    · rename_i e; subst e
      have := (List.getElem?_eq_some_iff.1 hx).1
      simp [LO.sz, LO.size]; exact this
    · simp at hx
  · split at hx
    · rename_i e; subst e
      simp only [Option.map_eq_some_iff] at hx
      obtain ⟨y, hy, _⟩ := hx
      have := (List.getElem?_eq_some_iff.1 hy).1
      simp [LO.sz, LO.size]; exact this
    · simp at hx
  · split at hx
    · rename_i e; subst e
      simp only [Option.map_eq_some_iff] at hx
      obtain ⟨y, hy, _⟩ := hx
      have := (List.getElem?_eq_some_iff.1 hy).1
      simp [LO.sz, LO.size]; exact this
    · simp at hx
  · split at hx
    · rename_i sz n f e
      have := Nat.mul_le_mul_right sz (Nat.succ_le_of_lt e.1)
      simp only [LO.sz, LO.size]
      rw [Nat.succ_mul] at this
      omega
    · simp at hx
  · simp at hx

theorem st1_lt {ob : LO} {sz i c : Nat} {lv : LV} (hc : stC1 ob sz i c lv) : i * ob.sz + c < ob.size := by
  unfold stC1 at hc
  split at hc
  · obtain ⟨rfl, rfl, hlt, _⟩ := hc; simpa [LO.sz, LO.size] using hlt
  · obtain ⟨rfl, rfl, hlt, _⟩ := hc; simpa [LO.sz, LO.size] using hlt
  · obtain ⟨rfl, rfl, hlt, _⟩ := hc; simpa [LO.sz, LO.size] using hlt
  · rename_i sz' n f
    obtain ⟨rfl, hcs, hlt, hfl, _⟩ := hc
    have := Nat.mul_le_mul_right sz hlt
    simp only [LO.sz, LO.size]
    rw [Nat.succ_mul] at this
    omega
  · exact hc.elim

theorem plain_oneCell {v : Value} (hp : plainV v = true) : v.oneCell' = true := by cases v <;> simp_all [plainV, Value.oneCell']

theorem st1_ok (hr : Rep R ι h B w) (hB : B ≤ w.heap.size) {k ver sz i c : Nat} {a : Addr} {lv : LV} {v : Value} (hk : k < h.n) (hver : (h.f k).1 = ver)
    (ha : a = ⟨(ι k).b, (ι k).o + (i * sz + c), none⟩) (hc : stC1 (h.f k).2 sz i c lv) (hv : Rv R ι h lv v) :
    (store a v).run P w = .ok () (w.setCell a v) ∧ Trans B R ι h w R ι (h.set k (ver, stV1 (h.f k).2 i c lv)) (w.setCell a v) := by
  obtain ⟨hsz, hl, hm, hs0⟩ := stC1_szeq hc
  have hpv := hv.plain (stC1_cell hc)
  have hm0 : (ι k).m ≠ 0 := fun e => hs0 (hr.empty k hk hl hm e)
  obtain ⟨cl, e, hw, hcs, hle, hpl, hcl⟩ := (hr.cells k hk hl hm hm0).ex
  have hlt := st1_lt hc
  rw [hsz] at ha
  have hw' : w.heap[a.block]? = some (.cells cl e (0, 0)) := by rw [ha]; exact hw
  have hoff : a.off < cl.size := by rw [ha]; simp only; omega
  have hspot : a.spot = none := by rw [ha]
  have hab : a.block = (ι k).b := by rw [ha]
  have hao : a.off = (ι k).o + (i * (h.f k).2.sz + c) := by rw [ha]
  refine ⟨?_, ?_⟩
  · rw [run_store _ _ _ _ _ (plain_oneCell hpv)]
    have h1 : w.cell? a = some cl[a.off] := by
      simp [World.cell?, hw', hspot, Array.getElem?_eq_getElem hoff]
    have h2 : w.frozen? a = false := by simp [World.frozen?, hw']
    simp [h1, h2]
  · have hset := setCell_cells (w := w) (a := a) (v := v) hspot hw'
    have := hr.change hB hk (ver' := ver) (ob' := stV1 (h.f k).2 i c lv) (x' := ι k) (w' := w.setCell a v) hl (by omega) (fun _ => rfl) (by rw [stV1_live]; exact hl) (by rw [stV1_isMap]; exact hm) hm
      rfl rfl rfl (by simp [World.setCell]) (fun b hb hne => by
        simp only [World.setCell, Array.getElem?_modify]
        rw [if_neg (by rw [hab]; omega)]) (.inl ⟨rfl, hm0⟩)
      (fun mono _ => ⟨cl.setIfInBounds a.off v, e, by rw [← hab]; exact hset, by simpa using hcs, by rw [stV1_size]; exact hle, fun j hj => by
        rw [getD_set]
        split
        · exact hpv
        · exact hpl j (by simpa using hj), fun i' c' x hx => by
        rw [stV1_sz]
        rcases cellAt_stV1 hc hx with ⟨rfl, rfl, rfl⟩ | ⟨h1, h2⟩
        · refine ⟨v, ?_, hv.mono mono⟩
          rw [← hao, Array.getElem?_setIfInBounds]
          simp [hoff]
        · obtain ⟨u, h3, h4⟩ := hcl i' c' x h1
          refine ⟨u, ?_, h4.mono mono⟩
          rw [Array.getElem?_setIfInBounds, if_neg (by omega)]
          exact h3⟩) (fun e => absurd e hm0)
    rw [updI_self] at this
    exact this

theorem stN_ok {k ver sz i : Nat} : ∀ (cs : List LV) (us : List Value) (c j : Nat) {h : LH} {w : World} {a : Addr}, Rep R ι h B w → B ≤ w.heap.size → k < h.n → (h.f k).1 = ver →
    a = ⟨(ι k).b, (ι k).o + (i * sz + c), none⟩ → us.length = cs.length → (∀ q x, cs[q]? = some x → Rv R ι h x (us.getD q undef)) → stC (h.f k).2 sz i (c + j) cs →
    ∃ w', (storeCells a us j).run P w = .ok () w' ∧ Trans B R ι h w R ι (h.set k (ver, stV (h.f k).2 i (c + j) cs)) w' := by
  intro cs
  induction cs with
  | nil =>
    intro us c j h w a hr hB hk hver ha hl hv hc
    cases us with
    | cons => simp at hl
    | nil =>
      refine ⟨w, rfl, ?_⟩
      have e : h.set k (ver, stV (h.f k).2 i (c + j) []) = h := by
        unfold LH.set stV
        cases h with
        | mk n f =>
          congr 1
          funext q
          split
          · rename_i e; subst e; simp only at hver ⊢; rw [← hver]
          · rfl
      rw [e]; exact Trans.refl hr hB
  | cons x r ih =>
    intro us c j h w a hr hB hk hver ha hl hv hc
    cases us with
    | nil => simp at hl
    | cons u us =>
      obtain ⟨hc1, hc2⟩ := hc
      have h0 : Rv R ι h x u := by have := hv 0 x rfl; simpa using this
      have hadd : a.add j = ⟨(ι k).b, (ι k).o + (i * sz + (c + j)), none⟩ := by rw [ha, add_mk]; congr 1; omega
      obtain ⟨h1, h2⟩ := st1_ok (P := P) hr hB hk hver hadd hc1 h0
      have hf : ((h.set k (ver, stV1 (h.f k).2 i (c + j) x)).f k) = (ver, stV1 (h.f k).2 i (c + j) x) := by simp [LH.set]
      obtain ⟨w', h3, h4⟩ := ih us c (j + 1) (h := h.set k (ver, stV1 (h.f k).2 i (c + j) x)) (w := w.setCell (a.add j) u) (a := a) h2.rep (Nat.le_trans hB h2.below.size) hk (by rw [hf]) ha (by simpa using hl)
        (fun q y hq => by have := hv (q + 1) y (by simpa using hq); exact (by simpa using this : Rv R ι h y (us.getD q undef)).mono h2.mono) (by rw [hf]; exact hc2)
      refine ⟨w', ?_, ?_⟩
      · simp only [storeCells, Sem.run_bind, h1, Result.andThen_ok, h3]
      · have e : (h.set k (ver, stV1 (h.f k).2 i (c + j) x)).set k (ver, stV ((h.set k (ver, stV1 (h.f k).2 i (c + j) x)).f k).2 i (c + (j + 1)) r) = h.set k (ver, stV (h.f k).2 i (c + j) (x :: r)) := by
          rw [hf]
          unfold LH.set
          simp only [stV]
          congr 1
          funext q
          split <;> rfl
        rw [e] at h4
        exact h2.trans h4

end
end Go.Proofs.Ytfhifkcbdpgomaa
