/- The lifted layer, part 9: append. Conditions: none. -/
import Derived.Test.YtfhifkcbdpgomaaL8
namespace Go.Proofs.Ytfhifkcbdpgomaa
set_option linter.unusedSimpArgs false
set_option linter.unusedVariables false
open Go.RowKit

def elO : LO → Nat → List LV
  | .ints xs, i => [.sc (.int .i64 (xs.getD i 0))]
  | .bools xs, i => [.sc (.bool (xs.getD i false))]
  | .row _ _ f, i => f i
  | _, _ => []
def lenO : LO → Nat
  | .ints xs => xs.length
  | .bools xs => xs.length
  | .row _ n _ => n
  | _ => 0
/-- Elements off .. off + m of an object, each of sz cells. -/
def rngC (ob : LO) (sz off m : Nat) : Prop :=
  match ob with
  | .ints xs => sz = 1 ∧ off + m ≤ xs.length
  | .bools xs => sz = 1 ∧ off + m ≤ xs.length
  | .row sz' n f => sz' = sz ∧ off + m ≤ n ∧ ∀ i, i < m → (f (off + i)).length = sz
  | _ => False
def yN : LV → Nat
  | .sl _ _ _ _ m => m
  | .rsl _ m _ => m
  | _ => 0
def yF (h : LH) : LV → Nat → List LV
  | .sl k _ _ off _, i => elO (h.f k).2 (off + i)
  | .rsl _ _ f, i => f i
  | _, _ => []
def yC (h : LH) (sz : Nat) : LV → Prop
  | .sl k ver sz' off m => sz' = sz ∧ k < h.n ∧ (h.f k).1 = ver ∧ rngC (h.f k).2 sz off m
  | .rsl sz' _ _ => sz' = sz
  | .nsl => True
  | _ => False
def yInts (h : LH) : LV → List Int
  | .sl k _ _ off m => match (h.f k).2 with
    | .ints xs => (xs.drop off).take m
    | _ => []
  | .rsl _ m f => (List.range m).map fun i => intOfV ((f i).getD 0 .any)
  | _ => []
def yIntsC (h : LH) : LV → Prop
  | .sl k _ _ _ _ => match (h.f k).2 with
    | .ints _ => True
    | _ => False
  | .rsl _ m f => ∀ i, i < m → isI64 ((f i).getD 0 .any)
  | _ => True
def yBools (h : LH) : LV → List Bool
  | .sl k _ _ off m => match (h.f k).2 with
    | .bools xs => (xs.drop off).take m
    | _ => []
  | .rsl _ m f => (List.range m).map fun i => boolOf ((f i).getD 0 .any)
  | _ => []
def yBoolsC (h : LH) : LV → Prop
  | .sl k _ _ _ _ => match (h.f k).2 with
    | .bools _ => True
    | _ => False
  | .rsl _ m f => ∀ i, i < m → isBool ((f i).getD 0 .any)
  | _ => True
def intsO : LO → List Int
  | .ints xs => xs
  | _ => []
def boolsO : LO → List Bool
  | .bools xs => xs
  | _ => []
def appO (kd sz off len : Nat) (ob : LO) (h : LH) (y : LV) : LO :=
  match kd with
  | 1 => .ints (((intsO ob).drop off).take len ++ yInts h y)
  | 2 => .bools (((boolsO ob).drop off).take len ++ yBools h y)
  | _ => .row sz (len + yN y) (fun i => if i < len then elO ob (off + i) else yF h y (i - len))
def isInts : LO → Prop
  | .ints _ => True
  | _ => False
def isBools : LO → Prop
  | .bools _ => True
  | _ => False
/-- Fit for kind kd. -/
def kdC (kd : Nat) (ob : LO) : Prop :=
  match kd with
  | 1 => isInts ob
  | 2 => isBools ob
  | _ => True
def ykC (kd : Nat) (h : LH) (y : LV) : Prop :=
  match kd with
  | 1 => yIntsC h y
  | 2 => yBoolsC h y
  | _ => True

section
variable {P : Program} {R : RO} {ι : IM} {h : LH} {B : Nat} {w : World} {s : LS} {ρ : Operand → Value}

theorem rngC_cell {ob : LO} {sz off m i c : Nat} (hr : rngC ob sz off m) (hi : i < m) (hc : c < sz) : ∃ lv, (elO ob (off + i))[c]? = some lv ∧ cellAt ob (off + i) c = some lv ∧ ob.sz = sz ∧ ob.live = true ∧ ob.isMap = false ∧ ob.size ≠ 0 := by
  unfold rngC at hr
  split at hr
  · obtain ⟨rfl, hl⟩ := hr
    have : c = 0 := by omega
    subst this
    have hlt : off + i < _ := Nat.lt_of_lt_of_le (Nat.add_lt_add_left hi off) hl
    exact ⟨_, rfl, by simp [cellAt, hlt], rfl, rfl, rfl, by simp only [LO.size]; omega⟩
  · obtain ⟨rfl, hl⟩ := hr
    have : c = 0 := by omega
    subst this
    have hlt : off + i < _ := Nat.lt_of_lt_of_le (Nat.add_lt_add_left hi off) hl
    exact ⟨_, rfl, by simp [cellAt, hlt], rfl, rfl, rfl, by simp only [LO.size]; omega⟩
  · rename_i sz' n f
    obtain ⟨rfl, hl, hf⟩ := hr
    have h1 := hf i hi
    have hlt : c < (f (off + i)).length := by omega
    refine ⟨(f (off + i))[c], ?_, ?_, rfl, rfl, rfl, ?_⟩
    · simp only [elO]; exact List.getElem?_eq_getElem hlt
    · simp only [cellAt]; rw [if_pos ⟨by omega, hc⟩]; exact List.getElem?_eq_getElem hlt
    · simp only [LO.size]; exact Nat.mul_ne_zero (by omega) (by omega)
  · exact hr.elim

/-- The cells of a run of elements of a live object. -/
theorem rng_cells (hr : Rep R ι h B w) {k sz off m : Nat} (hk : k < h.n) (hc : rngC (h.f k).2 sz off m) {i j : Nat} (hi : i < m) (hj : j < sz) :
    ∃ lv v, (elO (h.f k).2 (off + i))[j]? = some lv ∧ w.cell? ⟨(ι k).b, (ι k).o + ((off + i) * sz + j), none⟩ = some v ∧ Rv R ι h lv v ∧ plainV v = true := by
  obtain ⟨lv, h1, h2, h3, h4, h5, h6⟩ := rngC_cell hc hi hj
  have hm0 : (ι k).m ≠ 0 := fun e => h6 (hr.empty k hk h4 h5 e)
  obtain ⟨cl, e, hw, hsz, _, hp, hcl⟩ := (hr.cells k hk h4 h5 hm0).ex
  obtain ⟨v, hv1, hv2⟩ := hcl (off + i) j lv h2
  rw [h3] at hv1
  refine ⟨lv, v, h1, ?_, hv2, ?_⟩
  · simp [World.cell?, hw, hv1]
  · have hlt := (Array.getElem?_eq_some_iff.1 hv1).1
    have := hp _ hlt
    rw [Array.getD_eq_getD_getElem?, hv1] at this
    exact this

theorem divmod {q sz m : Nat} (h0 : 0 < sz) (hq : q < m * sz) : q / sz < m ∧ q % sz < sz ∧ q / sz * sz + q % sz = q := by
  refine ⟨(Nat.div_lt_iff_lt_mul h0).2 hq, Nat.mod_lt _ h0, ?_⟩
  have := Nat.div_add_mod q sz
  rw [Nat.mul_comm] at this; exact this

theorem firstCells_ok (hr : Rep R ι h B w) {sz : Nat} {y : LV} {vy : Value} (h0 : 0 < sz) (hy : Rv R ι h y vy) (hc : yC h sz y) :
    ∃ a cap us, vy = .slice a (yN y) cap ∧ (Builtin.firstCells sz (yN y) vy).run P w = .ok us w ∧ us.size = yN y * sz ∧
      ∀ i j, i < yN y → j < sz → ∃ lv, (yF h y i)[j]? = some lv ∧ Rv R ι h lv (us.getD (i * sz + j) undef) ∧ plainV (us.getD (i * sz + j) undef) = true := by
  unfold yC at hc
  split at hc
  · rename_i k ver sz' off m
    obtain ⟨rfl, hk, hver, hrng⟩ := hc
    obtain ⟨a, cap, rfl, _, _, hlc, hm, hcase⟩ := hy.sl_inv
    by_cases hm0 : m = 0
    · subst hm0
      refine ⟨a, cap, #[], rfl, ?_, by simp [yN], fun i j hi _ => absurd hi (Nat.not_lt_zero _)⟩
      cases a <;> simp [yN, Builtin.firstCells, loadCells, loadCellsFrom]
    · rcases hcase with h9 | h9
      · omega
      · obtain ⟨rfl, _⟩ := h9 hver.symm
        have hall : ∀ q, ∃ v, q < m * sz' → ∃ lv, (elO (h.f k).2 (off + q / sz'))[q % sz']? = some lv ∧ w.cell? ⟨(ι k).b, (ι k).o + off * sz' + (0 + q), none⟩ = some v ∧ Rv R ι h lv v ∧ plainV v = true := by
          intro q
          by_cases hq : q < m * sz'
          · obtain ⟨d1, d2, d3⟩ := divmod h0 hq
            obtain ⟨lv, v, e1, e2, e3, e4⟩ := rng_cells hr hk hrng d1 d2
            refine ⟨v, fun _ => ⟨lv, e1, ?_, e3, e4⟩⟩
            rw [← e2]; congr 2
            rw [Nat.add_mul]; omega
          · exact ⟨undef, fun h => absurd h hq⟩
        obtain ⟨g, hg⟩ := Classical.axiomOfChoice hall
        obtain ⟨us, u1, u2, u3⟩ := loadCellsFrom_ok (P := P) (w := w) (ι k).b ((ι k).o + off * sz') g (m * sz') 0 #[] (fun q hq => by
          obtain ⟨lv, _, e2, _⟩ := hg q hq
          rw [e2]; simp) rfl (fun q hq => absurd hq (Nat.not_lt_zero _))
        refine ⟨_, _, us, rfl, by simp only [yN, Builtin.firstCells, loadCells]; exact u1, by simp only [yN]; omega, fun i j hi hj => ?_⟩
        simp only [yN] at hi
        have hlt : i * sz' + j < m * sz' := by
          have := Nat.mul_le_mul_right sz' (Nat.succ_le_of_lt hi)
          rw [Nat.succ_mul] at this; omega
        obtain ⟨lv, e1, _, e3, e4⟩ := hg _ hlt
        rw [u3 _ (by omega)]
        have q1 : (i * sz' + j) / sz' = i := by rw [Nat.mul_comm, Nat.mul_add_div h0, Nat.div_eq_of_lt hj]; omega
        have q2 : (i * sz' + j) % sz' = j := by rw [Nat.mul_comm, Nat.mul_add_mod]; exact Nat.mod_eq_of_lt hj
        rw [q1, q2] at e1
        exact ⟨lv, e1, e3, e4⟩
  · rename_i sz' m f
    subst hc
    cases hy.rsl_inv with
    | rsl _ _ _ a cap b o g hcp hm ha hf hcell hv hp =>
      by_cases hm0 : m = 0
      · subst hm0
        refine ⟨a, cap, #[], rfl, ?_, by simp [yN], fun i j hi _ => absurd hi (Nat.not_lt_zero _)⟩
        cases a <;> simp [yN, Builtin.firstCells, loadCells, loadCellsFrom]
      · have := ha (by omega)
        subst this
        obtain ⟨us, u1, u2, u3⟩ := loadCellsFrom_ok (P := P) (w := w) b o (fun q => g (q / sz') (q % sz')) (m * sz') 0 #[] (fun q hq => by
          obtain ⟨d1, d2, d3⟩ := divmod h0 hq
          have := ro_cell hr (hcell _ _ d1 d2)
          rw [Nat.zero_add, ← this]; congr 2; omega) rfl (fun q hq => absurd hq (Nat.not_lt_zero _))
        refine ⟨_, _, us, rfl, by simp only [yN, Builtin.firstCells, loadCells]; exact u1, by simp only [yN]; omega, fun i j hi hj => ?_⟩
        simp only [yN] at hi
        have hlt : i * sz' + j < m * sz' := by
          have := Nat.mul_le_mul_right sz' (Nat.succ_le_of_lt hi)
          rw [Nat.succ_mul] at this; omega
        rw [u3 _ (by omega)]
        have q1 : (i * sz' + j) / sz' = i := by rw [Nat.mul_comm, Nat.mul_add_div h0, Nat.div_eq_of_lt hj]; omega
        have q2 : (i * sz' + j) % sz' = j := by rw [Nat.mul_comm, Nat.mul_add_mod]; exact Nat.mod_eq_of_lt hj
        simp only [q1, q2, yF]
        have hl := hf i hi
        have hjl : j < (f i).length := by omega
        refine ⟨(f i)[j], List.getElem?_eq_getElem hjl, .ro (hv i j _ hi (List.getElem?_eq_getElem hjl)), hp i j hi hj⟩
  · have := hy.nsl_inv
    subst this
    exact ⟨none, 0, #[], rfl, by simp [yN, Builtin.firstCells], by simp [yN], fun i j hi _ => absurd hi (Nat.not_lt_zero _)⟩
  · exact hc.elim

theorem yInts_ok {y : LV} (hc : yC h 1 y) (hk : yIntsC h y) : (yInts h y).length = yN y ∧ ∀ i, i < yN y → (yF h y i)[0]? = some (.sc (.int .i64 ((yInts h y).getD i 0))) := by
  unfold yC at hc
  split at hc
  · rename_i k ver sz' off m
    obtain ⟨rfl, _, _, hrng⟩ := hc
    simp only [yIntsC] at hk
    simp only [yInts, yN, yF]
    split at hk
    · rename_i xs hx
      rw [hx] at hrng
      obtain ⟨_, hl⟩ := hrng
      refine ⟨by simp; omega, fun i hi => ?_⟩
      have e1 : xs.getD (off + i) 0 = xs[off + i] := getD_el (by omega)
      have e2 : ((xs.drop off).take m).getD i 0 = xs[off + i] := by rw [getD_el (by simp; omega)]; simp
      rw [hx]
      simp only [elO, e1, e2]; rfl
    · exact hk.elim
  · rename_i sz' m f
    simp only [yIntsC] at hk
    simp only [yInts, yN, yF]
    refine ⟨by simp, fun i hi => ?_⟩
    obtain ⟨a, ha⟩ := isI64_inv (hk i hi)
    rw [getD_el (by simp; exact hi)]
    simp only [List.getElem_map, List.getElem_range, ha, intOfV]
    rw [List.getD_eq_getElem?_getD] at ha
    cases hg : (f i)[0]? with
    | none => rw [hg] at ha; simp at ha
    | some x => rw [hg] at ha; simp at ha; rw [ha]
  · exact ⟨rfl, fun i hi => absurd hi (Nat.not_lt_zero _)⟩
  · exact hc.elim

theorem yBools_ok {y : LV} (hc : yC h 1 y) (hk : yBoolsC h y) : (yBools h y).length = yN y ∧ ∀ i, i < yN y → (yF h y i)[0]? = some (.sc (.bool ((yBools h y).getD i false))) := by
  unfold yC at hc
  split at hc
  · rename_i k ver sz' off m
    obtain ⟨rfl, _, _, hrng⟩ := hc
    simp only [yBoolsC] at hk
    simp only [yBools, yN, yF]
    split at hk
    · rename_i xs hx
      rw [hx] at hrng
      obtain ⟨_, hl⟩ := hrng
      refine ⟨by simp; omega, fun i hi => ?_⟩
      have e1 : xs.getD (off + i) false = xs[off + i] := getD_el (by omega)
      have e2 : ((xs.drop off).take m).getD i false = xs[off + i] := by rw [getD_el (by simp; omega)]; simp
      rw [hx]
      simp only [elO, e1, e2]; rfl
    · exact hk.elim
  · rename_i sz' m f
    simp only [yBoolsC] at hk
    simp only [yBools, yN, yF]
    refine ⟨by simp, fun i hi => ?_⟩
    have hb := hk i hi
    rw [getD_el (by simp; exact hi)]
    simp only [List.getElem_map, List.getElem_range]
    rw [List.getD_eq_getElem?_getD] at hb ⊢
    cases hg : (f i)[0]? with
    | none => rw [hg] at hb; simp [isBool] at hb
    | some x =>
      rw [hg] at hb
      simp only [Option.getD_some] at hb ⊢
      unfold isBool at hb
      split at hb
      · rfl
      · exact hb.elim
  · exact ⟨rfl, fun i hi => absurd hi (Nat.not_lt_zero _)⟩
  · exact hc.elim

/-- What the appended object holds, cell by cell. -/
theorem appO_facts {kd sz off len : Nat} {ob : LO} {y : LV} (hy : yC h sz y) (hyk : ykC kd h y) (hk : kdC kd ob ∨ len = 0) (hs : kd = 1 ∨ kd = 2 → sz = 1) (hr : len = 0 ∨ rngC ob sz off len) :
    (appO kd sz off len ob h y).live = true ∧ (appO kd sz off len ob h y).isMap = false ∧ (appO kd sz off len ob h y).size = (len + yN y) * sz ∧ (appO kd sz off len ob h y).sz = sz ∧
    ∀ i c lv, cellAt (appO kd sz off len ob h y) i c = some lv → c < sz ∧ ((i < len ∧ cellAt ob (off + i) c = some lv ∧ ob.sz = sz) ∨ (len ≤ i ∧ i - len < yN y ∧ (yF h y (i - len))[c]? = some lv)) := by
  unfold appO
  split
  · have := hs (.inl rfl)
    subst this
    obtain ⟨q1, q2⟩ := yInts_ok hy hyk
    have hlen : (((intsO ob).drop off).take len).length = len := by
      rcases hr with h0 | hr
      · subst h0; simp
      · unfold rngC at hr
        split at hr
        · simp [intsO]; omega
        · rcases hk with hk | hk
          · exact (hk : isInts (.bools _)).elim
          · subst hk; simp
        · rcases hk with hk | hk
          · exact (hk : isInts (.row _ _ _)).elim
          · subst hk; simp
        · exact hr.elim
    refine ⟨rfl, rfl, by simp only [LO.size, List.length_append, hlen, q1]; omega, rfl, fun i c lv hx => ?_⟩
    simp only [cellAt] at hx
    split at hx
    · rename_i e; subst e
      refine ⟨by omega, ?_⟩
      simp only [Option.map_eq_some_iff] at hx
      obtain ⟨a, ha, rfl⟩ := hx
      by_cases hi : i < len
      · left
        rw [List.getElem?_append_left (by omega), List.getElem?_take_of_lt hi, List.getElem?_drop] at ha
        refine ⟨hi, ?_⟩
        rcases hr with h0 | hr
        · omega
        · unfold rngC at hr
          split at hr
          · simp only [intsO] at ha
            exact ⟨by simp [cellAt, ha], rfl⟩
          · simp [intsO] at ha
          · simp [intsO] at ha
          · exact hr.elim
      · right
        rw [List.getElem?_append_right (by omega), hlen] at ha
        have hlt := (List.getElem?_eq_some_iff.1 ha).1
        have hlt' : i - len < yN y := by omega
        refine ⟨by omega, hlt', ?_⟩
        rw [q2 _ hlt', List.getD_eq_getElem?_getD, ha]; rfl
    · simp at hx
  · have := hs (.inr rfl)
    subst this
    obtain ⟨q1, q2⟩ := yBools_ok hy hyk
    have hlen : (((boolsO ob).drop off).take len).length = len := by
      rcases hr with h0 | hr
      · subst h0; simp
      · unfold rngC at hr
        split at hr
        · rcases hk with hk | hk
          · exact (hk : isBools (.ints _)).elim
          · subst hk; simp
        · simp [boolsO]; omega
        · rcases hk with hk | hk
          · exact (hk : isBools (.row _ _ _)).elim
          · subst hk; simp
        · exact hr.elim
    refine ⟨rfl, rfl, by simp only [LO.size, List.length_append, hlen, q1]; omega, rfl, fun i c lv hx => ?_⟩
    simp only [cellAt] at hx
    split at hx
    · rename_i e; subst e
      refine ⟨by omega, ?_⟩
      simp only [Option.map_eq_some_iff] at hx
      obtain ⟨a, ha, rfl⟩ := hx
      by_cases hi : i < len
      · left
        rw [List.getElem?_append_left (by omega), List.getElem?_take_of_lt hi, List.getElem?_drop] at ha
        refine ⟨hi, ?_⟩
        rcases hr with h0 | hr
        · omega
        · unfold rngC at hr
          split at hr
          · simp [boolsO] at ha
          · simp only [boolsO] at ha
            exact ⟨by simp [cellAt, ha], rfl⟩
          · simp [boolsO] at ha
          · exact hr.elim
      · right
        rw [List.getElem?_append_right (by omega), hlen] at ha
        have hlt := (List.getElem?_eq_some_iff.1 ha).1
        have hlt' : i - len < yN y := by omega
        refine ⟨by omega, hlt', ?_⟩
        rw [q2 _ hlt', List.getD_eq_getElem?_getD, ha]; rfl
    · simp at hx
  · refine ⟨rfl, rfl, rfl, rfl, fun i c lv hx => ?_⟩
    simp only [cellAt] at hx
    split at hx
    · rename_i e
      refine ⟨e.2, ?_⟩
      by_cases hi : i < len
      · left
        rw [if_pos hi] at hx
        rcases hr with h0 | hr
        · omega
        · obtain ⟨lv', e1, e2, e3, _⟩ := rngC_cell hr hi e.2
          rw [e1] at hx
          injection hx with hx
          subst hx
          exact ⟨hi, e2, e3⟩
      · right
        rw [if_neg hi] at hx
        exact ⟨by omega, by omega, hx⟩
    · simp at hx

end
end Go.Proofs.Ytfhifkcbdpgomaa
