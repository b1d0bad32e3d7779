/- The lifted layer, part 21: what can be read as data is a read-only value; and rows from what functions compute. Conditions: none. -/
import Derived.Test.YtfhifkcbdpgomaaL20
import Derived.Test.YtfhifkcbdpgomaaRows
import Derived.ChangeArms
import Derived.ProofKit
namespace Go.Proofs.Ytfhifkcbdpgomaa
set_option linter.unusedSimpArgs false
set_option linter.unusedVariables false
open Go.ChangeShapes Go.WideShapes Go.ChangeAt Go.RowKit

def offStep (P : Program) (o : Option Nat) (f : Field) : Option Nat :=
  match o with
  | some k => if f.offset = k then some (k + P.cellsOf f.type) else none
  | none => none
/-- Types of plain data: numbers, bools, strings, and slices, structs and arrays of such. -/
def okT (P : Program) : Nat → TypeId → Bool
  | 0, _ => false
  | d + 1, t => match P.underlying t with
    | some (.int _) => true
    | some .bool => true
    | some .string => true
    | some (.slice e) => decide (0 < P.cellsOf e) && okT P d e
    | some (.struct fs) => (fs.toList.all fun f => okT P d f.type) && (fs.toList.foldl (offStep P) (some 0) == some (P.cellsOf t))
    | _ => false
/-- The lifted values of a type. -/
def fitT (P : Program) : Nat → TypeId → List LV → Prop
  | 0, _, _ => False
  | d + 1, t, ls => match P.underlying t with
    | some (.int k) => ∃ n, ls = [.sc (.int k n)] ∧ (Lit.int k n).wf = true
    | some .bool => ∃ b, ls = [.sc (.bool b)]
    | some .string => ∃ s : ByteArray, ls = [.sc (.string s)] ∧ s.size ≤ maxLen
    | some (.slice e) => ∃ n f, ls = [.rsl (P.cellsOf e) n f] ∧ n ≤ maxLen ∧ ∀ i, i < n → fitT P d e (f i)
    | some (.struct fs) => ls.length = P.cellsOf t ∧ ∀ (i : Nat) (f : Field), fs[i]? = some f → fitT P d f.type ((ls.drop f.offset).take (P.cellsOf f.type))
    | _ => False

section
variable {H : Type} {enc : TypeId × Value → H} {P : Program} {w : World} {base : Nat} {spare : Nat → Bool} {held : Bool} {R : RO}

theorem fold_offs (P : Program) : ∀ (fs : List Field) (k total : Nat), fs.foldl (offStep P) (some k) = some total →
    (k ≤ total ∧ ∀ (i : Nat) (f : Field), fs[i]? = some f → k ≤ f.offset ∧ f.offset + P.cellsOf f.type ≤ total) ∧ (∀ j, k ≤ j → j < total → ∃ (i : Nat) (f : Field), fs[i]? = some f ∧ f.offset ≤ j ∧ j < f.offset + P.cellsOf f.type) ∧
    (∀ (i i' : Nat) (f f' : Field), fs[i]? = some f → fs[i']? = some f' → i < i' → f.offset + P.cellsOf f.type ≤ f'.offset)
  | [], k, total, h => by
    simp at h; subst h
    exact ⟨⟨Nat.le_refl _, fun i f hf => by simp at hf⟩, fun j h1 h2 => by omega, fun i i' f f' hf => by simp at hf⟩
  | f :: r, k, total, h => by
    simp only [List.foldl_cons, offStep] at h
    by_cases e : f.offset = k
    · rw [if_pos e] at h
      obtain ⟨⟨h1, h2⟩, h3, h4⟩ := fold_offs P r _ _ h
      refine ⟨⟨by omega, fun i g hg => ?_⟩, fun j hj1 hj2 => ?_, fun i i' g g' hg hg' hlt => ?_⟩
      · cases i with
        | zero => simp at hg; subst hg; omega
        | succ i => have := h2 i g (by simpa using hg); omega
      · by_cases hj : j < k + P.cellsOf f.type
        · exact ⟨0, f, rfl, by omega, by omega⟩
        · obtain ⟨i, g, a1, a2⟩ := h3 j (by omega) hj2
          exact ⟨i + 1, g, by simpa using a1, a2⟩
      · cases i' with
        | zero => omega
        | succ i' =>
          cases i with
          | zero => simp at hg; subst hg; have := h2 i' g' (by simpa using hg'); omega
          | succ i => exact h4 i i' g g' (by simpa using hg) (by simpa using hg') (by omega)
    · rw [if_neg e] at h
      exfalso
      have : ∀ (l : List Field), l.foldl (offStep P) none = none := by
        intro l; induction l with
        | nil => rfl
        | cons _ _ ih => exact ih
      rw [this] at h; simp at h

theorem cells_get {a : Addr} {n : Nat} {cs : List Value} (h : w.cells? base a n = some cs) : cs.length = n ∧ ∀ i, i < n → w.cell? (a.add i) = cs[i]? := by
  unfold World.cells? at h
  split at h
  · exact ⟨by simpa using mapM_some_length h, fun i hi => mapM_some_get h i i (by simp [hi])⟩
  · simp at h

theorem cell_ro (hR : ∀ b, R b = w.heap[b]?) {a : Addr} {v : Value} (h : w.cell? a = some v) : a.spot = none ∧ roCell R a.block a.off = some v := by
  unfold World.cell? at h
  unfold roCell
  rw [hR]
  split at h
  · rename_i c _ _ hw
    rw [hw]
    split at h
    · simp at h
    · rename_i hs
      exact ⟨by simpa using hs, h⟩
  · simp at h

theorem ro_of_trod (hR : ∀ b, R b = w.heap[b]?) : ∀ (d fuel : Nat) (t : TypeId) (cs : List Value) (x : DataW H × List MemPlace), okT P d t = true → DataW.trod enc P w base spare held fuel t cs = some x →
    ∃ ls : List LV, ls.length = cs.length ∧ (∀ (i : Nat) (l : LV), ls[i]? = some l → ∃ v, cs[i]? = some v ∧ Ro R l v ∧ plainV v = true) ∧ fitT P d t ls
  | 0, _, _, _, _, h, _ => by simp [okT] at h
  | d + 1, fuel, t, cs, x, ht, h => by
    unfold okT at ht
    split at ht
    · rename_i k hu
      obtain ⟨n, rfl, rfl, hw⟩ := DataW.trod_int hu h
      refine ⟨[.sc (.int k n)], rfl, fun i l hl => ?_, ?_⟩
      · cases i with
        | zero => simp at hl; subst hl; exact ⟨_, rfl, .sc _ rfl, rfl⟩
        | succ i => simp at hl
      · unfold fitT; rw [hu]; exact ⟨n, rfl, hw⟩
    · rename_i hu
      obtain ⟨b, rfl, rfl⟩ := DataW.trod_bool hu h
      refine ⟨[.sc (.bool b)], rfl, fun i l hl => ?_, ?_⟩
      · cases i with
        | zero => simp at hl; subst hl; exact ⟨_, rfl, .sc _ rfl, rfl⟩
        | succ i => simp at hl
      · unfold fitT; rw [hu]; exact ⟨b, rfl⟩
    · rename_i hu
      obtain ⟨s, rfl, rfl, hs⟩ := DataW.trod_string hu h
      refine ⟨[.sc (.string s)], rfl, fun i l hl => ?_, ?_⟩
      · cases i with
        | zero => simp at hl; subst hl; exact ⟨_, rfl, .sc _ rfl, rfl⟩
        | succ i => simp at hl
      · unfold fitT; rw [hu]; exact ⟨s, rfl, hs⟩
    · rename_i e hu
      simp only [Bool.and_eq_true, decide_eq_true_eq] at ht
      obtain ⟨hz, hte⟩ := ht
      rcases DataW.trod_slice hu h with ⟨rfl, _⟩ | ⟨a, len, cap, elems, rest, n, _, rfl, _, hb, hl, hm, hlen, hel, _, _⟩
      · refine ⟨[.rsl (P.cellsOf e) 0 (fun _ => [])], rfl, fun i l hl => ?_, ?_⟩
        · cases i with
          | zero =>
            simp at hl; subst hl
            exact ⟨_, rfl, .rsl _ _ _ none 0 0 0 (fun _ _ => undef) (Nat.le_refl _) (by unfold maxLen; omega) (fun h => absurd h (Nat.lt_irrefl _)) (fun i hi => absurd hi (Nat.not_lt_zero _)) (fun i j hi => absurd hi (Nat.not_lt_zero _)) (fun i j c hi => absurd hi (Nat.not_lt_zero _)) (fun i j hi => absurd hi (Nat.not_lt_zero _)), rfl⟩
          | succ i => simp at hl
        · unfold fitT; rw [hu]; exact ⟨0, _, rfl, by unfold maxLen; omega, fun i hi => absurd hi (Nat.not_lt_zero _)⟩
      · have hall : ∀ i, ∃ q : List LV × List Value, i < len → q.2.length = P.cellsOf e ∧ (∀ j, j < P.cellsOf e → w.cell? ((a.add (i * P.cellsOf e)).add j) = q.2[j]?) ∧ q.1.length = P.cellsOf e ∧
            (∀ (j : Nat) (l : LV), q.1[j]? = some l → ∃ v, q.2[j]? = some v ∧ Ro R l v ∧ plainV v = true) ∧ fitT P d e q.1 := by
          intro i
          by_cases hi : i < len
          · have h1 := hel i hi
            have : ∃ y, elems[i]? = some y := ⟨elems[i]'(by omega), List.getElem?_eq_getElem (by omega)⟩
            obtain ⟨y, hy⟩ := this
            rw [hy] at h1
            obtain ⟨cs', hc1, hc2⟩ := Option.bind_eq_some_iff.1 h1
            obtain ⟨g1, g2⟩ := cells_get hc1
            obtain ⟨ls, k1, k2, k3⟩ := ro_of_trod hR d n e cs' y hte hc2
            exact ⟨(ls, cs'), fun _ => ⟨g1, g2, by rw [k1, g1], k2, k3⟩⟩
          · exact ⟨([], []), fun h => absurd h hi⟩
        obtain ⟨q, hq⟩ := Classical.axiomOfChoice hall
        have hcell : ∀ i j, i < len → j < P.cellsOf e → a.spot = none ∧ ∃ v, (q i).2[j]? = some v ∧ roCell R a.block (a.off + i * P.cellsOf e + j) = some v := by
          intro i j hi hj
          have hsp : a.spot = none := by
            obtain ⟨g1, g2, _⟩ := hq 0 (by omega)
            have := g2 0 hz
            rw [Nat.zero_mul] at this
            rw [List.getElem?_eq_getElem (by omega)] at this
            exact (cell_ro hR this).1
          obtain ⟨g1, g2, _⟩ := hq i hi
          have h2 := g2 j hj
          rw [List.getElem?_eq_getElem (by omega)] at h2
          have h3 := (cell_ro hR h2).2
          refine ⟨hsp, _, List.getElem?_eq_getElem (by omega), ?_⟩
          have hadd : (a.add (i * P.cellsOf e)).add j = ⟨a.block, a.off + i * P.cellsOf e + j, none⟩ := by
            obtain ⟨b, o, s⟩ := a
            simp only at hsp; subst hsp
            unfold Addr.add
            by_cases e1 : i * P.cellsOf e = 0 <;> by_cases e2 : j = 0 <;> simp [e1, e2]
          rw [hadd] at h3
          exact h3
        refine ⟨[.rsl (P.cellsOf e) len (fun i => (q i).1)], rfl, fun i l hl' => ?_, ?_⟩
        · cases i with
          | zero =>
            simp at hl'; subst hl'
            refine ⟨_, rfl, .rsl _ _ _ (some a) cap a.block a.off (fun i j => (q i).2.getD j undef) hl hm (fun h0 => ?_) (fun i hi => (hq i hi).2.2.1) (fun i j hi hj => ?_) (fun i j c hi hc => ?_) (fun i j hi hj => ?_), rfl⟩
            · have := (hcell 0 0 h0 hz).1
              obtain ⟨b, o, s⟩ := a
              simp only at this; subst this; rfl
            · obtain ⟨_, v, h1, h2⟩ := hcell i j hi hj
              rw [h2, List.getD_eq_getElem?_getD, h1]; rfl
            · obtain ⟨v, h1, h2, _⟩ := (hq i hi).2.2.2.1 j c hc
              rw [List.getD_eq_getElem?_getD, h1]; exact h2
            · have hl3 := (hq i hi).2.2.1
              obtain ⟨v, h1, _, h3⟩ := (hq i hi).2.2.2.1 j _ (List.getElem?_eq_getElem (by omega))
              rw [List.getD_eq_getElem?_getD, h1]; exact h3
          | succ i => simp at hl'
        · unfold fitT; rw [hu]; exact ⟨len, _, rfl, Nat.le_trans hl hm, fun i hi => (hq i hi).2.2.2.2⟩
    · rename_i fs hu
      simp only [Bool.and_eq_true, List.all_eq_true, beq_iff_eq] at ht
      obtain ⟨hf1, hf2⟩ := ht
      obtain ⟨xs, n, rfl, _, hcl, hxl, hxs⟩ := DataW.trod_struct hu h
      obtain ⟨⟨_, o1⟩, o2, o3⟩ := fold_offs P fs.toList 0 _ hf2
      have hall : ∀ i : Nat, ∃ ls : List LV, ∀ f : Field, fs[i]? = some f → ls.length = P.cellsOf f.type ∧ (∀ (j : Nat) (l : LV), ls[j]? = some l → ∃ v, cs[f.offset + j]? = some v ∧ Ro R l v ∧ plainV v = true) ∧ fitT P d f.type ls := by
        intro i
        by_cases hi : i < fs.size
        · have hfi : fs[i]? = some fs[i] := Array.getElem?_eq_getElem hi
          have h1 := hxs i _ hfi
          rw [List.getElem?_eq_getElem (by omega)] at h1
          obtain ⟨ls, k1, k2, k3⟩ := ro_of_trod hR d n _ _ _ (hf1 _ (by simp)) h1
          have ho := o1 i _ (show fs.toList[i]? = some fs[i] by rw [Array.getElem?_toList]; exact hfi)
          have hlen : ls.length = P.cellsOf (fs[i]).type := by rw [k1]; simp; omega
          refine ⟨ls, fun f hf => ?_⟩
          rw [hfi] at hf; injection hf with hf; subst hf
          refine ⟨hlen, fun j l hl => ?_, k3⟩
          obtain ⟨v, h2, h3⟩ := k2 j l hl
          have hj := (List.getElem?_eq_some_iff.1 hl).1
          rw [List.getElem?_take_of_lt (by omega), List.getElem?_drop] at h2
          exact ⟨v, h2, h3⟩
        · exact ⟨[], fun f hf => by rw [Array.getElem?_eq_none (by omega)] at hf; simp at hf⟩
      obtain ⟨g, hg⟩ := Classical.axiomOfChoice hall
      have hcov : ∀ j : Nat, ∃ i : Nat, j < P.cellsOf t → ∃ f : Field, fs[i]? = some f ∧ f.offset ≤ j ∧ j < f.offset + P.cellsOf f.type := by
        intro j
        by_cases hj : j < P.cellsOf t
        · obtain ⟨i, f, a1, a2⟩ := o2 j (Nat.zero_le _) hj
          exact ⟨i, fun _ => ⟨f, by simpa using a1, a2⟩⟩
        · exact ⟨0, fun h => absurd h hj⟩
      obtain ⟨own, hown⟩ := Classical.axiomOfChoice hcov
      let ls : List LV := (List.range (P.cellsOf t)).map fun j => (g (own j)).getD (j - ((fs[own j]?).map (·.offset)).getD 0) .any
      have hls : ∀ (j i : Nat) (f : Field), j < P.cellsOf t → fs[i]? = some f → f.offset ≤ j → j < f.offset + P.cellsOf f.type → ls[j]? = (g i)[j - f.offset]? := by
        intro j i f hj hfi h1 h2
        obtain ⟨f', hf', h3, h4⟩ := hown j hj
        have : own j = i := by
          rcases Nat.lt_trichotomy (own j) i with hlt | he | hgt
          · have := o3 _ _ f' f (by simpa using hf') (by simpa using hfi) hlt; omega
          · exact he
          · have := o3 _ _ f f' (by simpa using hfi) (by simpa using hf') hgt; omega
        have hgl := (hg i f hfi).1
        simp only [ls, List.getElem?_map, List.getElem?_range hj, Option.map_some, this, hfi, Option.getD_some]
        rw [List.getD_eq_getElem?_getD, List.getElem?_eq_getElem (by omega)]; rfl
      have hlsl : ls.length = P.cellsOf t := by simp [ls]
      refine ⟨ls, by rw [hlsl, hcl], fun j l hl => ?_, ?_⟩
      · have hj : j < P.cellsOf t := by have := (List.getElem?_eq_some_iff.1 hl).1; omega
        obtain ⟨f, hf, h1, h2⟩ := hown j hj
        rw [hls j _ f hj hf h1 h2] at hl
        obtain ⟨v, a1, a2⟩ := (hg _ f hf).2.1 _ l hl
        rw [show f.offset + (j - f.offset) = j by omega] at a1
        exact ⟨v, a1, a2⟩
      · unfold fitT; rw [hu]
        refine ⟨hlsl, fun i f hf => ?_⟩
        have ho := o1 i f (by simpa using hf)
        have : (ls.drop f.offset).take (P.cellsOf f.type) = g i := by
          apply List.ext_getElem?
          intro j
          by_cases hj : j < P.cellsOf f.type
          · rw [List.getElem?_take_of_lt hj, List.getElem?_drop, hls (f.offset + j) i f (by omega) hf (by omega) (by omega)]
            rw [show f.offset + j - f.offset = j by omega]
          · rw [List.getElem?_eq_none (by simp; omega), List.getElem?_eq_none (by have := (hg i f hf).1; omega)]
        rw [this]
        exact (hg i f hf).2.2
    · simp at ht
end

def structT (P : Program) (t : TypeId) : Bool :=
  match P.underlying t with
  | some (.struct _) => true
  | _ => false
/-- The lifted values of a parameter's type. -/
def fitA (P : Program) (t : TypeId) (lv : LV) : Prop := ∃ ls, fitT P 20 t ls ∧ ((structT P t = true ∧ lv = .agg ls) ∨ (structT P t = false ∧ ls = [lv]))
def fitAll (P : Program) : List TypeId → List LV → Prop
  | [], [] => True
  | t :: ts, l :: ls => fitA P t l ∧ fitAll P ts ls
  | _, _ => False

section
variable {H : Type} {enc : TypeId × Value → H} {P : Program} {w : World} {base : Nat} {spare : Nat → Bool} {held : Bool} {R : RO}

theorem arg_open (hR : ∀ b, R b = w.heap[b]?) {r : Reach} {b0 : Nat} {t : TypeId} {v : Value} {d : DataW H} {ps : List MemPlace} (ht : okT P 20 t = true) (hval : Value.okWide P w r b0 t v) (hd : DataW.Trod enc P w base spare held t v d ps) :
    ∃ lv, Ro R lv v ∧ fitA P t lv := by
  obtain ⟨fuel, hf⟩ := hd
  obtain ⟨ls, h1, h2, h3⟩ := ro_of_trod hR 20 fuel t v.cells.toList _ ht hf
  by_cases hs : structT P t = true
  · have hu : ∃ fs, P.underlying t = some (.struct fs) := by
      unfold structT at hs
      split at hs
      · rename_i fs hu; exact ⟨fs, hu⟩
      · simp at hs
    obtain ⟨fs, hu⟩ := hu
    obtain ⟨cs, rfl, hcs⟩ := okWide_struct hu hval
    have hcl : (Value.agg cs).cells = cs := rfl
    rw [hcl] at h1 h2
    refine ⟨.agg ls, .agg _ _ (by simpa using h1.symm) (fun i c hc => ?_) (fun i hi => ?_), ls, h3, .inl ⟨hs, rfl⟩⟩
    · obtain ⟨x, g1, g2, _⟩ := h2 i c hc
      rw [Array.getElem?_toList] at g1
      rw [Array.getD_eq_getD_getElem?, g1]; exact g2
    · have hlt : i < ls.length := by rw [h1]; simpa using hi
      obtain ⟨x, g1, _, g3⟩ := h2 i _ (List.getElem?_eq_getElem hlt)
      rw [Array.getElem?_toList] at g1
      rw [Array.getD_eq_getD_getElem?, g1]; exact g3
  · have hs' : structT P t = false := by simpa using hs
    have hp : plainV v = true := by
      cases v with
      | agg cs =>
        exfalso
        unfold structT at hs'
        have ht' := ht
        unfold okT at ht'
        unfold Value.okWide at hval
        split at ht' <;> first
          | (rename_i hu; rw [hu] at hval hs'; simp [Cell.okWide, Cell.ok, hu] at hval hs'; done)
          | (revert ht'; simp; done)
      | tuple cs =>
        exfalso
        unfold structT at hs'
        have ht' := ht
        unfold okT at ht'
        unfold Value.okWide at hval
        split at ht' <;> first
          | (rename_i hu; rw [hu] at hval hs'; simp [Cell.okWide, Cell.ok, hu] at hval hs'; done)
          | (revert ht'; simp; done)
      | _ => rfl
    rw [cells_plain hp] at h1 h2
    obtain ⟨l, rfl⟩ := List.length_eq_one_iff.1 (by simpa using h1)
    obtain ⟨x, g1, g2, _⟩ := h2 0 l rfl
    simp at g1; subst g1
    exact ⟨l, g2, [l], h3, .inr ⟨hs', rfl⟩⟩

theorem args_open (hR : ∀ b, R b = w.heap[b]?) {b0 : Nat} {r : Reach} : ∀ (ts : List TypeId) (vs : List Value) (ds : List (DataW H)) (ps : List MemPlace), (∀ t, t ∈ ts → okT P 20 t = true) →
    (∀ (j : Nat) t v, ts[j]? = some t → vs[j]? = some v → Value.okWide P w r b0 t v) → DataW.TrodAll enc P w base spare held ts vs ds ps → ∃ lvs : List LV, lvs.length = vs.length ∧ (∀ (i : Nat) (l : LV), lvs[i]? = some l → ∃ v, vs[i]? = some v ∧ Ro R l v) ∧ fitAll P ts lvs
  | [], vs, ds, ps, _, _, h => by
    obtain ⟨rfl, rfl, rfl⟩ := trodAll_nil h
    exact ⟨[], rfl, fun i l hl => by simp at hl, trivial⟩
  | t :: ts, vs, ds, ps, hok, hval, h => by
    obtain ⟨v, vs', d, ds', p, q, rfl, rfl, rfl, h1, h2⟩ := trodAll_cons h
    obtain ⟨lv, g1, g2⟩ := arg_open hR (hok t (by simp)) (hval 0 t v rfl rfl) h1
    obtain ⟨lvs, k1, k2, k3⟩ := args_open hR ts vs' ds' q (fun t ht => hok t (by simp [ht])) (fun j t v ht hv => hval (j + 1) t v (by simpa using ht) (by simpa using hv)) h2
    refine ⟨lv :: lvs, by simp [k1], fun i l hl => ?_, g2, k3⟩
    cases i with
    | zero => simp at hl; subst hl; exact ⟨v, rfl, g1⟩
    | succ i => obtain ⟨v', a1, a2⟩ := k2 i l (by simpa using hl); exact ⟨v', by simpa using a1, a2⟩

theorem trodAll_below (hl : laidOutB P = true) {W W' : World} (hb : Below W.heap.size W W') : ∀ (ts : List TypeId) (vs : List Value) (ds : List (DataW H)) (ps : List MemPlace), (∀ t, t ∈ ts → P.readableRec t = true ∧ t < P.types.size) →
    (∀ x ∈ ps, x.block < W.heap.size) → DataW.TrodAll enc P W 0 (fun _ => true) true ts vs ds ps → DataW.TrodAll enc P W' 0 (fun b => decide (b < W.heap.size)) true ts vs ds ps
  | [], vs, ds, ps, _, _, h => by
    obtain ⟨rfl, rfl, rfl⟩ := trodAll_nil h
    exact h
  | t :: ts, vs, ds, ps, hr, hlt, h => by
    obtain ⟨v, vs', d, ds', p, q, rfl, rfl, rfl, h1, h2⟩ := trodAll_cons h
    exact ⟨p, q, Below.trod hl (hr t (by simp)).1 (hr t (by simp)).2 h1 hb (fun x hx => hlt x (by simp [hx])), trodAll_below hl hb ts vs' ds' q (fun t ht => hr t (by simp [ht])) (fun x hx => hlt x (by simp [hx])) h2, rfl⟩
end

/-- A law is proved: from what its function computes to the row. -/
theorem law_lifted {C : Checked} {os : Os} {f : FuncId} {fn : Func} {s : ChangeSpec} {H : Type} {enc : TypeId × Value → H} {tb : TypeId} (own : ownKnob C.prog.godebug = none) (started : os.Started) (hl : laidOutB C.prog = true)
    (noInit : C.prog.inits.idxOf? f = none) (hfn : C.prog.funcs[f]? = some fn)
    (witness : ∃ (w : World) (tape : Tape) (i : Input), w.os = os ∧ (w.forCall tape i).Shaped C.prog ∧ i.vars = [] ∧ Input.okWide C.prog (w.forCall tape i) .any w.heap.size f i ∧
      s.pre6 enc C.prog fn [] false (w.forCall tape i).memory i.args ∧ ({} : Assume).holds C.prog (lone (Frame.enter C.prog f i.args .normal) [] (w.forCall tape i)))
    (hres : fn.resultTypes = #[tb]) (hb : C.prog.underlying tb = some .bool) (hv : s.vars = [])
    (hs : ∀ (ds : List (DataW H)), ds.length = fn.params.size → (s.fn H ds).results = [.lit (.bool true)] ∧ (s.fn H ds).args = ds ∧ (s.fn H ds).vars = [])
    (hok : fn.params.toList.all (fun t => okT C.prog 20 t && (C.prog.readableRec t && decide (t < C.prog.types.size))) = true)
    (hlaw : ∀ lvs, fitAll C.prog fn.params.toList lvs → Ev C.prog f lvs (.sc (.bool true))) :
    ReturnsInHanded {} C os f .any (s.pre6 enc C.prog fn [] false) (s.post enc C.prog fn false true false false) := by
  refine returnsInHanded_of_change (C := C) own started noInit hfn witness ?_
  intro W base args ds gs before hval hW _ _
  have hW' := hW
  obtain ⟨p, q, hA, hV, rfl, _, _⟩ := hW
  rw [hv] at hV
  obtain ⟨rfl, rfl⟩ := trodVars_none hV
  simp only [List.append_nil] at hW'
  rw [List.all_eq_true] at hok
  have hok1 : ∀ t, t ∈ fn.params.toList → okT C.prog 20 t = true := fun t ht => by have := hok t ht; simp only [Bool.and_eq_true, decide_eq_true_eq] at this; exact this.1
  have hok2 : ∀ t, t ∈ fn.params.toList → C.prog.readableRec t = true ∧ t < C.prog.types.size := fun t ht => by have := hok t ht; simp only [Bool.and_eq_true, decide_eq_true_eq] at this; exact this.2
  obtain ⟨lvs, k1, k2, k3⟩ := args_open (R := fun b => W.heap[b]?) (fun _ => rfl) (b0 := base) (r := .any) fn.params.toList args.toList ds p hok1 (fun j t v ht hv => hval j t v (by simpa using ht) (by simpa using hv)) hA
  have hlen : ds.length = fn.params.size := by
    have : ∀ (ts : List TypeId) (vs : List Value) (ds : List (DataW H)) (ps : List MemPlace), DataW.TrodAll enc C.prog W 0 (fun _ => true) true ts vs ds ps → ds.length = ts.length := by
      intro ts
      induction ts with
      | nil => intro vs ds ps h; obtain ⟨_, rfl, _⟩ := trodAll_nil h; rfl
      | cons t ts ih => intro vs ds ps h; obtain ⟨v, vs', d, ds', p, q, rfl, rfl, rfl, _, h2⟩ := trodAll_cons h; simp [ih _ _ _ h2]
    rw [this _ _ _ _ hA]; simp
  obtain ⟨r1, r2, r3⟩ := hs ds hlen
  refine (hlaw lvs k3 (fun b => W.heap[b]?) W args (fun _ _ h => h) (by rw [k1]; simp) (fun i a ha => ?_)).mono ?_
  · obtain ⟨v, g1, g2⟩ := k2 i a ha
    rw [Array.getElem?_toList] at g1
    rw [Array.getD_eq_getD_getElem?, g1]; exact g2
  · intro e W' hx
    obtain ⟨v, R', rfl, _, _, _, hbelow, hro⟩ := hx
    have hvv : v = .bool true := by cases hro; rfl
    subst hvv
    refine ⟨_, rfl, ds, [], p, [], p, [], hW', ?_, ?_, ?_, hbelow.frame _, fun h => by simp at h⟩
    · rw [List.append_nil, r1, hres]
      exact trodAll_mk1 (shut_bool hb true)
    · rw [List.append_nil, r2]
      exact trodAll_below hl hbelow _ _ _ _ hok2 (fun x hx => by simpa using hW'.lt x hx) hA
    · rw [hv, List.append_nil, r3]; exact rfl
end Go.Proofs.Ytfhifkcbdpgomaa
