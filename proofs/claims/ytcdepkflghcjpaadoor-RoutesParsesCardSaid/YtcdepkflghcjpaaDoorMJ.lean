/- Chapter 19: what the reference reads, in plain terms; Chapter 19: whatever is read has that text; Chapter 19: the reference's lines and parts of lines; Chapter 19: a row, by the reference; Chapter 19: the reference's Parse; Chapter 19: Parse returns the specified table; Chapter 19: the argument that is a list of lists, opened. Conditions: none. -/
import Derived.Test.YtcdepkflghcjpaaDoorMI
namespace Go.Proofs.YtcdepkflghcjpaaDoor
set_option linter.unusedSimpArgs false
set_option linter.unusedVariables false
open Go.RowKit
set_option maxRecDepth 20000

def linesE (s : By) : List By × Bool := if (splE 10 s).getLastD [] = [] then ((splE 10 s).dropLast, true) else (splE 10 s, false)
theorem cut_join (c : UInt8) : ∀ l : By, (cutE c l).2.2 = true → l = (cutE c l).1 ++ c :: (cutE c l).2.1
  | [], h => by simp [cutE] at h
  | b :: r, h => by
    unfold cutE at h ⊢
    by_cases e : b = c
    · rw [if_pos e, e]; rfl
    · rw [if_neg e] at h ⊢
      have := cut_join c r h
      simp only [List.cons_append]
      rw [← this]
theorem cut_no (c : UInt8) : ∀ l : By, (cutE c l).2.2 = false → (cutE c l).1 = l ∧ (cutE c l).2.1 = [] := fun l h => by
  rcases idx_cut c l with ⟨_, _, h3, h4⟩ | ⟨i, h1, _⟩
  · exact ⟨h3, h4⟩
  · rw [h] at h1; simp at h1
theorem lines_nil : linesE [] = ([], true) := rfl
theorem lines_hit {s : By} (h : (cutE 10 s).2.2 = true) : linesE s = ((cutE 10 s).1 :: (linesE (cutE 10 s).2.1).1, (linesE (cutE 10 s).2.1).2) := by
  unfold linesE
  rw [spl_cut 10 s, if_pos h]
  have hne := splE_ne 10 (cutE 10 s).2.1
  generalize splE 10 (cutE 10 s).2.1 = ws at *
  match ws, hne with
  | w :: r, _ =>
    by_cases e : (w :: r).getLastD [] = []
    · rw [if_pos e, if_pos (by rw [← e]; rfl)]; rfl
    · rw [if_neg e, if_neg (fun h => e (by rw [← h]; rfl))]
theorem lines_miss {s : By} (h : (cutE 10 s).2.2 = false) (hs : s ≠ []) : linesE s = ([s], false) := by
  have e : splE 10 s = [s] := by rw [spl_cut 10 s, if_neg (by rw [h]; simp)]
  unfold linesE
  rw [e]
  exact if_neg hs
theorem lines_empty {s : By} : (linesE s).1 = [] ↔ s = [] := by
  constructor
  · intro h
    cases e : (cutE 10 s).2.2
    · by_cases hs : s = []
      · exact hs
      · rw [lines_miss e hs] at h; simp at h
    · rw [lines_hit e] at h; simp at h
  · rintro rfl; rfl
def rpL (n : Nat) (ls : List By) (ended : Bool) : Nat → Nat → List (List Int) → Tb × Int × Int
  | 0, _, acc => if 2 * n + 1 < ls.length then ([], 2 * (n : Int) + 2, 3) else (tblE acc, 0, 0)
  | k + 1, i, acc => if ls.length ≤ i + 1 then ([], (i : Int) + 2, 3) else match rwE (ls.getD (i + 1) []) n with
    | none => ([], (i : Int) + 2, 3)
    | some r => if i + 2 = ls.length ∧ ended = false then ([], (i : Int) + 2, 3) else rpL n ls ended k (i + 1) (acc ++ [r])
def refP (s : By) : Tb × Int × Int :=
  if 65536 < s.length then ([], 0, 5) else if (linesE s).1 = [] then ([], 1, 3) else match rsE ((linesE s).1.getD 0 []) with
    | none => ([], 1, 3)
    | some n => if (linesE s).1.length = 1 ∧ (linesE s).2 = false then ([], 1, 3) else rpL n.toNat (linesE s).1 (linesE s).2 (2 * n.toNat) 0 []
theorem itoa_pos_len (k : Int) : Lib.itoa k ≠ [] := by
  by_cases h : k < 0
  · rw [itoa_neg h]; simp
  · rw [itoa_pos (by omega)]
    by_cases h2 : k.toNat < 10
    · rw [dd_small h2]; simp
    · rw [dd_big h2]; simp
theorem rn_nil (lo hi : Int) : rnE [] lo hi = none := by
  unfold rnE
  rw [if_neg]
  rintro ⟨_, _, _, h⟩
  exact itoa_pos_len _ h
theorem rw_nil {n : Nat} : rwE [] n = none := by
  unfold rwE
  split
  · show List.mapM (fun w => rnE w (-2) 31) [[]] = none
    rw [List.mapM_cons, rn_nil]; rfl
  · rfl
theorem rp_prs {n : Nat} {ls : List By} {ended : Bool} : ∀ (k i : Nat) (rest : By) (acc : List (List Int)), k + i = 2 * n → (linesE rest).1 = ls.drop (i + 1) → i < ls.length → (linesE rest).2 = ended → prsL n k i rest acc = rpL n ls ended k i acc
  | 0, i, rest, acc, hk, h1, hi, h2 => by
    unfold prsL rpL
    have hi2 : i = 2 * n := by omega
    by_cases e : rest = []
    · rw [if_pos e, if_neg]
      rw [lines_empty.2 e] at h1
      have := congrArg List.length h1
      rw [List.length_drop, List.length_nil] at this
      omega
    · rw [if_neg e, if_pos, Int.add_comm]
      have hne : (linesE rest).1 ≠ [] := fun h => e (lines_empty.1 h)
      rw [h1] at hne
      have := List.length_pos_iff.2 hne
      rw [List.length_drop] at this
      omega
  | k + 1, i, rest, acc, hk, h1, hi, h2 => by
    unfold prsL rpL
    rw [Int.add_comm 2 (i : Int)]
    by_cases hr : rest = []
    · subst hr
      rw [lines_nil] at h1
      have := congrArg List.length h1
      rw [List.length_drop, List.length_nil] at this
      rw [if_pos (by omega)]
      show (match rwE [] n with
        | none => _
        | some r => _) = _
      rw [rw_nil]
    · have hlen : ¬ ls.length ≤ i + 1 := by
        intro h
        rw [List.drop_of_length_le h] at h1
        exact hr (lines_empty.1 h1)
      rw [if_neg hlen]
      have hd : ls.drop (i + 1) = ls.getD (i + 1) [] :: ls.drop (i + 1 + 1) := by
        rw [List.drop_eq_getElem_cons (by omega), List.getD_eq_getElem?_getD, List.getElem?_eq_getElem (by omega)]; rfl
      cases e : (cutE 10 rest).2.2
      · obtain ⟨c1, _⟩ := cut_no 10 rest e
        rw [lines_miss e hr, hd] at h1
        rw [lines_miss e hr] at h2
        simp only [List.cons.injEq] at h1
        rw [c1, ← h1.1]
        have h3 := congrArg List.length h1.2
        rw [List.length_nil, List.length_drop] at h3
        cases rwE rest n with
        | none => rfl
        | some r =>
          simp only [Bool.false_eq_true, if_false]
          rw [if_pos ⟨by omega, h2.symm⟩]
      · rw [lines_hit e, hd] at h1
        rw [lines_hit e] at h2
        simp only [List.cons.injEq] at h1
        simp only at h2
        rw [← h1.1]
        cases rwE (cutE 10 rest).1 n with
        | none => rfl
        | some r =>
          simp only [if_true]
          rw [if_neg, rp_prs k (i + 1) _ _ (by omega) h1.2 (by omega) h2]
          rintro ⟨q1, q2⟩
          rw [List.drop_of_length_le (by omega)] at h1
          rw [lines_empty.1 h1.2, lines_nil] at h2
          rw [q2] at h2; simp at h2
theorem ref_prs (s : By) : refP s = prsE s := by
  unfold refP prsE
  by_cases hl : 65536 < s.length
  · rw [if_pos hl, if_pos hl]
  rw [if_neg hl, if_neg hl]
  by_cases hs : s = []
  · subst hs; rfl
  rw [if_neg (fun h => hs (lines_empty.1 h))]
  cases e : (cutE 10 s).2.2
  · obtain ⟨c1, _⟩ := cut_no 10 s e
    rw [lines_miss e hs, c1]
    simp only [List.getD_cons_zero, List.length_singleton, true_and, if_true, Bool.false_eq_true, if_false]
    cases rsE s <;> rfl
  · rw [lines_hit e]
    simp only [List.getD_cons_zero, if_true]
    cases rsE (cutE 10 s).1 with
    | none => rfl
    | some n =>
      simp only
      rw [if_neg]
      · exact (rp_prs _ 0 _ [] (by omega) rfl (by simp) rfl).symm
      · rintro ⟨q1, q2⟩
        rw [List.length_cons] at q1
        have : (linesE (cutE 10 s).2.1).1 = [] := List.length_eq_zero_iff.1 (by omega)
        rw [lines_empty.1 this, lines_nil] at q2
        simp at q2
end Go.Proofs.YtcdepkflghcjpaaDoor
namespace Go.Proofs.YtcdepkflghcjpaaDoor
set_option linter.unusedSimpArgs false
set_option linter.unusedVariables false
open Go.RowKit
set_option maxRecDepth 20000

def joinB (c : UInt8) : List By → By
  | [] => []
  | [a] => a
  | a :: b :: r => a ++ c :: joinB c (b :: r)
theorem join_spl (c : UInt8) : ∀ l : By, joinB c (splE c l) = l
  | [] => rfl
  | b :: r => by
    have ih := join_spl c r
    have hne := splE_ne c r
    unfold splE
    generalize splE c r = ws at *
    by_cases h : b = c
    · rw [if_pos h]
      match ws, hne with
      | w :: q, _ =>
        show [] ++ c :: joinB c (w :: q) = _
        rw [ih, h]; rfl
    · rw [if_neg h]
      match ws, hne with
      | [w], _ =>
        show b :: w = _
        rw [← ih]; rfl
      | w :: x :: q, _ =>
        show (b :: w) ++ c :: joinB c (x :: q) = _
        rw [← ih]; rfl
theorem join_line : ∀ r : List Int, joinB 32 (r.map Lib.itoa) = lineW (wdsR r)
  | [] => rfl
  | [a] => (line_one a).symm
  | a :: b :: r => by
    rw [line_cons, ← join_line (b :: r)]; rfl
theorem mapM_inv : ∀ (ws : List By) (r : List Int), ws.mapM (fun w => rnE w (-2) 31) = some r → ws = r.map Lib.itoa ∧ ∀ x, x ∈ r → -2 ≤ x ∧ x < 32
  | [], r, h => by
    simp at h; subst h
    exact ⟨rfl, fun x hx => by simp at hx⟩
  | a :: ws, r, h => by
    rw [List.mapM_cons] at h
    cases h1 : rnE a (-2) 31 with
    | none => rw [h1] at h; simp at h
    | some k =>
      rw [h1] at h
      cases h2 : ws.mapM (fun w => rnE w (-2) 31) with
      | none => rw [h2] at h; simp at h
      | some q =>
        rw [h2] at h; simp at h; subst h
        obtain ⟨g1, g2⟩ := mapM_inv ws q h2
        obtain ⟨k1, k2, k3⟩ := (rnE_some (by omega)).1 h1
        refine ⟨by rw [List.map_cons, ← g1, ← k3], fun x hx => ?_⟩
        rcases List.mem_cons.1 hx with rfl | hx
        · omega
        · exact g2 x hx
theorem row_of {n : Nat} {r : List Int} (hn : r.length = n) (h : ∀ x, x ∈ r → -2 ≤ x ∧ x < 32) : rowOk n r = true := by
  refine row_yes hn fun i hi => ?_
  have := h _ (mem_getD19 hi)
  exact this
theorem rw_inv {a : By} {n : Nat} {r : List Int} (h : rwE a n = some r) : a = lineW (wdsR r) ∧ rowOk n r = true := by
  have hl := rwE_len h
  unfold rwE at h
  split at h
  · obtain ⟨h1, h2⟩ := mapM_inv _ _ h
    refine ⟨?_, row_of hl h2⟩
    rw [← join_line, ← h1, join_spl]
  · simp at h
theorem rs_inv {a : By} {n : Int} (h : rsE a = some n) : a = wRts ++ 32 :: Lib.itoa n := by
  have hj := join_spl 32 a
  unfold rsE at h
  split at h
  · rename_i x y he
    split at h
    · rename_i hx
      obtain ⟨_, _, h3⟩ := (rnE_some (by omega)).1 h
      rw [he] at hj
      rw [← hj, hx, h3]; rfl
    · simp at h
  · simp at h
theorem prs_inv {n : Nat} {t : Tb} : ∀ (k i : Nat) (rest : By) (acc : List (List Int)), prsL n k i rest acc = (t, 0, 0) → ∃ rows : List (List Int), rows.length = k ∧ (∀ r, r ∈ rows → rowOk n r = true) ∧ rest = (rows.map fun r => lineB (wdsR r)).flatten ∧ t = tblE (acc ++ rows)
  | 0, i, rest, acc, h => by
    unfold prsL at h
    split at h
    · rename_i he
      simp only [Prod.mk.injEq] at h
      exact ⟨[], rfl, fun r hr => by simp at hr, he, by rw [List.append_nil]; exact h.1.symm⟩
    · simp at h
  | k + 1, i, rest, acc, h => by
    unfold prsL at h
    cases e : rwE (cutE 10 rest).1 n with
    | none => rw [e] at h; simp at h
    | some r =>
      rw [e] at h
      simp only at h
      split at h
      · rename_i hc
        obtain ⟨rows, g1, g2, g3, g4⟩ := prs_inv k (i + 1) _ _ h
        obtain ⟨q1, q2⟩ := rw_inv e
        refine ⟨r :: rows, by rw [List.length_cons, g1], fun x hx => ?_, ?_, by rw [g4, List.append_assoc]; rfl⟩
        · rcases List.mem_cons.1 hx with rfl | hx
          · exact q2
          · exact g2 x hx
        · rw [List.map_cons, List.flatten_cons, ← g3]
          unfold lineB
          rw [← q1, List.append_assoc]
          exact cut_join 10 rest hc
      · simp at h
theorem rows_tbl {n : Nat} {rows : List (List Int)} (hl : rows.length = 2 * n) : rowsT (tblE rows) = rows := by
  have h1 : (tblE rows).length = n := by rw [tblE_len]; omega
  have h2 := rowsT_len (tblE rows)
  apply List.ext_getElem?
  intro j
  by_cases hj : j < 2 * n
  · have hu : j / 2 < (tblE rows).length := by omega
    obtain ⟨g0, g1⟩ := rowsT_get (tblE rows) (j / 2) hu
    rw [tblE_get rows (by omega)] at g0 g1
    have key : (rowsT (tblE rows)).getD j [] = rows.getD j [] := by
      rcases (show j % 2 = 0 ∨ j % 2 = 1 by omega) with h | h
      · rw [show 2 * (j / 2) = j by omega] at g0; exact g0
      · rw [show 2 * (j / 2) + 1 = j by omega] at g1; exact g1
    rw [List.getD_eq_getElem?_getD, List.getD_eq_getElem?_getD, List.getElem?_eq_getElem (by omega), List.getElem?_eq_getElem (by omega)] at key
    simp only [Option.getD_some] at key
    rw [List.getElem?_eq_getElem (by omega), List.getElem?_eq_getElem (by omega), key]
  · rw [List.getElem?_eq_none (by omega), List.getElem?_eq_none (by omega)]
theorem read_txt {s : By} {t : Tb} (h : prsE s = (t, 0, 0)) : plainT t = true ∧ txtR t (2 * t.length) = s := by
  unfold prsE at h
  split at h
  · simp at h
  cases e : rsE (cutE 10 s).1 with
  | none => rw [e] at h; simp at h
  | some m =>
    rw [e] at h
    simp only at h
    split at h
    · rename_i hc
      obtain ⟨m0, m16⟩ := rsE_bnd e
      obtain ⟨n, rfl⟩ : ∃ n : Nat, m = (n : Int) := ⟨m.toNat, by omega⟩
      rw [Int.toNat_natCast] at h
      obtain ⟨rows, g1, g2, g3, g4⟩ := prs_inv _ _ _ _ h
      rw [List.nil_append] at g4
      have hrt := rows_tbl g1
      rw [← g4] at hrt
      have hlen : t.length = n := by rw [g4, tblE_len]; omega
      have hj := cut_join 10 s hc
      refine ⟨ok_plain (by omega) fun j hj => ?_, ?_⟩
      · rw [hrt, hlen]
        refine g2 _ ?_
        rw [List.getD_eq_getElem?_getD, List.getElem?_eq_getElem (by omega)]
        exact List.getElem_mem _
      · unfold txtR
        rw [hrt, List.take_of_length_le (by omega), ← g3]
        have hw0 : lineW [wRoutes, itS t.length] = wRts ++ 32 :: Lib.itoa t.length := by rw [lineW_cons, lineW_one, itS_data]; rfl
        unfold lineB
        rw [hw0, hlen, ← rs_inv e, List.append_assoc]
        exact hj.symm
    · simp at h
end Go.Proofs.YtcdepkflghcjpaaDoor
namespace Go.Proofs.YtcdepkflghcjpaaDoor
set_option linter.unusedSimpArgs false
set_option linter.unusedVariables false
open Go.RowKit
set_option maxRecDepth 20000

def strF (f : Nat → List LV) (out : List By) : Prop := ∀ j, j < out.length → f j = [.sc (.string (strB (out.getD j [])))]
structure PartI (c : UInt8) (s : By) (i : Nat) (out : List By) (fr : Nat) (f : Nat → List LV) : Prop where
  le : fr ≤ i
  spl : out ++ splE c (s.drop fr) = splE c s
  no : ∀ j, fr ≤ j → j < i → s.getD j 0 ≠ c
  f : strF f out
theorem sub_str (s : By) (a b : Nat) : (strB s).extract a b = strB ((s.drop a).take (b - a)) := by
  rw [← strB_of ((strB s).extract a b), Lib.extract_data, strB_data]
theorem sb_str (s : By) (i : Nat) : sbyte (strB s) i = s.getD i 0 := by
  simp [sbyte, strB]
theorem strF_app {f g : Nat → List LV} {out : List By} {w : By} (h : strF f out) (hg : g 0 = [.sc (.string (strB w))]) : strF (fun j => if j < out.length then f j else g (j - out.length)) (out ++ [w]) := by
  intro j hj
  rw [List.length_append, List.length_singleton] at hj
  show (if j < out.length then f j else g (j - out.length)) = _
  by_cases e : j < out.length
  · rw [if_pos e, h j e, List.getD_eq_getElem?_getD, List.getD_eq_getElem?_getD, List.getElem?_append_left e]
  · have e2 : j = out.length := by omega
    rw [if_neg e, e2, Nat.sub_self, hg, List.getD_eq_getElem?_getD, List.getElem?_append_right (Nat.le_refl _), Nat.sub_self]; rfl
theorem strF_len {f : Nat → List LV} {out : List By} (h : strF f out) : ∀ i, i < out.length → (f i).length = 1 := fun i hi => by rw [h i hi]; rfl
theorem strF_all {f : Nat → List LV} {out : List By} (h : strF f out) (n : Nat) : ∀ i, i < out.length → allC n (List.take 1 (f i)) := fun i hi => by rw [h i hi]; exact ⟨trivial, trivial⟩
theorem strF_txs {f : Nat → List LV} {out : List By} (h : strF f out) : ∀ i, i < out.length → f i = [.sc (.string ((out.map strB).getD i ⟨#[]⟩))] := fun i hi => by rw [h i hi, map_getD_str]
theorem part_piece {c : UInt8} {s : By} {i fr : Nat} (hle : fr ≤ i) (hi : i < s.length) (hc : s.getD i 0 = c) : s.drop fr = (s.drop fr).take (i - fr) ++ c :: s.drop (i + 1) := by
  have h1 : (s.drop fr).drop (i - fr) = c :: s.drop (i + 1) := by
    rw [List.drop_drop, show fr + (i - fr) = i by omega, List.drop_eq_getElem_cons hi]
    rw [List.getD_eq_getElem?_getD, List.getElem?_eq_getElem hi] at hc
    simp only [Option.getD_some] at hc
    rw [hc]
  rw [← h1, List.take_append_drop]
theorem part_free {c : UInt8} {s : By} {i fr : Nat} (hle : fr ≤ i) (hi : i ≤ s.length) (h : ∀ j, fr ≤ j → j < i → s.getD j 0 ≠ c) : ∀ x, x ∈ (s.drop fr).take (i - fr) → x ≠ c := by
  intro x hx
  obtain ⟨j, hj, e⟩ := List.getElem_of_mem hx
  rw [List.length_take, List.length_drop] at hj
  have h1 := h (fr + j) (by omega) (by omega)
  rw [List.getElem_take, List.getElem_drop] at e
  rw [List.getD_eq_getElem?_getD, List.getElem?_eq_getElem (by omega)] at h1
  simp only [Option.getD_some] at h1
  rw [e] at h1; exact h1
theorem PartI.miss {c : UInt8} {s : By} {i fr : Nat} {out : List By} {f : Nat → List LV} (h : PartI c s i out fr f) (hc : s.getD i 0 ≠ c) : PartI c s (i + 1) out fr f :=
  ⟨by have := h.le; omega, h.spl, fun j h1 h2 => by
    by_cases e : j = i
    · rw [e]; exact hc
    · exact h.no j h1 (by omega), h.f⟩
theorem PartI.hit {c : UInt8} {s : By} {i fr : Nat} {out : List By} {f g : Nat → List LV} (h : PartI c s i out fr f) (hi : i < s.length) (hc : s.getD i 0 = c) (hg : g 0 = [.sc (.string ((strB s).extract fr i))]) :
    PartI c s (i + 1) (out ++ [(s.drop fr).take (i - fr)]) (i + 1) (fun j => if j < out.length then f j else g (j - out.length)) := by
  refine ⟨Nat.le_refl _, ?_, fun j h1 h2 => by omega, strF_app h.f (by rw [hg, sub_str])⟩
  have hp := part_piece h.le hi hc
  have hf := part_free h.le (by omega) h.no
  rw [← h.spl, hp, spl_app hf]
  rw [← hp]
  simp
theorem PartI.fin {c : UInt8} {s : By} {i fr : Nat} {out : List By} {f : Nat → List LV} (h : PartI c s i out fr f) (hi : i = s.length) : splE c s = out ++ [s.drop fr] := by
  have hf := part_free h.le (by omega) h.no
  rw [← h.spl]
  congr 1
  rw [List.take_of_length_le (by rw [List.length_drop]; omega)] at hf
  exact spl_one hf
theorem spl_len (c : UInt8) : ∀ l : By, (splE c l).length ≤ l.length + 1
  | [] => by simp [splE]
  | b :: r => by
    have ih := spl_len c r
    unfold splE
    split
    · simp; omega
    · split
      · simp
      · rename_i w ws he
        rw [he] at ih
        simp at ih ⊢; omega
theorem PartI.outlen {c : UInt8} {s : By} {i fr : Nat} {out : List By} {f : Nat → List LV} (h : PartI c s i out fr f) : out.length ≤ s.length + 1 := by
  have h1 := congrArg List.length h.spl
  have h2 := spl_len c s
  rw [List.length_append] at h1
  omega
theorem ev_splitR (s : By) (hs : s.length ≤ 100000) (c : UInt8) : Ev Tryd.prog 94 [.sc (.string (strB s)), .sc (.int .u8 (c.toNat : Int))] (wsV (splE c s)) := by
  unfold wsV
  have hsz := strB_size s
  refine ev_fn Tryd.func94 comp94 (show 2 ≤ Tryd.f94.ntmps by decide) ?_; unfold cf94 rf94; simp only [↓EVP0, EVQ0, EVQ1, EVQ2, EVQ3, EVQ4, EVA, EVK, EVF,EVFW, ↓reduceIte, Nat.reduceEqDiff, Nat.reduceAdd, Nat.reduceSub, Nat.reduceMul, Nat.reduceLT, Nat.reduceLeDiff, reduceCtorEq, Int.reduceToNat, Int.reduceLT, Int.reduceLE, Int.reduceAdd, Int.reduceSub, Int.reduceMul, Int.reduceNeg, Int.reduceEq, Nat.reduceMod, forall_eq_or_imp, forall_eq, forall_const, cond_true, cond_false, decide_true, decide_false, true_imp_iff, implies_true, Int.cast_ofNat_Int, forall_eq']
  refine lwp_for (α := List By × Nat × (Nat → List LV)) s.length (fun i x => PartI c s i x.1 x.2.1 x.2.2) (fun i x => if x.1 = [] then [(0, .sc (.string (strB s))), (1, .sc (.int .u8 (c.toNat : Int))), (5, .nsl), (6, .sc (.int .i64 x.2.1)), (7, .sc (.int .i64 i))] else [(0, .sc (.string (strB s))), (1, .sc (.int .u8 (c.toNat : Int))), (5, .sl 0 (x.1.length - 1) 1 0 x.1.length), (6, .sc (.int .i64 x.2.1)), (7, .sc (.int .i64 i))])
    (fun i x => if x.1 = [] then [] else [(x.1.length - 1, .row 1 x.1.length x.2.2)]) ([], 0, fun _ => []) ⟨Nat.le_refl _, rfl, fun j h1 h2 => by omega, fun j hj => absurd hj (Nat.not_lt_zero _)⟩ ?_ (fun _ _ => Nat.zero_le _) ?_
  · simp only [↓EVP0, EVQ0, EVQ1, EVQ2, EVQ3, EVQ4, EVA, EVK, EVF,EVFW, ↓reduceIte, Nat.reduceEqDiff, Nat.reduceAdd, Nat.reduceSub, Nat.reduceMul, Nat.reduceLT, Nat.reduceLeDiff, reduceCtorEq, Int.reduceToNat, Int.reduceLT, Int.reduceLE, Int.reduceAdd, Int.reduceSub, Int.reduceMul, Int.reduceNeg, Int.reduceEq, Nat.reduceMod, forall_eq_or_imp, forall_eq, forall_const, cond_true, cond_false, decide_true, decide_false, true_imp_iff, implies_true, Int.cast_ofNat_Int, forall_eq']
  rintro i ⟨out, fr, f⟩ hi hI
  simp only at hI ⊢
  unfold lb94_0
  cases out with
  | nil =>
    simp only [if_true]
    simp only [↓EVP0, EVQ0, EVQ1, EVQ2, EVQ3, EVQ4, EVA, EVK, EVF,EVFW, ↓reduceIte, Nat.reduceEqDiff, Nat.reduceAdd, Nat.reduceSub, Nat.reduceMul, Nat.reduceLT, Nat.reduceLeDiff, reduceCtorEq, Int.reduceToNat, Int.reduceLT, Int.reduceLE, Int.reduceAdd, Int.reduceSub, Int.reduceMul, Int.reduceNeg, Int.reduceEq, Nat.reduceMod, forall_eq_or_imp, forall_eq, forall_const, cond_true, cond_false, decide_true, decide_false, true_imp_iff, implies_true, Int.cast_ofNat_Int, forall_eq']
    rw [hsz, sb_str]
    have hle := hI.le
    have hI : PartI c s i [] fr (elO .dead) := ⟨hI.le, hI.spl, hI.no, fun j hj => absurd hj (Nat.not_lt_zero _)⟩
    refine ⟨fun hg => ?_, fun hg => ?_⟩
    · have hi2 : i < s.length := by have := of_decide_eq_true hg; omega
      refine ⟨⟨by omega, by omega⟩, fun hc => ?_, fun hc => ?_⟩
      · have hc2 : s.getD i 0 = c := by
          have := of_decide_eq_true hc
          exact UInt8.toNat_inj.1 (by omega)
        have hP := hI.hit (g := fun _ => [.sc (.string ((strB s).extract fr i))]) hi2 hc2 rfl
        have hne : ¬ (([] : List By) ++ [(s.drop fr).take (i - fr)] = []) := by simp
        refine ⟨⟨by omega, by omega, by omega⟩, fun _ => [.sc (.string ((strB s).extract fr i))], fun j hj => by rw [show j = 0 by omega]; rfl, by unfold appRoom; omega, by unfold In64; omega, by unfold In64; omega, hi2, (([] : List By) ++ [(s.drop fr).take (i - fr)], i + 1, fun j => if j < (([] : List By)).length then (elO .dead) j else [.sc (.string ((strB s).extract fr i))]), hP, ?_⟩
        simp only [hne, if_false]
        simp only [↓EVP0, EVQ0, EVQ1, EVQ2, EVQ3, EVQ4, EVA, EVK, EVF,EVFW, ↓reduceIte, Nat.reduceEqDiff, Nat.reduceAdd, Nat.reduceSub, Nat.reduceMul, Nat.reduceLT, Nat.reduceLeDiff, reduceCtorEq, Int.reduceToNat, Int.reduceLT, Int.reduceLE, Int.reduceAdd, Int.reduceSub, Int.reduceMul, Int.reduceNeg, Int.reduceEq, Nat.reduceMod, forall_eq_or_imp, forall_eq, forall_const, cond_true, cond_false, decide_true, decide_false, true_imp_iff, implies_true, Int.cast_ofNat_Int, forall_eq']
        exact strF_all hP.f _
      · have hc2 : s.getD i 0 ≠ c := by
          intro e
          rw [e] at hc
          simp at hc
        refine ⟨by unfold In64; omega, hi2, (([] : List By), fr, elO .dead), hI.miss hc2, ?_⟩
        simp only [if_true]
        simp only [↓EVP0, EVQ0, EVQ1, EVQ2, EVQ3, EVQ4, EVA, EVK, EVF,EVFW, ↓reduceIte, Nat.reduceEqDiff, Nat.reduceAdd, Nat.reduceSub, Nat.reduceMul, Nat.reduceLT, Nat.reduceLeDiff, reduceCtorEq, Int.reduceToNat, Int.reduceLT, Int.reduceLE, Int.reduceAdd, Int.reduceSub, Int.reduceMul, Int.reduceNeg, Int.reduceEq, Nat.reduceMod, forall_eq_or_imp, forall_eq, forall_const, cond_true, cond_false, decide_true, decide_false, true_imp_iff, implies_true, Int.cast_ofNat_Int, forall_eq']
    · have hi2 : i = s.length := by have := of_decide_eq_false hg; omega
      have hfin := hI.fin hi2
      have he : (strB s).extract fr s.length = strB (s.drop fr) := by
        rw [sub_str, List.take_of_length_le (by rw [List.length_drop]; omega)]
      rw [he]
      have hF := strF_app (g := fun _ => [.sc (.string (strB (s.drop fr)))]) hI.f rfl
      refine ⟨⟨by omega, by omega, by omega⟩, fun _ => [.sc (.string (strB (s.drop fr)))], fun j hj => by rw [show j = 0 by omega]; rfl, by unfold appRoom; omega, by rw [hfin]; rfl, fun j hj => strF_len hF j hj, fun j hj => ?_⟩
      rw [hfin]; exact strF_txs hF j hj
  | cons a out =>
    simp only [reduceCtorEq, if_false]
    simp only [↓EVP0, EVQ0, EVQ1, EVQ2, EVQ3, EVQ4, EVA, EVK, EVF,EVFW, ↓reduceIte, Nat.reduceEqDiff, Nat.reduceAdd, Nat.reduceSub, Nat.reduceMul, Nat.reduceLT, Nat.reduceLeDiff, reduceCtorEq, Int.reduceToNat, Int.reduceLT, Int.reduceLE, Int.reduceAdd, Int.reduceSub, Int.reduceMul, Int.reduceNeg, Int.reduceEq, Nat.reduceMod, forall_eq_or_imp, forall_eq, forall_const, cond_true, cond_false, decide_true, decide_false, true_imp_iff, implies_true, Int.cast_ofNat_Int, forall_eq']
    rw [hsz, sb_str]
    have hle := hI.le
    refine ⟨fun hg => ?_, fun hg => ?_⟩
    · have hi2 : i < s.length := by have := of_decide_eq_true hg; omega
      refine ⟨⟨by omega, by omega⟩, fun hc => ?_, fun hc => ?_⟩
      · have hc2 : s.getD i 0 = c := by
          have := of_decide_eq_true hc
          exact UInt8.toNat_inj.1 (by omega)
        have hP := hI.hit (g := fun _ => [.sc (.string ((strB s).extract fr i))]) hi2 hc2 rfl
        have hne : ¬ ((a :: out) ++ [(s.drop fr).take (i - fr)] = []) := by simp
        refine ⟨⟨by omega, by omega, by omega⟩, fun _ => [.sc (.string ((strB s).extract fr i))], fun j hj => by rw [show j = 0 by omega]; rfl, ⟨Nat.le_refl _, strF_len hI.f⟩, by unfold appRoom; have := hI.outlen; simp only [List.length_cons] at this; omega, by unfold In64; omega, by unfold In64; omega, hi2, ((a :: out) ++ [(s.drop fr).take (i - fr)], i + 1, fun j => if j < ((a :: out)).length then (f) j else [.sc (.string ((strB s).extract fr i))]), hP, ?_⟩
        simp only [hne, if_false]
        simp only [↓EVP0, EVQ0, EVQ1, EVQ2, EVQ3, EVQ4, EVA, EVK, EVF,EVFW, ↓reduceIte, Nat.reduceEqDiff, Nat.reduceAdd, Nat.reduceSub, Nat.reduceMul, Nat.reduceLT, Nat.reduceLeDiff, reduceCtorEq, Int.reduceToNat, Int.reduceLT, Int.reduceLE, Int.reduceAdd, Int.reduceSub, Int.reduceMul, Int.reduceNeg, Int.reduceEq, Nat.reduceMod, forall_eq_or_imp, forall_eq, forall_const, cond_true, cond_false, decide_true, decide_false, true_imp_iff, implies_true, Int.cast_ofNat_Int, forall_eq']
        have hal : (out ++ [(s.drop fr).take (i - fr)]).length = out.length + 1 := by simp
        rw [hal]
        exact ⟨by rw [show out.length + 1 - 1 + 1 = out.length + 1 + 1 - 1 by omega], ⟨by omega, rfl⟩, fun j hj => strF_all hP.f _ j (by simp only [List.length_append, List.length_cons, List.length_nil]; omega)⟩
      · have hc2 : s.getD i 0 ≠ c := by
          intro e
          rw [e] at hc
          simp at hc
        refine ⟨by unfold In64; omega, hi2, ((a :: out), fr, f), hI.miss hc2, ?_⟩
        simp only [reduceCtorEq, if_false]
        simp only [↓EVP0, EVQ0, EVQ1, EVQ2, EVQ3, EVQ4, EVA, EVK, EVF,EVFW, ↓reduceIte, Nat.reduceEqDiff, Nat.reduceAdd, Nat.reduceSub, Nat.reduceMul, Nat.reduceLT, Nat.reduceLeDiff, reduceCtorEq, Int.reduceToNat, Int.reduceLT, Int.reduceLE, Int.reduceAdd, Int.reduceSub, Int.reduceMul, Int.reduceNeg, Int.reduceEq, Nat.reduceMod, forall_eq_or_imp, forall_eq, forall_const, cond_true, cond_false, decide_true, decide_false, true_imp_iff, implies_true, Int.cast_ofNat_Int, forall_eq']
        exact strF_all hI.f _
    · have hi2 : i = s.length := by have := of_decide_eq_false hg; omega
      have hfin := hI.fin hi2
      have he : (strB s).extract fr s.length = strB (s.drop fr) := by
        rw [sub_str, List.take_of_length_le (by rw [List.length_drop]; omega)]
      rw [he]
      have hF := strF_app (g := fun _ => [.sc (.string (strB (s.drop fr)))]) hI.f rfl
      have hol := hI.outlen
      simp only [List.length_cons] at hol
      have hal : ∀ j, j < out.length + 1 + 1 → j < (a :: out ++ [s.drop fr]).length := fun j hj => by simp only [List.length_append, List.length_cons, List.length_nil]; omega
      refine ⟨⟨by omega, by omega, by omega⟩, fun _ => [.sc (.string (strB (s.drop fr)))], fun j hj => by rw [show j = 0 by omega]; rfl, ⟨Nat.le_refl _, strF_len hI.f⟩, by unfold appRoom; omega, by rw [hfin]; simp, ⟨Nat.le_refl _, fun j hj => strF_len hF j (hal j hj)⟩, fun j hj => ?_⟩
      rw [hfin]; exact strF_txs hF j (hal j hj)
theorem lines_of {s rest : By} {out : List By} (h : splE 10 s = out ++ [rest]) : linesE s = if rest = [] then (out, true) else (out ++ [rest], false) := by
  unfold linesE
  rw [h]
  have h1 : (out ++ [rest]).getLastD [] = rest := by simp [List.getLastD_eq_getLast?]
  rw [h1]
  by_cases e : rest = []
  · rw [if_pos e, if_pos e, List.dropLast_concat]
  · rw [if_neg e, if_neg e]
theorem ev_lines (s : By) (hs : s.length ≤ 100000) : Ev Tryd.prog 70 [.sc (.string (strB s))] (.tup [wsV (linesE s).1, .sc (.bool (linesE s).2)]) := by
  unfold wsV
  have hsz := strB_size s
  refine ev_fn Tryd.func70 comp70 (show 1 ≤ Tryd.f70.ntmps by decide) ?_; unfold cf70 rf70; simp only [↓EVP0, EVQ0, EVQ1, EVQ2, EVQ3, EVQ4, EVA, EVK, EVF,EVFW, ↓reduceIte, Nat.reduceEqDiff, Nat.reduceAdd, Nat.reduceSub, Nat.reduceMul, Nat.reduceLT, Nat.reduceLeDiff, reduceCtorEq, Int.reduceToNat, Int.reduceLT, Int.reduceLE, Int.reduceAdd, Int.reduceSub, Int.reduceMul, Int.reduceNeg, Int.reduceEq, Nat.reduceMod, forall_eq_or_imp, forall_eq, forall_const, cond_true, cond_false, decide_true, decide_false, true_imp_iff, implies_true, Int.cast_ofNat_Int, forall_eq']
  refine lwp_for (α := List By × Nat × (Nat → List LV)) s.length (fun i x => PartI 10 s i x.1 x.2.1 x.2.2) (fun i x => if x.1 = [] then [(0, .sc (.string (strB s))), (4, .nsl), (5, .sc (.int .i64 x.2.1)), (6, .sc (.int .i64 i))] else [(0, .sc (.string (strB s))), (4, .sl 0 (x.1.length - 1) 1 0 x.1.length), (5, .sc (.int .i64 x.2.1)), (6, .sc (.int .i64 i))])
    (fun i x => if x.1 = [] then [] else [(x.1.length - 1, .row 1 x.1.length x.2.2)]) ([], 0, fun _ => []) ⟨Nat.le_refl _, rfl, fun j h1 h2 => by omega, fun j hj => absurd hj (Nat.not_lt_zero _)⟩ ?_ (fun _ _ => Nat.zero_le _) ?_
  · simp only [↓EVP0, EVQ0, EVQ1, EVQ2, EVQ3, EVQ4, EVA, EVK, EVF,EVFW, ↓reduceIte, Nat.reduceEqDiff, Nat.reduceAdd, Nat.reduceSub, Nat.reduceMul, Nat.reduceLT, Nat.reduceLeDiff, reduceCtorEq, Int.reduceToNat, Int.reduceLT, Int.reduceLE, Int.reduceAdd, Int.reduceSub, Int.reduceMul, Int.reduceNeg, Int.reduceEq, Nat.reduceMod, forall_eq_or_imp, forall_eq, forall_const, cond_true, cond_false, decide_true, decide_false, true_imp_iff, implies_true, Int.cast_ofNat_Int, forall_eq']
  rintro i ⟨out, fr, f⟩ hi hI
  simp only at hI ⊢
  unfold lb70_0
  cases out with
  | nil =>
    simp only [if_true]
    simp only [↓EVP0, EVQ0, EVQ1, EVQ2, EVQ3, EVQ4, EVA, EVK, EVF,EVFW, ↓reduceIte, Nat.reduceEqDiff, Nat.reduceAdd, Nat.reduceSub, Nat.reduceMul, Nat.reduceLT, Nat.reduceLeDiff, reduceCtorEq, Int.reduceToNat, Int.reduceLT, Int.reduceLE, Int.reduceAdd, Int.reduceSub, Int.reduceMul, Int.reduceNeg, Int.reduceEq, Nat.reduceMod, forall_eq_or_imp, forall_eq, forall_const, cond_true, cond_false, decide_true, decide_false, true_imp_iff, implies_true, Int.cast_ofNat_Int, forall_eq']
    rw [hsz, sb_str]
    have hle := hI.le
    have hI : PartI 10 s i [] fr (elO .dead) := ⟨hI.le, hI.spl, hI.no, fun j hj => absurd hj (Nat.not_lt_zero _)⟩
    refine ⟨fun hg => ?_, fun hg => ?_⟩
    · have hi2 : i < s.length := by have := of_decide_eq_true hg; omega
      refine ⟨⟨by omega, by omega⟩, fun hc => ?_, fun hc => ?_⟩
      · have hc2 : s.getD i 0 = 10 := by
          have := of_decide_eq_true hc
          exact UInt8.toNat_inj.1 (by show (s.getD i 0).toNat = 10; omega)
        have hP := hI.hit (g := fun _ => [.sc (.string ((strB s).extract fr i))]) hi2 hc2 rfl
        have hne : ¬ (([] : List By) ++ [(s.drop fr).take (i - fr)] = []) := by simp
        refine ⟨⟨by omega, by omega, by omega⟩, fun _ => [.sc (.string ((strB s).extract fr i))], fun j hj => by rw [show j = 0 by omega]; rfl, by unfold appRoom; omega, by unfold In64; omega, by unfold In64; omega, hi2, (([] : List By) ++ [(s.drop fr).take (i - fr)], i + 1, fun j => if j < (([] : List By)).length then (elO .dead) j else [.sc (.string ((strB s).extract fr i))]), hP, ?_⟩
        simp only [hne, if_false]
        simp only [↓EVP0, EVQ0, EVQ1, EVQ2, EVQ3, EVQ4, EVA, EVK, EVF,EVFW, ↓reduceIte, Nat.reduceEqDiff, Nat.reduceAdd, Nat.reduceSub, Nat.reduceMul, Nat.reduceLT, Nat.reduceLeDiff, reduceCtorEq, Int.reduceToNat, Int.reduceLT, Int.reduceLE, Int.reduceAdd, Int.reduceSub, Int.reduceMul, Int.reduceNeg, Int.reduceEq, Nat.reduceMod, forall_eq_or_imp, forall_eq, forall_const, cond_true, cond_false, decide_true, decide_false, true_imp_iff, implies_true, Int.cast_ofNat_Int, forall_eq']
        exact strF_all hP.f _
      · have hc2 : s.getD i 0 ≠ 10 := by
          intro e
          rw [e] at hc
          simp at hc
        refine ⟨by unfold In64; omega, hi2, (([] : List By), fr, elO .dead), hI.miss hc2, ?_⟩
        simp only [if_true]
        simp only [↓EVP0, EVQ0, EVQ1, EVQ2, EVQ3, EVQ4, EVA, EVK, EVF,EVFW, ↓reduceIte, Nat.reduceEqDiff, Nat.reduceAdd, Nat.reduceSub, Nat.reduceMul, Nat.reduceLT, Nat.reduceLeDiff, reduceCtorEq, Int.reduceToNat, Int.reduceLT, Int.reduceLE, Int.reduceAdd, Int.reduceSub, Int.reduceMul, Int.reduceNeg, Int.reduceEq, Nat.reduceMod, forall_eq_or_imp, forall_eq, forall_const, cond_true, cond_false, decide_true, decide_false, true_imp_iff, implies_true, Int.cast_ofNat_Int, forall_eq']
    · have hi2 : i = s.length := by have := of_decide_eq_false hg; omega
      have hfin := hI.fin hi2
      have he : (strB s).extract fr s.length = strB (s.drop fr) := by
        rw [sub_str, List.take_of_length_le (by rw [List.length_drop]; omega)]
      rw [he]
      have hln := lines_of hfin
      have hF := strF_app (g := fun _ => [.sc (.string (strB (s.drop fr)))]) hI.f rfl
      refine ⟨fun hg2 => ?_, fun hg2 => ?_⟩
      · have hr : s.drop fr ≠ [] := by
          intro e
          have := congrArg List.length e
          rw [List.length_drop, List.length_nil] at this
          have := of_decide_eq_true hg2
          omega
        rw [if_neg hr] at hln
        refine ⟨⟨by omega, by omega, by omega⟩, fun _ => [.sc (.string (strB (s.drop fr)))], fun j hj => by rw [show j = 0 by omega]; rfl, by unfold appRoom; omega, ⟨by rw [hln]; rfl, fun j hj => strF_len hF j hj, fun j hj => ?_⟩, by rw [hln]⟩
        rw [hln]; exact strF_txs hF j hj
      · have hr : s.drop fr = [] := List.drop_of_length_le (by have := of_decide_eq_false hg2; omega)
        rw [if_pos hr] at hln
        rw [hln]; exact ⟨rfl, rfl⟩
  | cons a out =>
    simp only [reduceCtorEq, if_false]
    simp only [↓EVP0, EVQ0, EVQ1, EVQ2, EVQ3, EVQ4, EVA, EVK, EVF,EVFW, ↓reduceIte, Nat.reduceEqDiff, Nat.reduceAdd, Nat.reduceSub, Nat.reduceMul, Nat.reduceLT, Nat.reduceLeDiff, reduceCtorEq, Int.reduceToNat, Int.reduceLT, Int.reduceLE, Int.reduceAdd, Int.reduceSub, Int.reduceMul, Int.reduceNeg, Int.reduceEq, Nat.reduceMod, forall_eq_or_imp, forall_eq, forall_const, cond_true, cond_false, decide_true, decide_false, true_imp_iff, implies_true, Int.cast_ofNat_Int, forall_eq']
    rw [hsz, sb_str]
    have hle := hI.le
    refine ⟨fun hg => ?_, fun hg => ?_⟩
    · have hi2 : i < s.length := by have := of_decide_eq_true hg; omega
      refine ⟨⟨by omega, by omega⟩, fun hc => ?_, fun hc => ?_⟩
      · have hc2 : s.getD i 0 = 10 := by
          have := of_decide_eq_true hc
          exact UInt8.toNat_inj.1 (by show (s.getD i 0).toNat = 10; omega)
        have hP := hI.hit (g := fun _ => [.sc (.string ((strB s).extract fr i))]) hi2 hc2 rfl
        have hne : ¬ ((a :: out) ++ [(s.drop fr).take (i - fr)] = []) := by simp
        refine ⟨⟨by omega, by omega, by omega⟩, fun _ => [.sc (.string ((strB s).extract fr i))], fun j hj => by rw [show j = 0 by omega]; rfl, ⟨Nat.le_refl _, strF_len hI.f⟩, by unfold appRoom; have := hI.outlen; simp only [List.length_cons] at this; omega, by unfold In64; omega, by unfold In64; omega, hi2, ((a :: out) ++ [(s.drop fr).take (i - fr)], i + 1, fun j => if j < ((a :: out)).length then (f) j else [.sc (.string ((strB s).extract fr i))]), hP, ?_⟩
        simp only [hne, if_false]
        simp only [↓EVP0, EVQ0, EVQ1, EVQ2, EVQ3, EVQ4, EVA, EVK, EVF,EVFW, ↓reduceIte, Nat.reduceEqDiff, Nat.reduceAdd, Nat.reduceSub, Nat.reduceMul, Nat.reduceLT, Nat.reduceLeDiff, reduceCtorEq, Int.reduceToNat, Int.reduceLT, Int.reduceLE, Int.reduceAdd, Int.reduceSub, Int.reduceMul, Int.reduceNeg, Int.reduceEq, Nat.reduceMod, forall_eq_or_imp, forall_eq, forall_const, cond_true, cond_false, decide_true, decide_false, true_imp_iff, implies_true, Int.cast_ofNat_Int, forall_eq']
        have hal : (out ++ [(s.drop fr).take (i - fr)]).length = out.length + 1 := by simp
        rw [hal]
        exact ⟨by rw [show out.length + 1 - 1 + 1 = out.length + 1 + 1 - 1 by omega], ⟨by omega, rfl⟩, fun j hj => strF_all hP.f _ j (by simp only [List.length_append, List.length_cons, List.length_nil]; omega)⟩
      · have hc2 : s.getD i 0 ≠ 10 := by
          intro e
          rw [e] at hc
          simp at hc
        refine ⟨by unfold In64; omega, hi2, ((a :: out), fr, f), hI.miss hc2, ?_⟩
        simp only [reduceCtorEq, if_false]
        simp only [↓EVP0, EVQ0, EVQ1, EVQ2, EVQ3, EVQ4, EVA, EVK, EVF,EVFW, ↓reduceIte, Nat.reduceEqDiff, Nat.reduceAdd, Nat.reduceSub, Nat.reduceMul, Nat.reduceLT, Nat.reduceLeDiff, reduceCtorEq, Int.reduceToNat, Int.reduceLT, Int.reduceLE, Int.reduceAdd, Int.reduceSub, Int.reduceMul, Int.reduceNeg, Int.reduceEq, Nat.reduceMod, forall_eq_or_imp, forall_eq, forall_const, cond_true, cond_false, decide_true, decide_false, true_imp_iff, implies_true, Int.cast_ofNat_Int, forall_eq']
        exact strF_all hI.f _
    · have hi2 : i = s.length := by have := of_decide_eq_false hg; omega
      have hfin := hI.fin hi2
      have he : (strB s).extract fr s.length = strB (s.drop fr) := by
        rw [sub_str, List.take_of_length_le (by rw [List.length_drop]; omega)]
      rw [he]
      have hln := lines_of hfin
      have hF := strF_app (g := fun _ => [.sc (.string (strB (s.drop fr)))]) hI.f rfl
      have hol := hI.outlen
      simp only [List.length_cons] at hol
      have hal : ∀ j, j < out.length + 1 + 1 → j < (a :: out ++ [s.drop fr]).length := fun j hj => by simp only [List.length_append, List.length_cons, List.length_nil]; omega
      refine ⟨fun hg2 => ?_, fun hg2 => ?_⟩
      · have hr : s.drop fr ≠ [] := by
          intro e
          have := congrArg List.length e
          rw [List.length_drop, List.length_nil] at this
          have := of_decide_eq_true hg2
          omega
        rw [if_neg hr] at hln
        refine ⟨⟨by omega, by omega, by omega⟩, fun _ => [.sc (.string (strB (s.drop fr)))], fun j hj => by rw [show j = 0 by omega]; rfl, ⟨Nat.le_refl _, strF_len hI.f⟩, by unfold appRoom; omega, ⟨by rw [hln]; simp, ⟨Nat.le_refl _, fun j hj => strF_len hF j (hal j hj)⟩, fun j hj => ?_⟩, by rw [hln]⟩
        rw [hln]; exact strF_txs hF j (hal j hj)
      · have hr : s.drop fr = [] := List.drop_of_length_le (by have := of_decide_eq_false hg2; omega)
        rw [if_pos hr] at hln
        refine ⟨⟨by rw [hln]; rfl, ⟨Nat.le_refl _, strF_len hI.f⟩, fun j hj => ?_⟩, by rw [hln]⟩
        rw [hln]; exact strF_txs hI.f j hj
end Go.Proofs.YtcdepkflghcjpaaDoor
namespace Go.Proofs.YtcdepkflghcjpaaDoor
set_option linter.unusedSimpArgs false
set_option linter.unusedVariables false
open Go.RowKit
set_option maxRecDepth 20000

theorem itoa_inj {a b : Int} (ha : -2 ≤ a ∧ a ≤ 31) (hb : -2 ≤ b ∧ b ≤ 31) (h : Lib.itoa a = Lib.itoa b) : a = b := by
  have h1 := atoi_itoa ha
  have h2 := atoi_itoa hb
  rw [h] at h1
  rw [h1] at h2
  injection h2
theorem ev_rowR (s : By) (hs : s.length ≤ 100000) (n : Nat) (hn : n ≤ 16) : Ev Tryd.prog 71 [.sc (.string (strB s)), .sc (.int .i64 n)] (.tup [intsV ((rwE s n).getD []), .sc (.bool (rwE s n).isSome)]) := by
  have h1 := ev_splitR s hs 32
  have h2 := fun k hk => ev_number19 k hk
  unfold wsV at h1
  unfold intsV
  refine ev_fn Tryd.func71 comp71 (show 2 ≤ Tryd.f71.ntmps by decide) ?_; unfold cf71 rf71; simp only [↓EVP0, EVQ0, EVQ1, EVQ2, EVQ3, EVQ4, EVA, EVK, EVF,EVFW, ↓reduceIte, Nat.reduceEqDiff, Nat.reduceAdd, Nat.reduceSub, Nat.reduceMul, Nat.reduceLT, Nat.reduceLeDiff, reduceCtorEq, Int.reduceToNat, Int.reduceLT, Int.reduceLE, Int.reduceAdd, Int.reduceSub, Int.reduceMul, Int.reduceNeg, Int.reduceEq, Nat.reduceMod, forall_eq_or_imp, forall_eq, forall_const, cond_true, cond_false, decide_true, decide_false, true_imp_iff, implies_true, Int.cast_ofNat_Int, forall_eq']
  refine callK_ro (h1) ?_ ?_
  · simp only [↓EVP0, EVQ0, EVQ1, EVQ2, EVQ3, EVQ4, EVA, EVK, EVF,EVFW, ↓reduceIte, Nat.reduceEqDiff, Nat.reduceAdd, Nat.reduceSub, Nat.reduceMul, Nat.reduceLT, Nat.reduceLeDiff, reduceCtorEq, Int.reduceToNat, Int.reduceLT, Int.reduceLE, Int.reduceAdd, Int.reduceSub, Int.reduceMul, Int.reduceNeg, Int.reduceEq, Nat.reduceMod, forall_eq_or_imp, forall_eq, forall_const, cond_true, cond_false, decide_true, decide_false, true_imp_iff, implies_true, Int.cast_ofNat_Int, forall_eq']
  simp only [↓EVP0, EVQ0, EVQ1, EVQ2, EVQ3, EVQ4, EVA, EVK, EVF,EVFW, ↓reduceIte, Nat.reduceEqDiff, Nat.reduceAdd, Nat.reduceSub, Nat.reduceMul, Nat.reduceLT, Nat.reduceLeDiff, reduceCtorEq, Int.reduceToNat, Int.reduceLT, Int.reduceLE, Int.reduceAdd, Int.reduceSub, Int.reduceMul, Int.reduceNeg, Int.reduceEq, Nat.reduceMod, forall_eq_or_imp, forall_eq, forall_const, cond_true, cond_false, decide_true, decide_false, true_imp_iff, implies_true, Int.cast_ofNat_Int, forall_eq']
  intro _
  have hR : rwE s n = if (splE 32 s).length = n then (splE 32 s).mapM fun w => rnE w (-2) 31 else none := rfl
  generalize splE 32 s = ws at *
  generalize rwE s n = R at *
  refine ⟨fun hg => ?_, fun hg => ?_⟩
  · have : ¬ ws.length = n := fun h => by rw [decide_eq_true (show (ws.length : Int) = n by omega)] at hg; simp at hg
    rw [hR, if_neg this]; exact ⟨rfl, rfl⟩
  have hn2 : ws.length = n := by
    by_cases h : (ws.length : Int) = n
    · omega
    · rw [decide_eq_false h] at hg; simp at hg
  subst hn2
  rw [if_pos rfl] at hR
  refine lwp_for (α := List Int × List Int) ws.length (fun i x => x.1.length = i ∧ ∀ j, j < i → rnE (ws.getD j []) (-2) 31 = some (x.1.getD j 0)) (fun i x => (if x.1 = [] then [(1, .sc (.int .i64 ws.length)), (6, .rsl 1 ws.length (txsF (ws.map strB))), (7, .nsl), (8, .sc (.int .i64 i))] else [(1, .sc (.int .i64 ws.length)), (6, .rsl 1 ws.length (txsF (ws.map strB))), (7, .sl 1 (x.1.length - 1) 1 0 x.1.length), (8, .sc (.int .i64 i))]))
    (fun _ x => (if x.1 = [] then [] else [(0, .ints x.2), (x.1.length - 1, .ints x.1)])) ([], []) ⟨rfl, fun j hj => by omega⟩ ?_ (fun _ _ => Nat.zero_le _) ?_
  · simp only [↓EVP0, EVQ0, EVQ1, EVQ2, EVQ3, EVQ4, EVA, EVK, EVF,EVFW, ↓reduceIte, Nat.reduceEqDiff, Nat.reduceAdd, Nat.reduceSub, Nat.reduceMul, Nat.reduceLT, Nat.reduceLeDiff, reduceCtorEq, Int.reduceToNat, Int.reduceLT, Int.reduceLE, Int.reduceAdd, Int.reduceSub, Int.reduceMul, Int.reduceNeg, Int.reduceEq, Nat.reduceMod, forall_eq_or_imp, forall_eq, forall_const, cond_true, cond_false, decide_true, decide_false, true_imp_iff, implies_true, Int.cast_ofNat_Int, forall_eq']
  rintro i ⟨out0, X0⟩ hi ⟨ha, hb⟩
  simp only at ha hb ⊢
  unfold lb71_1
  have hout : ∀ v : Int, -2 ≤ v → v < 32 → Lib.itoa v = ws.getD i [] → ∀ {o : List Int}, o = out0 ++ [v] → i < ws.length → o.length = i + 1 ∧ ∀ j, j < i + 1 → rnE (ws.getD j []) (-2) 31 = some (o.getD j 0) := by
    rintro v k1 k2 k3 o rfl _
    refine ⟨by rw [List.length_append, List.length_singleton, ha], fun j hj => ?_⟩
    by_cases e : j = i
    · have h5 : (out0 ++ [v]).getD j 0 = v := by rw [e, ← ha, List.getD_eq_getElem?_getD, List.getElem?_append_right (Nat.le_refl _), Nat.sub_self]; rfl
      rw [h5, e, (rnE_some (k := v) (by omega)).2 ⟨k1, by omega, k3.symm⟩]
    · have h5 : (out0 ++ [v]).getD j 0 = out0.getD j 0 := by rw [List.getD_eq_getElem?_getD, List.getElem?_append_left (by omega), ← List.getD_eq_getElem?_getD]
      rw [h5]; exact hb j (by omega)
  have hst : ∀ (o : List Int) (X : List Int), o = out0 → X = X0 → True := fun _ _ _ _ => trivial
  have hex : i = ws.length → R = some out0 := fun hi2 => by
    rw [hR]
    exact mapM_some [] 0 (f := fun w => rnE w (-2) 31) (l := ws) (xs := out0) (by omega) (fun j hj => hb j (by omega))
  cases out0 with
  | nil =>
    simp only [if_true]
    simp only [↓EVP0, EVQ0, EVQ1, EVQ2, EVQ3, EVQ4, EVA, EVK, EVF,EVFW, ↓reduceIte, Nat.reduceEqDiff, Nat.reduceAdd, Nat.reduceSub, Nat.reduceMul, Nat.reduceLT, Nat.reduceLeDiff, reduceCtorEq, Int.reduceToNat, Int.reduceLT, Int.reduceLE, Int.reduceAdd, Int.reduceSub, Int.reduceMul, Int.reduceNeg, Int.reduceEq, Nat.reduceMod, forall_eq_or_imp, forall_eq, forall_const, cond_true, cond_false, decide_true, decide_false, true_imp_iff, implies_true, Int.cast_ofNat_Int, forall_eq']
    refine ⟨fun hg2 => ?_, fun hg2 => ?_⟩
    rotate_left
    · have hi2 : i = ws.length := by have := of_decide_eq_false hg2; omega
      rw [hex hi2]; exact ⟨rfl, rfl⟩
    have hi2 : i < ws.length := by have := of_decide_eq_true hg2; omega
    refine lwp_for (α := Bool × List Int × List Int) 34 (fun j x => (x.1 = false ∧ x.2.1 = ([] : List Int) ∧ ∀ v : Int, -2 ≤ v → v < (j : Int) - 2 → Lib.itoa v ≠ ws.getD i []) ∨ (x.1 = true ∧ ∃ v : Int, -2 ≤ v ∧ v < (j : Int) - 2 ∧ Lib.itoa v = ws.getD i [] ∧ x.2.1 = ([] : List Int) ++ [v])) (fun j x => (if x.2.1 = [] then [(1, .sc (.int .i64 ws.length)), (6, .rsl 1 ws.length (txsF (ws.map strB))), (7, .nsl), (8, .sc (.int .i64 i)), (9, .sc (.bool x.1)), (10, .sc (.int .i64 ((j : Int) - 2)))] else [(1, .sc (.int .i64 ws.length)), (6, .rsl 1 ws.length (txsF (ws.map strB))), (7, .sl 1 (x.2.1.length - 1) 1 0 x.2.1.length), (8, .sc (.int .i64 i)), (9, .sc (.bool x.1)), (10, .sc (.int .i64 ((j : Int) - 2)))]))
      (fun _ x => (if x.2.1 = [] then [] else [(0, .ints x.2.2), (x.2.1.length - 1, .ints x.2.1)])) (false, ([] : List Int), X0) (.inl ⟨rfl, rfl, fun v h3 h4 => by omega⟩) ?_ (fun _ _ => Nat.zero_le _) ?_
    · simp only [if_true]
      simp only [↓EVP0, EVQ0, EVQ1, EVQ2, EVQ3, EVQ4, EVA, EVK, EVF,EVFW, ↓reduceIte, Nat.reduceEqDiff, Nat.reduceAdd, Nat.reduceSub, Nat.reduceMul, Nat.reduceLT, Nat.reduceLeDiff, reduceCtorEq, Int.reduceToNat, Int.reduceLT, Int.reduceLE, Int.reduceAdd, Int.reduceSub, Int.reduceMul, Int.reduceNeg, Int.reduceEq, Nat.reduceMod, forall_eq_or_imp, forall_eq, forall_const, cond_true, cond_false, decide_true, decide_false, true_imp_iff, implies_true, Int.cast_ofNat_Int, forall_eq']
    rintro j ⟨fnd, out, X⟩ hj hJ
    simp only at hJ ⊢
    unfold lb71_0
    rcases out with _ | ⟨a, out⟩
    · simp only [if_true]
      simp only [↓EVP0, EVQ0, EVQ1, EVQ2, EVQ3, EVQ4, EVA, EVK, EVF,EVFW, ↓reduceIte, Nat.reduceEqDiff, Nat.reduceAdd, Nat.reduceSub, Nat.reduceMul, Nat.reduceLT, Nat.reduceLeDiff, reduceCtorEq, Int.reduceToNat, Int.reduceLT, Int.reduceLE, Int.reduceAdd, Int.reduceSub, Int.reduceMul, Int.reduceNeg, Int.reduceEq, Nat.reduceMod, forall_eq_or_imp, forall_eq, forall_const, cond_true, cond_false, decide_true, decide_false, true_imp_iff, implies_true, Int.cast_ofNat_Int, forall_eq']
      refine ⟨fun hg3 => ?_, fun hg3 => ?_⟩
      rotate_left
      · have hj2 : j = 34 := by have := of_decide_eq_false hg3; omega
        subst hj2
        rcases hJ with ⟨rfl, ho, hno⟩ | ⟨rfl, v, hv1, hv2, hv3, ho⟩
        · have hrn : rnE (ws.getD i []) (-2) 31 = none := by
            cases hr : rnE (ws.getD i []) (-2) 31 with
            | none => rfl
            | some v =>
              obtain ⟨k1, k2, k3⟩ := (rnE_some (by omega)).1 hr
              exact absurd k3.symm (hno v k1 (by omega))
          rw [hR, mapM_none [] (f := fun w => rnE w (-2) 31) hi2 hrn]
          exact ⟨fun _ => ⟨rfl, rfl⟩, fun h => by simp at h⟩
        · refine ⟨fun h => by simp at h, fun _ => ⟨by unfold In64; omega, hi2, (([] : List Int), X), hout v hv1 (by omega) hv3 ho hi2, ?_⟩⟩
          simp only [if_true]
          simp only [↓EVP0, EVQ0, EVQ1, EVQ2, EVQ3, EVQ4, EVA, EVK, EVF,EVFW, ↓reduceIte, Nat.reduceEqDiff, Nat.reduceAdd, Nat.reduceSub, Nat.reduceMul, Nat.reduceLT, Nat.reduceLeDiff, reduceCtorEq, Int.reduceToNat, Int.reduceLT, Int.reduceLE, Int.reduceAdd, Int.reduceSub, Int.reduceMul, Int.reduceNeg, Int.reduceEq, Nat.reduceMod, forall_eq_or_imp, forall_eq, forall_const, cond_true, cond_false, decide_true, decide_false, true_imp_iff, implies_true, Int.cast_ofNat_Int, forall_eq']
      have hj2 : j < 34 := by have := of_decide_eq_true hg3; omega
      have h2' := h2 ((j : Int) - 2) (by omega)
      first | refine qCallK_ro (h2') ?_ ?_ | refine eCallK_ro (h2') ?_ ?_
      · simp only [↓EVP0, EVQ0, EVQ1, EVQ2, EVQ3, EVQ4, EVA, EVK, EVF,EVFW, ↓reduceIte, Nat.reduceEqDiff, Nat.reduceAdd, Nat.reduceSub, Nat.reduceMul, Nat.reduceLT, Nat.reduceLeDiff, reduceCtorEq, Int.reduceToNat, Int.reduceLT, Int.reduceLE, Int.reduceAdd, Int.reduceSub, Int.reduceMul, Int.reduceNeg, Int.reduceEq, Nat.reduceMod, forall_eq_or_imp, forall_eq, forall_const, cond_true, cond_false, decide_true, decide_false, true_imp_iff, implies_true, Int.cast_ofNat_Int, forall_eq']
      simp only [↓EVP0, EVQ0, EVQ1, EVQ2, EVQ3, EVQ4, EVA, EVK, EVF,EVFW, ↓reduceIte, Nat.reduceEqDiff, Nat.reduceAdd, Nat.reduceSub, Nat.reduceMul, Nat.reduceLT, Nat.reduceLeDiff, reduceCtorEq, Int.reduceToNat, Int.reduceLT, Int.reduceLE, Int.reduceAdd, Int.reduceSub, Int.reduceMul, Int.reduceNeg, Int.reduceEq, Nat.reduceMod, forall_eq_or_imp, forall_eq, forall_const, cond_true, cond_false, decide_true, decide_false, true_imp_iff, implies_true, Int.cast_ofNat_Int, forall_eq']
      rw [map_getD_str, show decide (strB (Lib.itoa ((j : Int) - 2)) = strB (ws.getD i [])) = decide (Lib.itoa ((j : Int) - 2) = ws.getD i []) from decide_eq_decide.2 ⟨fun h => strB_inj h, fun h => by rw [h]⟩]
      refine ⟨⟨by omega, by omega⟩, fun hg4 => ?_, fun hg4 => ?_⟩
      · have hw := of_decide_eq_true hg4
        rcases hJ with ⟨rfl, ho, hno⟩ | ⟨rfl, v, hv1, hv2, hv3, ho⟩
        · have hlen : ([] : List Int).length ≤ 17 := by rw [ho, ha]; omega
          have hne : ¬ (([] : List Int) ++ [(j : Int) - 2] = []) := by simp
          refine ⟨by unfold appRoom; omega, by unfold In64; omega, hj2, (true, ([] : List Int) ++ [(j : Int) - 2], [(j : Int) - 2]), .inr ⟨rfl, (j : Int) - 2, by omega, by omega, hw, congrArg (· ++ [(j : Int) - 2]) ho⟩, ?_⟩
          simp only [hne, if_false]
          simp only [↓EVP0, EVQ0, EVQ1, EVQ2, EVQ3, EVQ4, EVA, EVK, EVF,EVFW, ↓reduceIte, Nat.reduceEqDiff, Nat.reduceAdd, Nat.reduceSub, Nat.reduceMul, Nat.reduceLT, Nat.reduceLeDiff, reduceCtorEq, Int.reduceToNat, Int.reduceLT, Int.reduceLE, Int.reduceAdd, Int.reduceSub, Int.reduceMul, Int.reduceNeg, Int.reduceEq, Nat.reduceMod, forall_eq_or_imp, forall_eq, forall_const, cond_true, cond_false, decide_true, decide_false, true_imp_iff, implies_true, Int.cast_ofNat_Int, forall_eq']
          omega
        · have := itoa_inj (a := v) (b := (j : Int) - 2) (by omega) (by omega) (by rw [hv3, hw])
          omega
      · have hw := of_decide_eq_false hg4
        refine ⟨by unfold In64; omega, hj2, (fnd, ([] : List Int), X), ?_, ?_⟩
        · rcases hJ with ⟨h5, ho, hno⟩ | ⟨h5, v, hv1, hv2, hv3, ho⟩
          · refine .inl ⟨h5, ho, fun v k1 k2 => ?_⟩
            by_cases e : v = (j : Int) - 2
            · rw [e]; exact hw
            · exact hno v k1 (by omega)
          · exact .inr ⟨h5, v, hv1, by omega, hv3, ho⟩
        · simp only [if_true]
          simp only [↓EVP0, EVQ0, EVQ1, EVQ2, EVQ3, EVQ4, EVA, EVK, EVF,EVFW, ↓reduceIte, Nat.reduceEqDiff, Nat.reduceAdd, Nat.reduceSub, Nat.reduceMul, Nat.reduceLT, Nat.reduceLeDiff, reduceCtorEq, Int.reduceToNat, Int.reduceLT, Int.reduceLE, Int.reduceAdd, Int.reduceSub, Int.reduceMul, Int.reduceNeg, Int.reduceEq, Nat.reduceMod, forall_eq_or_imp, forall_eq, forall_const, cond_true, cond_false, decide_true, decide_false, true_imp_iff, implies_true, Int.cast_ofNat_Int, forall_eq']
          omega
    · simp only [reduceCtorEq, if_false]
      simp only [↓EVP0, EVQ0, EVQ1, EVQ2, EVQ3, EVQ4, EVA, EVK, EVF,EVFW, ↓reduceIte, Nat.reduceEqDiff, Nat.reduceAdd, Nat.reduceSub, Nat.reduceMul, Nat.reduceLT, Nat.reduceLeDiff, reduceCtorEq, Int.reduceToNat, Int.reduceLT, Int.reduceLE, Int.reduceAdd, Int.reduceSub, Int.reduceMul, Int.reduceNeg, Int.reduceEq, Nat.reduceMod, forall_eq_or_imp, forall_eq, forall_const, cond_true, cond_false, decide_true, decide_false, true_imp_iff, implies_true, Int.cast_ofNat_Int, forall_eq']
      refine ⟨fun hg3 => ?_, fun hg3 => ?_⟩
      rotate_left
      · have hj2 : j = 34 := by have := of_decide_eq_false hg3; omega
        subst hj2
        rcases hJ with ⟨rfl, ho, hno⟩ | ⟨rfl, v, hv1, hv2, hv3, ho⟩
        · have hrn : rnE (ws.getD i []) (-2) 31 = none := by
            cases hr : rnE (ws.getD i []) (-2) 31 with
            | none => rfl
            | some v =>
              obtain ⟨k1, k2, k3⟩ := (rnE_some (by omega)).1 hr
              exact absurd k3.symm (hno v k1 (by omega))
          rw [hR, mapM_none [] (f := fun w => rnE w (-2) 31) hi2 hrn]
          exact ⟨fun _ => ⟨rfl, rfl⟩, fun h => by simp at h⟩
        · refine ⟨fun h => by simp at h, fun _ => ⟨by unfold In64; omega, hi2, ((a :: out), X), hout v hv1 (by omega) hv3 ho hi2, ?_⟩⟩
          simp only [reduceCtorEq, if_false]
          simp only [↓EVP0, EVQ0, EVQ1, EVQ2, EVQ3, EVQ4, EVA, EVK, EVF,EVFW, ↓reduceIte, Nat.reduceEqDiff, Nat.reduceAdd, Nat.reduceSub, Nat.reduceMul, Nat.reduceLT, Nat.reduceLeDiff, reduceCtorEq, Int.reduceToNat, Int.reduceLT, Int.reduceLE, Int.reduceAdd, Int.reduceSub, Int.reduceMul, Int.reduceNeg, Int.reduceEq, Nat.reduceMod, forall_eq_or_imp, forall_eq, forall_const, cond_true, cond_false, decide_true, decide_false, true_imp_iff, implies_true, Int.cast_ofNat_Int, forall_eq']
      have hj2 : j < 34 := by have := of_decide_eq_true hg3; omega
      have h2' := h2 ((j : Int) - 2) (by omega)
      first | refine qCallK_ro (h2') ?_ ?_ | refine eCallK_ro (h2') ?_ ?_
      · simp only [↓EVP0, EVQ0, EVQ1, EVQ2, EVQ3, EVQ4, EVA, EVK, EVF,EVFW, ↓reduceIte, Nat.reduceEqDiff, Nat.reduceAdd, Nat.reduceSub, Nat.reduceMul, Nat.reduceLT, Nat.reduceLeDiff, reduceCtorEq, Int.reduceToNat, Int.reduceLT, Int.reduceLE, Int.reduceAdd, Int.reduceSub, Int.reduceMul, Int.reduceNeg, Int.reduceEq, Nat.reduceMod, forall_eq_or_imp, forall_eq, forall_const, cond_true, cond_false, decide_true, decide_false, true_imp_iff, implies_true, Int.cast_ofNat_Int, forall_eq']
      simp only [↓EVP0, EVQ0, EVQ1, EVQ2, EVQ3, EVQ4, EVA, EVK, EVF,EVFW, ↓reduceIte, Nat.reduceEqDiff, Nat.reduceAdd, Nat.reduceSub, Nat.reduceMul, Nat.reduceLT, Nat.reduceLeDiff, reduceCtorEq, Int.reduceToNat, Int.reduceLT, Int.reduceLE, Int.reduceAdd, Int.reduceSub, Int.reduceMul, Int.reduceNeg, Int.reduceEq, Nat.reduceMod, forall_eq_or_imp, forall_eq, forall_const, cond_true, cond_false, decide_true, decide_false, true_imp_iff, implies_true, Int.cast_ofNat_Int, forall_eq']
      rw [map_getD_str, show decide (strB (Lib.itoa ((j : Int) - 2)) = strB (ws.getD i [])) = decide (Lib.itoa ((j : Int) - 2) = ws.getD i []) from decide_eq_decide.2 ⟨fun h => strB_inj h, fun h => by rw [h]⟩]
      refine ⟨⟨by omega, by omega⟩, fun hg4 => ?_, fun hg4 => ?_⟩
      · have hw := of_decide_eq_true hg4
        rcases hJ with ⟨rfl, ho, hno⟩ | ⟨rfl, v, hv1, hv2, hv3, ho⟩
        · have hlen : (a :: out).length ≤ 17 := by rw [ho, ha]; omega
          have hne : ¬ ((a :: out) ++ [(j : Int) - 2] = []) := by simp
          simp only [List.length_cons] at hlen
          refine ⟨Nat.le_refl _, by unfold appRoom; omega, by unfold In64; omega, hj2, (true, (a :: out) ++ [(j : Int) - 2], X), .inr ⟨rfl, (j : Int) - 2, by omega, by omega, hw, congrArg (· ++ [(j : Int) - 2]) ho⟩, ?_⟩
          simp only [hne, if_false]
          simp only [↓EVP0, EVQ0, EVQ1, EVQ2, EVQ3, EVQ4, EVA, EVK, EVF,EVFW, ↓reduceIte, Nat.reduceEqDiff, Nat.reduceAdd, Nat.reduceSub, Nat.reduceMul, Nat.reduceLT, Nat.reduceLeDiff, reduceCtorEq, Int.reduceToNat, Int.reduceLT, Int.reduceLE, Int.reduceAdd, Int.reduceSub, Int.reduceMul, Int.reduceNeg, Int.reduceEq, Nat.reduceMod, forall_eq_or_imp, forall_eq, forall_const, cond_true, cond_false, decide_true, decide_false, true_imp_iff, implies_true, Int.cast_ofNat_Int, forall_eq']
          have hal : (out ++ [(j : Int) - 2]).length = out.length + 1 := by simp
          exact ⟨⟨by rw [hal]; rfl, by omega⟩, by rw [hal]; omega, by rw [List.take_of_length_le (Nat.le_refl _)]⟩
        · have := itoa_inj (a := v) (b := (j : Int) - 2) (by omega) (by omega) (by rw [hv3, hw])
          omega
      · have hw := of_decide_eq_false hg4
        refine ⟨by unfold In64; omega, hj2, (fnd, (a :: out), X), ?_, ?_⟩
        · rcases hJ with ⟨h5, ho, hno⟩ | ⟨h5, v, hv1, hv2, hv3, ho⟩
          · refine .inl ⟨h5, ho, fun v k1 k2 => ?_⟩
            by_cases e : v = (j : Int) - 2
            · rw [e]; exact hw
            · exact hno v k1 (by omega)
          · exact .inr ⟨h5, v, hv1, by omega, hv3, ho⟩
        · simp only [reduceCtorEq, if_false]
          simp only [↓EVP0, EVQ0, EVQ1, EVQ2, EVQ3, EVQ4, EVA, EVK, EVF,EVFW, ↓reduceIte, Nat.reduceEqDiff, Nat.reduceAdd, Nat.reduceSub, Nat.reduceMul, Nat.reduceLT, Nat.reduceLeDiff, reduceCtorEq, Int.reduceToNat, Int.reduceLT, Int.reduceLE, Int.reduceAdd, Int.reduceSub, Int.reduceMul, Int.reduceNeg, Int.reduceEq, Nat.reduceMod, forall_eq_or_imp, forall_eq, forall_const, cond_true, cond_false, decide_true, decide_false, true_imp_iff, implies_true, Int.cast_ofNat_Int, forall_eq']
          omega
  | cons a0 out0 =>
    simp only [reduceCtorEq, if_false]
    simp only [↓EVP0, EVQ0, EVQ1, EVQ2, EVQ3, EVQ4, EVA, EVK, EVF,EVFW, ↓reduceIte, Nat.reduceEqDiff, Nat.reduceAdd, Nat.reduceSub, Nat.reduceMul, Nat.reduceLT, Nat.reduceLeDiff, reduceCtorEq, Int.reduceToNat, Int.reduceLT, Int.reduceLE, Int.reduceAdd, Int.reduceSub, Int.reduceMul, Int.reduceNeg, Int.reduceEq, Nat.reduceMod, forall_eq_or_imp, forall_eq, forall_const, cond_true, cond_false, decide_true, decide_false, true_imp_iff, implies_true, Int.cast_ofNat_Int, forall_eq']
    refine ⟨fun hg2 => ?_, fun hg2 => ?_⟩
    rotate_left
    · have hi2 : i = ws.length := by have := of_decide_eq_false hg2; omega
      rw [hex hi2]; exact ⟨⟨rfl, Nat.le_refl _, fun j _ => rfl⟩, rfl⟩
    have hi2 : i < ws.length := by have := of_decide_eq_true hg2; omega
    refine lwp_for (α := Bool × List Int × List Int) 34 (fun j x => (x.1 = false ∧ x.2.1 = (a0 :: out0) ∧ ∀ v : Int, -2 ≤ v → v < (j : Int) - 2 → Lib.itoa v ≠ ws.getD i []) ∨ (x.1 = true ∧ ∃ v : Int, -2 ≤ v ∧ v < (j : Int) - 2 ∧ Lib.itoa v = ws.getD i [] ∧ x.2.1 = (a0 :: out0) ++ [v])) (fun j x => (if x.2.1 = [] then [(1, .sc (.int .i64 ws.length)), (6, .rsl 1 ws.length (txsF (ws.map strB))), (7, .nsl), (8, .sc (.int .i64 i)), (9, .sc (.bool x.1)), (10, .sc (.int .i64 ((j : Int) - 2)))] else [(1, .sc (.int .i64 ws.length)), (6, .rsl 1 ws.length (txsF (ws.map strB))), (7, .sl 1 (x.2.1.length - 1) 1 0 x.2.1.length), (8, .sc (.int .i64 i)), (9, .sc (.bool x.1)), (10, .sc (.int .i64 ((j : Int) - 2)))]))
      (fun _ x => (if x.2.1 = [] then [] else [(0, .ints x.2.2), (x.2.1.length - 1, .ints x.2.1)])) (false, (a0 :: out0), X0) (.inl ⟨rfl, rfl, fun v h3 h4 => by omega⟩) ?_ (fun _ _ => Nat.zero_le _) ?_
    · simp only [reduceCtorEq, if_false]
      simp only [↓EVP0, EVQ0, EVQ1, EVQ2, EVQ3, EVQ4, EVA, EVK, EVF,EVFW, ↓reduceIte, Nat.reduceEqDiff, Nat.reduceAdd, Nat.reduceSub, Nat.reduceMul, Nat.reduceLT, Nat.reduceLeDiff, reduceCtorEq, Int.reduceToNat, Int.reduceLT, Int.reduceLE, Int.reduceAdd, Int.reduceSub, Int.reduceMul, Int.reduceNeg, Int.reduceEq, Nat.reduceMod, forall_eq_or_imp, forall_eq, forall_const, cond_true, cond_false, decide_true, decide_false, true_imp_iff, implies_true, Int.cast_ofNat_Int, forall_eq']
    rintro j ⟨fnd, out, X⟩ hj hJ
    simp only at hJ ⊢
    unfold lb71_0
    rcases out with _ | ⟨a, out⟩
    · simp only [if_true]
      simp only [↓EVP0, EVQ0, EVQ1, EVQ2, EVQ3, EVQ4, EVA, EVK, EVF,EVFW, ↓reduceIte, Nat.reduceEqDiff, Nat.reduceAdd, Nat.reduceSub, Nat.reduceMul, Nat.reduceLT, Nat.reduceLeDiff, reduceCtorEq, Int.reduceToNat, Int.reduceLT, Int.reduceLE, Int.reduceAdd, Int.reduceSub, Int.reduceMul, Int.reduceNeg, Int.reduceEq, Nat.reduceMod, forall_eq_or_imp, forall_eq, forall_const, cond_true, cond_false, decide_true, decide_false, true_imp_iff, implies_true, Int.cast_ofNat_Int, forall_eq']
      refine ⟨fun hg3 => ?_, fun hg3 => ?_⟩
      rotate_left
      · have hj2 : j = 34 := by have := of_decide_eq_false hg3; omega
        subst hj2
        rcases hJ with ⟨rfl, ho, hno⟩ | ⟨rfl, v, hv1, hv2, hv3, ho⟩
        · have hrn : rnE (ws.getD i []) (-2) 31 = none := by
            cases hr : rnE (ws.getD i []) (-2) 31 with
            | none => rfl
            | some v =>
              obtain ⟨k1, k2, k3⟩ := (rnE_some (by omega)).1 hr
              exact absurd k3.symm (hno v k1 (by omega))
          rw [hR, mapM_none [] (f := fun w => rnE w (-2) 31) hi2 hrn]
          exact ⟨fun _ => ⟨rfl, rfl⟩, fun h => by simp at h⟩
        · refine ⟨fun h => by simp at h, fun _ => ⟨by unfold In64; omega, hi2, (([] : List Int), X), hout v hv1 (by omega) hv3 ho hi2, ?_⟩⟩
          simp only [if_true]
          simp only [↓EVP0, EVQ0, EVQ1, EVQ2, EVQ3, EVQ4, EVA, EVK, EVF,EVFW, ↓reduceIte, Nat.reduceEqDiff, Nat.reduceAdd, Nat.reduceSub, Nat.reduceMul, Nat.reduceLT, Nat.reduceLeDiff, reduceCtorEq, Int.reduceToNat, Int.reduceLT, Int.reduceLE, Int.reduceAdd, Int.reduceSub, Int.reduceMul, Int.reduceNeg, Int.reduceEq, Nat.reduceMod, forall_eq_or_imp, forall_eq, forall_const, cond_true, cond_false, decide_true, decide_false, true_imp_iff, implies_true, Int.cast_ofNat_Int, forall_eq']
      have hj2 : j < 34 := by have := of_decide_eq_true hg3; omega
      have h2' := h2 ((j : Int) - 2) (by omega)
      first | refine qCallK_ro (h2') ?_ ?_ | refine eCallK_ro (h2') ?_ ?_
      · simp only [↓EVP0, EVQ0, EVQ1, EVQ2, EVQ3, EVQ4, EVA, EVK, EVF,EVFW, ↓reduceIte, Nat.reduceEqDiff, Nat.reduceAdd, Nat.reduceSub, Nat.reduceMul, Nat.reduceLT, Nat.reduceLeDiff, reduceCtorEq, Int.reduceToNat, Int.reduceLT, Int.reduceLE, Int.reduceAdd, Int.reduceSub, Int.reduceMul, Int.reduceNeg, Int.reduceEq, Nat.reduceMod, forall_eq_or_imp, forall_eq, forall_const, cond_true, cond_false, decide_true, decide_false, true_imp_iff, implies_true, Int.cast_ofNat_Int, forall_eq']
      simp only [↓EVP0, EVQ0, EVQ1, EVQ2, EVQ3, EVQ4, EVA, EVK, EVF,EVFW, ↓reduceIte, Nat.reduceEqDiff, Nat.reduceAdd, Nat.reduceSub, Nat.reduceMul, Nat.reduceLT, Nat.reduceLeDiff, reduceCtorEq, Int.reduceToNat, Int.reduceLT, Int.reduceLE, Int.reduceAdd, Int.reduceSub, Int.reduceMul, Int.reduceNeg, Int.reduceEq, Nat.reduceMod, forall_eq_or_imp, forall_eq, forall_const, cond_true, cond_false, decide_true, decide_false, true_imp_iff, implies_true, Int.cast_ofNat_Int, forall_eq']
      rw [map_getD_str, show decide (strB (Lib.itoa ((j : Int) - 2)) = strB (ws.getD i [])) = decide (Lib.itoa ((j : Int) - 2) = ws.getD i []) from decide_eq_decide.2 ⟨fun h => strB_inj h, fun h => by rw [h]⟩]
      refine ⟨⟨by omega, by omega⟩, fun hg4 => ?_, fun hg4 => ?_⟩
      · have hw := of_decide_eq_true hg4
        rcases hJ with ⟨rfl, ho, hno⟩ | ⟨rfl, v, hv1, hv2, hv3, ho⟩
        · have hlen : ([] : List Int).length ≤ 17 := by rw [ho, ha]; omega
          have hne : ¬ (([] : List Int) ++ [(j : Int) - 2] = []) := by simp
          refine ⟨by unfold appRoom; omega, by unfold In64; omega, hj2, (true, ([] : List Int) ++ [(j : Int) - 2], [(j : Int) - 2]), .inr ⟨rfl, (j : Int) - 2, by omega, by omega, hw, congrArg (· ++ [(j : Int) - 2]) ho⟩, ?_⟩
          simp only [hne, if_false]
          simp only [↓EVP0, EVQ0, EVQ1, EVQ2, EVQ3, EVQ4, EVA, EVK, EVF,EVFW, ↓reduceIte, Nat.reduceEqDiff, Nat.reduceAdd, Nat.reduceSub, Nat.reduceMul, Nat.reduceLT, Nat.reduceLeDiff, reduceCtorEq, Int.reduceToNat, Int.reduceLT, Int.reduceLE, Int.reduceAdd, Int.reduceSub, Int.reduceMul, Int.reduceNeg, Int.reduceEq, Nat.reduceMod, forall_eq_or_imp, forall_eq, forall_const, cond_true, cond_false, decide_true, decide_false, true_imp_iff, implies_true, Int.cast_ofNat_Int, forall_eq']
          omega
        · have := itoa_inj (a := v) (b := (j : Int) - 2) (by omega) (by omega) (by rw [hv3, hw])
          omega
      · have hw := of_decide_eq_false hg4
        refine ⟨by unfold In64; omega, hj2, (fnd, ([] : List Int), X), ?_, ?_⟩
        · rcases hJ with ⟨h5, ho, hno⟩ | ⟨h5, v, hv1, hv2, hv3, ho⟩
          · refine .inl ⟨h5, ho, fun v k1 k2 => ?_⟩
            by_cases e : v = (j : Int) - 2
            · rw [e]; exact hw
            · exact hno v k1 (by omega)
          · exact .inr ⟨h5, v, hv1, by omega, hv3, ho⟩
        · simp only [if_true]
          simp only [↓EVP0, EVQ0, EVQ1, EVQ2, EVQ3, EVQ4, EVA, EVK, EVF,EVFW, ↓reduceIte, Nat.reduceEqDiff, Nat.reduceAdd, Nat.reduceSub, Nat.reduceMul, Nat.reduceLT, Nat.reduceLeDiff, reduceCtorEq, Int.reduceToNat, Int.reduceLT, Int.reduceLE, Int.reduceAdd, Int.reduceSub, Int.reduceMul, Int.reduceNeg, Int.reduceEq, Nat.reduceMod, forall_eq_or_imp, forall_eq, forall_const, cond_true, cond_false, decide_true, decide_false, true_imp_iff, implies_true, Int.cast_ofNat_Int, forall_eq']
          omega
    · simp only [reduceCtorEq, if_false]
      simp only [↓EVP0, EVQ0, EVQ1, EVQ2, EVQ3, EVQ4, EVA, EVK, EVF,EVFW, ↓reduceIte, Nat.reduceEqDiff, Nat.reduceAdd, Nat.reduceSub, Nat.reduceMul, Nat.reduceLT, Nat.reduceLeDiff, reduceCtorEq, Int.reduceToNat, Int.reduceLT, Int.reduceLE, Int.reduceAdd, Int.reduceSub, Int.reduceMul, Int.reduceNeg, Int.reduceEq, Nat.reduceMod, forall_eq_or_imp, forall_eq, forall_const, cond_true, cond_false, decide_true, decide_false, true_imp_iff, implies_true, Int.cast_ofNat_Int, forall_eq']
      refine ⟨fun hg3 => ?_, fun hg3 => ?_⟩
      rotate_left
      · have hj2 : j = 34 := by have := of_decide_eq_false hg3; omega
        subst hj2
        rcases hJ with ⟨rfl, ho, hno⟩ | ⟨rfl, v, hv1, hv2, hv3, ho⟩
        · have hrn : rnE (ws.getD i []) (-2) 31 = none := by
            cases hr : rnE (ws.getD i []) (-2) 31 with
            | none => rfl
            | some v =>
              obtain ⟨k1, k2, k3⟩ := (rnE_some (by omega)).1 hr
              exact absurd k3.symm (hno v k1 (by omega))
          rw [hR, mapM_none [] (f := fun w => rnE w (-2) 31) hi2 hrn]
          exact ⟨fun _ => ⟨rfl, rfl⟩, fun h => by simp at h⟩
        · refine ⟨fun h => by simp at h, fun _ => ⟨by unfold In64; omega, hi2, ((a :: out), X), hout v hv1 (by omega) hv3 ho hi2, ?_⟩⟩
          simp only [reduceCtorEq, if_false]
          simp only [↓EVP0, EVQ0, EVQ1, EVQ2, EVQ3, EVQ4, EVA, EVK, EVF,EVFW, ↓reduceIte, Nat.reduceEqDiff, Nat.reduceAdd, Nat.reduceSub, Nat.reduceMul, Nat.reduceLT, Nat.reduceLeDiff, reduceCtorEq, Int.reduceToNat, Int.reduceLT, Int.reduceLE, Int.reduceAdd, Int.reduceSub, Int.reduceMul, Int.reduceNeg, Int.reduceEq, Nat.reduceMod, forall_eq_or_imp, forall_eq, forall_const, cond_true, cond_false, decide_true, decide_false, true_imp_iff, implies_true, Int.cast_ofNat_Int, forall_eq']
      have hj2 : j < 34 := by have := of_decide_eq_true hg3; omega
      have h2' := h2 ((j : Int) - 2) (by omega)
      first | refine qCallK_ro (h2') ?_ ?_ | refine eCallK_ro (h2') ?_ ?_
      · simp only [↓EVP0, EVQ0, EVQ1, EVQ2, EVQ3, EVQ4, EVA, EVK, EVF,EVFW, ↓reduceIte, Nat.reduceEqDiff, Nat.reduceAdd, Nat.reduceSub, Nat.reduceMul, Nat.reduceLT, Nat.reduceLeDiff, reduceCtorEq, Int.reduceToNat, Int.reduceLT, Int.reduceLE, Int.reduceAdd, Int.reduceSub, Int.reduceMul, Int.reduceNeg, Int.reduceEq, Nat.reduceMod, forall_eq_or_imp, forall_eq, forall_const, cond_true, cond_false, decide_true, decide_false, true_imp_iff, implies_true, Int.cast_ofNat_Int, forall_eq']
      simp only [↓EVP0, EVQ0, EVQ1, EVQ2, EVQ3, EVQ4, EVA, EVK, EVF,EVFW, ↓reduceIte, Nat.reduceEqDiff, Nat.reduceAdd, Nat.reduceSub, Nat.reduceMul, Nat.reduceLT, Nat.reduceLeDiff, reduceCtorEq, Int.reduceToNat, Int.reduceLT, Int.reduceLE, Int.reduceAdd, Int.reduceSub, Int.reduceMul, Int.reduceNeg, Int.reduceEq, Nat.reduceMod, forall_eq_or_imp, forall_eq, forall_const, cond_true, cond_false, decide_true, decide_false, true_imp_iff, implies_true, Int.cast_ofNat_Int, forall_eq']
      rw [map_getD_str, show decide (strB (Lib.itoa ((j : Int) - 2)) = strB (ws.getD i [])) = decide (Lib.itoa ((j : Int) - 2) = ws.getD i []) from decide_eq_decide.2 ⟨fun h => strB_inj h, fun h => by rw [h]⟩]
      refine ⟨⟨by omega, by omega⟩, fun hg4 => ?_, fun hg4 => ?_⟩
      · have hw := of_decide_eq_true hg4
        rcases hJ with ⟨rfl, ho, hno⟩ | ⟨rfl, v, hv1, hv2, hv3, ho⟩
        · have hlen : (a :: out).length ≤ 17 := by rw [ho, ha]; omega
          have hne : ¬ ((a :: out) ++ [(j : Int) - 2] = []) := by simp
          simp only [List.length_cons] at hlen
          refine ⟨Nat.le_refl _, by unfold appRoom; omega, by unfold In64; omega, hj2, (true, (a :: out) ++ [(j : Int) - 2], X), .inr ⟨rfl, (j : Int) - 2, by omega, by omega, hw, congrArg (· ++ [(j : Int) - 2]) ho⟩, ?_⟩
          simp only [hne, if_false]
          simp only [↓EVP0, EVQ0, EVQ1, EVQ2, EVQ3, EVQ4, EVA, EVK, EVF,EVFW, ↓reduceIte, Nat.reduceEqDiff, Nat.reduceAdd, Nat.reduceSub, Nat.reduceMul, Nat.reduceLT, Nat.reduceLeDiff, reduceCtorEq, Int.reduceToNat, Int.reduceLT, Int.reduceLE, Int.reduceAdd, Int.reduceSub, Int.reduceMul, Int.reduceNeg, Int.reduceEq, Nat.reduceMod, forall_eq_or_imp, forall_eq, forall_const, cond_true, cond_false, decide_true, decide_false, true_imp_iff, implies_true, Int.cast_ofNat_Int, forall_eq']
          have hal : (out ++ [(j : Int) - 2]).length = out.length + 1 := by simp
          exact ⟨⟨by rw [hal]; rfl, by omega⟩, by rw [hal]; omega, by rw [List.take_of_length_le (Nat.le_refl _)]⟩
        · have := itoa_inj (a := v) (b := (j : Int) - 2) (by omega) (by omega) (by rw [hv3, hw])
          omega
      · have hw := of_decide_eq_false hg4
        refine ⟨by unfold In64; omega, hj2, (fnd, (a :: out), X), ?_, ?_⟩
        · rcases hJ with ⟨h5, ho, hno⟩ | ⟨h5, v, hv1, hv2, hv3, ho⟩
          · refine .inl ⟨h5, ho, fun v k1 k2 => ?_⟩
            by_cases e : v = (j : Int) - 2
            · rw [e]; exact hw
            · exact hno v k1 (by omega)
          · exact .inr ⟨h5, v, hv1, by omega, hv3, ho⟩
        · simp only [reduceCtorEq, if_false]
          simp only [↓EVP0, EVQ0, EVQ1, EVQ2, EVQ3, EVQ4, EVA, EVK, EVF,EVFW, ↓reduceIte, Nat.reduceEqDiff, Nat.reduceAdd, Nat.reduceSub, Nat.reduceMul, Nat.reduceLT, Nat.reduceLeDiff, reduceCtorEq, Int.reduceToNat, Int.reduceLT, Int.reduceLE, Int.reduceAdd, Int.reduceSub, Int.reduceMul, Int.reduceNeg, Int.reduceEq, Nat.reduceMod, forall_eq_or_imp, forall_eq, forall_const, cond_true, cond_false, decide_true, decide_false, true_imp_iff, implies_true, Int.cast_ofNat_Int, forall_eq']
          omega
end Go.Proofs.YtcdepkflghcjpaaDoor
namespace Go.Proofs.YtcdepkflghcjpaaDoor
set_option linter.unusedSimpArgs false
set_option linter.unusedVariables false
open Go.RowKit
set_option maxRecDepth 20000

theorem rs_iff {a : By} {k : Int} : rsE a = some k ↔ (0 ≤ k ∧ k ≤ 16) ∧ a = wRts ++ 32 :: Lib.itoa k := by
  constructor
  · intro h; exact ⟨rsE_bnd h, rs_inv h⟩
  · rintro ⟨hk, rfl⟩
    have hwr : ∀ x, x ∈ wRts → x ≠ 10 ∧ x ≠ 32 := by decide
    unfold rsE
    rw [spl_app fun x hx => (hwr x hx).2, spl_one fun x hx => (itoa_ne (k := k) (by omega) x hx).2]
    simp only [if_true]
    exact (rnE_some (by omega)).2 ⟨by omega, by omega, rfl⟩
def szK (l : By) (k : Nat) : Int := match rsE l with
  | some v => if v < k then v else -1
  | none => -1
theorem szK_step {l : By} {k : Nat} (hk : k ≤ 16) : szK l (k + 1) = if l = wRts ++ 32 :: Lib.itoa k then (k : Int) else szK l k := by
  unfold szK
  by_cases h : l = wRts ++ 32 :: Lib.itoa k
  · rw [if_pos h, rs_iff.2 ⟨by omega, h⟩]
    simp only
    rw [if_pos (by omega)]
  · rw [if_neg h]
    cases hr : rsE l with
    | none => rfl
    | some v =>
      have h2 := (rs_iff.1 hr).2
      have hne : v ≠ k := fun e => h (by rw [← e]; exact h2)
      simp only
      by_cases e : v < k
      · rw [if_pos e, if_pos (by omega)]
      · rw [if_neg e, if_neg (by omega)]
theorem szK_end {l : By} : szK l 17 = (rsE l).getD (-1) := by
  unfold szK
  cases hr : rsE l with
  | none => rfl
  | some v =>
    have := (rs_iff.1 hr).1
    simp only [Option.getD_some]
    rw [if_pos (by omega)]
theorem lines_len (s : By) : (linesE s).1.length ≤ s.length + 1 := by
  have h := spl_len 10 s
  unfold linesE
  split
  · rw [List.length_dropLast]; omega
  · exact h
theorem lines_le (s : By) : ∀ w, w ∈ (linesE s).1 → w.length ≤ s.length := by
  intro w hw
  unfold linesE at hw
  split at hw
  · exact splE_le 10 s w ((List.dropLast_sublist _).subset hw)
  · exact splE_le 10 s w hw
theorem ev_parseR (s : By) (hs : s.length ≤ 100000) : Ev Tryd.prog 35 [.sc (.string (strB s))] (.tup [.rsl 2 (refP s).1.length (tabF (refP s).1), .sc (.int .i64 (refP s).2.1), .sc (.int .i64 (refP s).2.2)]) := by
  have h1 := ev_lines s hs
  have h2 := fun k hk => ev_number19 k hk
  have h3 := fun l hl n hn => ev_rowR l hl n hn
  have hll := lines_len s
  have hle := lines_le s
  have hE : refP s = if 65536 < s.length then ([], 0, 5) else if (linesE s).1 = [] then ([], 1, 3) else match rsE ((linesE s).1.getD 0 []) with
    | none => ([], 1, 3)
    | some n => if (linesE s).1.length = 1 ∧ (linesE s).2 = false then ([], 1, 3) else rpL n.toNat (linesE s).1 (linesE s).2 (2 * n.toNat) 0 [] := rfl
  have hsz := strB_size s
  unfold wsV at h1
  unfold intsV at h3
  refine ev_fn Tryd.func35 comp35 (show 1 ≤ Tryd.f35.ntmps by decide) ?_; unfold cf35 rf35; simp only [↓EVP0, EVQ0, EVQ1, EVQ2, EVQ3, EVQ4, EVA, EVK, EVF,EVFW,EVFS, ↓reduceIte, Nat.reduceEqDiff, Nat.reduceAdd, Nat.reduceSub, Nat.reduceMul, Nat.reduceLT, Nat.reduceLeDiff, reduceCtorEq, Int.reduceToNat, Int.reduceLT, Int.reduceLE, Int.reduceAdd, Int.reduceSub, Int.reduceMul, Int.reduceNeg, Int.reduceEq, Nat.reduceMod, forall_eq_or_imp, forall_eq, forall_const, cond_true, cond_false, decide_true, decide_false, true_imp_iff, implies_true, Int.cast_ofNat_Int, forall_eq']
  rw [hsz]
  refine ⟨fun hg => ?_, fun hg => ?_⟩
  · rw [hE, if_pos (by have := of_decide_eq_true hg; omega)]; exact ⟨rfl, rfl, rfl⟩
  rw [if_neg (by have := of_decide_eq_false hg; omega)] at hE
  refine callK_ro (h1) ?_ ?_
  · simp only [↓EVP0, EVQ0, EVQ1, EVQ2, EVQ3, EVQ4, EVA, EVK, EVF,EVFW,EVFS, ↓reduceIte, Nat.reduceEqDiff, Nat.reduceAdd, Nat.reduceSub, Nat.reduceMul, Nat.reduceLT, Nat.reduceLeDiff, reduceCtorEq, Int.reduceToNat, Int.reduceLT, Int.reduceLE, Int.reduceAdd, Int.reduceSub, Int.reduceMul, Int.reduceNeg, Int.reduceEq, Nat.reduceMod, forall_eq_or_imp, forall_eq, forall_const, cond_true, cond_false, decide_true, decide_false, true_imp_iff, implies_true, Int.cast_ofNat_Int, forall_eq']
  simp only [↓EVP0, EVQ0, EVQ1, EVQ2, EVQ3, EVQ4, EVA, EVK, EVF,EVFW,EVFS, ↓reduceIte, Nat.reduceEqDiff, Nat.reduceAdd, Nat.reduceSub, Nat.reduceMul, Nat.reduceLT, Nat.reduceLeDiff, reduceCtorEq, Int.reduceToNat, Int.reduceLT, Int.reduceLE, Int.reduceAdd, Int.reduceSub, Int.reduceMul, Int.reduceNeg, Int.reduceEq, Nat.reduceMod, forall_eq_or_imp, forall_eq, forall_const, cond_true, cond_false, decide_true, decide_false, true_imp_iff, implies_true, Int.cast_ofNat_Int, forall_eq']
  generalize linesE s = q at *
  obtain ⟨ls, ended⟩ := q
  simp only at hE hll hle ⊢
  intro _
  refine ⟨fun hg2 => ?_, fun hg2 => ?_⟩
  · rw [hE, if_pos (List.length_eq_zero_iff.1 (by have := of_decide_eq_true hg2; omega))]; exact ⟨rfl, rfl, rfl⟩
  have hl0 : 0 < ls.length := by have := of_decide_eq_false hg2; omega
  rw [if_neg (fun h => by rw [h] at hl0; simp at hl0)] at hE
  refine lwp_for (α := Unit) 17 (fun _ _ => True) (fun k _ => [(5, .rsl 1 ls.length (txsF (ls.map strB))), (6, .sc (.bool ended)), (7, .sc (.int .i64 3)), (8, .sc (.int .i64 (szK (ls.getD 0 []) k))), (9, .sc (.int .i64 k))])
    (fun _ _ => []) () trivial ?_ (fun _ _ => Nat.zero_le _) ?_
  · simp only [↓EVP0, EVQ0, EVQ1, EVQ2, EVQ3, EVQ4, EVA, EVK, EVF,EVFW,EVFS, ↓reduceIte, Nat.reduceEqDiff, Nat.reduceAdd, Nat.reduceSub, Nat.reduceMul, Nat.reduceLT, Nat.reduceLeDiff, reduceCtorEq, Int.reduceToNat, Int.reduceLT, Int.reduceLE, Int.reduceAdd, Int.reduceSub, Int.reduceMul, Int.reduceNeg, Int.reduceEq, Nat.reduceMod, forall_eq_or_imp, forall_eq, forall_const, cond_true, cond_false, decide_true, decide_false, true_imp_iff, implies_true, Int.cast_ofNat_Int, forall_eq']
    unfold szK
    cases hr : rsE (ls.getD 0 []) with
    | none => rfl
    | some v =>
      have := (rs_iff.1 hr).1
      simp only
      rw [if_neg (by omega)]
  intro k _ hk _
  unfold lb35_1
  simp only [↓EVP0, EVQ0, EVQ1, EVQ2, EVQ3, EVQ4, EVA, EVK, EVF,EVFW,EVFS, ↓reduceIte, Nat.reduceEqDiff, Nat.reduceAdd, Nat.reduceSub, Nat.reduceMul, Nat.reduceLT, Nat.reduceLeDiff, reduceCtorEq, Int.reduceToNat, Int.reduceLT, Int.reduceLE, Int.reduceAdd, Int.reduceSub, Int.reduceMul, Int.reduceNeg, Int.reduceEq, Nat.reduceMod, forall_eq_or_imp, forall_eq, forall_const, cond_true, cond_false, decide_true, decide_false, true_imp_iff, implies_true, Int.cast_ofNat_Int, forall_eq']
  refine ⟨fun hg3 => ?_, fun hg3 => ?_⟩
  · have hk2 : k < 17 := by have := of_decide_eq_true hg3; omega
    have h2' := h2 k (by omega)
    refine ⟨by omega, ?_⟩
    first | refine qCallK_ro (h2') ?_ ?_ | refine eCallK_ro (h2') ?_ ?_
    · simp only [↓EVP0, EVQ0, EVQ1, EVQ2, EVQ3, EVQ4, EVA, EVK, EVF,EVFW,EVFS, ↓reduceIte, Nat.reduceEqDiff, Nat.reduceAdd, Nat.reduceSub, Nat.reduceMul, Nat.reduceLT, Nat.reduceLeDiff, reduceCtorEq, Int.reduceToNat, Int.reduceLT, Int.reduceLE, Int.reduceAdd, Int.reduceSub, Int.reduceMul, Int.reduceNeg, Int.reduceEq, Nat.reduceMod, forall_eq_or_imp, forall_eq, forall_const, cond_true, cond_false, decide_true, decide_false, true_imp_iff, implies_true, Int.cast_ofNat_Int, forall_eq']
    simp only [↓EVP0, EVQ0, EVQ1, EVQ2, EVQ3, EVQ4, EVA, EVK, EVF,EVFW,EVFS, ↓reduceIte, Nat.reduceEqDiff, Nat.reduceAdd, Nat.reduceSub, Nat.reduceMul, Nat.reduceLT, Nat.reduceLeDiff, reduceCtorEq, Int.reduceToNat, Int.reduceLT, Int.reduceLE, Int.reduceAdd, Int.reduceSub, Int.reduceMul, Int.reduceNeg, Int.reduceEq, Nat.reduceMod, forall_eq_or_imp, forall_eq, forall_const, cond_true, cond_false, decide_true, decide_false, true_imp_iff, implies_true, Int.cast_ofNat_Int, forall_eq']
    have c1 : (⟨#[114, 111, 117, 116, 101, 115, 32]⟩ : ByteArray) = strB (wRts ++ [32]) := rfl
    have hkl := itoa_len (n := k) (by omega)
    have e2 : wRts ++ [32] ++ Lib.itoa k = wRts ++ 32 :: Lib.itoa k := by simp
    rw [c1, str_app, map_getD_str, strB_size, strB_size, e2]
    have hst := szK_step (l := ls.getD 0 []) (k := k) (by omega)
    refine ⟨by simp only [List.length_append, List.length_singleton]; have : wRts.length = 6 := rfl; omega, fun hg4 => ?_, fun hg4 => ?_⟩
    · rw [if_pos (strB_inj (of_decide_eq_true hg4))] at hst
      exact ⟨by unfold In64; omega, hk2, (), hst.symm⟩
    · rw [if_neg (fun h => of_decide_eq_false hg4 (by rw [h]))] at hst
      exact ⟨by unfold In64; omega, hk2, (), hst.symm⟩
  have hk2 : k = 17 := by have := of_decide_eq_false hg3; omega
  subst hk2
  rw [szK_end]
  cases hr : rsE (ls.getD 0 []) with
  | none =>
    rw [hr] at hE
    rw [hE]
    exact ⟨fun _ => ⟨rfl, rfl, rfl⟩, fun h => by simp at h⟩
  | some m =>
    rw [hr] at hE
    obtain ⟨⟨m0, m16⟩, _⟩ := rs_iff.1 hr
    simp only at hE
    simp only [Option.getD_some]
    have hm0 : decide (m < 0) = false := decide_eq_false (by omega)
    rw [hm0]
    refine ⟨fun hg3 => ?_, fun hg3 => ?_⟩
    · rw [if_pos (by
        by_cases e : ls.length = 1
        · refine ⟨e, ?_⟩
          rw [decide_eq_true (show (ls.length : Int) = 1 by omega)] at hg3
          cases ended <;> simp at hg3 ⊢
        · rw [decide_eq_false (show ¬ (ls.length : Int) = 1 by omega)] at hg3; simp at hg3)] at hE
      rw [hE]; exact ⟨rfl, rfl, rfl⟩
    rw [if_neg (by
      rintro ⟨e1, e2⟩
      rw [decide_eq_true (show (ls.length : Int) = 1 by omega), e2] at hg3; simp at hg3)] at hE
    obtain ⟨n, rfl⟩ : ∃ n : Nat, m = (n : Int) := ⟨m.toNat, by omega⟩
    rw [Int.toNat_natCast] at hE
    rw [Int.toNat_natCast]
    refine ⟨by unfold mksC; omega, ?_⟩
    refine lwp_for (α := List (List Int)) (2 * n) (fun i acc => acc.length = i ∧ refP s = rpL n ls ended (2 * n - i) i acc) (fun i acc => [(5, .rsl 1 ls.length (txsF (ls.map strB))), (6, .sc (.bool ended)), (7, .sc (.int .i64 3)), (8, .sc (.int .i64 n)), (10, .sl 0 0 2 0 n), (11, .sc (.int .i64 i))])
      (fun i acc => [(0, .row 2 n (rwP acc))]) [] ⟨rfl, hE⟩ ?_ (fun _ _ => Nat.zero_le _) ?_
    · simp only [↓EVP0, EVQ0, EVQ1, EVQ2, EVQ3, EVQ4, EVA, EVK, EVF,EVFW,EVFS, ↓reduceIte, Nat.reduceEqDiff, Nat.reduceAdd, Nat.reduceSub, Nat.reduceMul, Nat.reduceLT, Nat.reduceLeDiff, reduceCtorEq, Int.reduceToNat, Int.reduceLT, Int.reduceLE, Int.reduceAdd, Int.reduceSub, Int.reduceMul, Int.reduceNeg, Int.reduceEq, Nat.reduceMod, forall_eq_or_imp, forall_eq, forall_const, cond_true, cond_false, decide_true, decide_false, true_imp_iff, implies_true, Int.cast_ofNat_Int, forall_eq']
      exact ⟨rfl, rwP_all⟩
    clear hE
    rintro i acc hi ⟨ha, hE⟩
    unfold lb35_0
    simp only [↓EVP0, EVQ0, EVQ1, EVQ2, EVQ3, EVQ4, EVA, EVK, EVF,EVFW,EVFS, ↓reduceIte, Nat.reduceEqDiff, Nat.reduceAdd, Nat.reduceSub, Nat.reduceMul, Nat.reduceLT, Nat.reduceLeDiff, reduceCtorEq, Int.reduceToNat, Int.reduceLT, Int.reduceLE, Int.reduceAdd, Int.reduceSub, Int.reduceMul, Int.reduceNeg, Int.reduceEq, Nat.reduceMod, forall_eq_or_imp, forall_eq, forall_const, cond_true, cond_false, decide_true, decide_false, true_imp_iff, implies_true, Int.cast_ofNat_Int, forall_eq']
    refine ⟨by unfold In64; omega, fun hg4 => ?_, fun hg4 _ => ⟨by unfold In64; omega, by unfold In64; omega, fun hg5 => ?_, fun hg5 => ?_⟩⟩
    rotate_left
    · have hi2 : i = 2 * n := by have := of_decide_eq_false hg4; omega
      rw [show 2 * n - i = 0 by omega] at hE
      unfold rpL at hE
      rw [if_pos (by have := of_decide_eq_true hg5; omega)] at hE
      rw [hE]
      exact ⟨by unfold In64; omega, by unfold In64; omega, rfl, rfl, rfl⟩
    · have hi2 : i = 2 * n := by have := of_decide_eq_false hg4; omega
      rw [show 2 * n - i = 0 by omega] at hE
      unfold rpL at hE
      rw [if_neg (by have := of_decide_eq_false hg5; omega)] at hE
      rw [hE]
      exact ⟨⟨by simp only; rw [tblE_len]; omega, ⟨Nat.le_refl _, fun i _ => rfl⟩, fun j hj => rwP_tab (by omega) hj⟩, rfl, rfl⟩
    have hi2 : i < 2 * n := by have := of_decide_eq_true hg4; omega
    rw [show 2 * n - i = (2 * n - (i + 1)) + 1 by omega] at hE
    unfold rpL at hE
    refine ⟨by unfold In64; omega, fun _ => ⟨fun hg5 => ?_, fun hg5 => ?_⟩⟩
    · rw [if_pos (by have := of_decide_eq_true hg5; omega)] at hE
      rw [hE]
      exact ⟨by unfold In64; omega, rfl, rfl, rfl⟩
    have hi3 : i + 1 < ls.length := by have := of_decide_eq_false hg5; omega
    rw [if_neg (by omega)] at hE
    rw [show ((i : Int) + 1).toNat = i + 1 by omega, map_getD_str]
    have h31 := h3 (ls.getD (i + 1) []) (by have := hle _ (getD_mem [] hi3); omega) n (by omega)
    refine ⟨by unfold In64; omega, ⟨by omega, by omega⟩, ?_⟩
    refine callK_ro (h31) ?_ ?_
    · simp only [↓EVP0, EVQ0, EVQ1, EVQ2, EVQ3, EVQ4, EVA, EVK, EVF,EVFW,EVFS, ↓reduceIte, Nat.reduceEqDiff, Nat.reduceAdd, Nat.reduceSub, Nat.reduceMul, Nat.reduceLT, Nat.reduceLeDiff, reduceCtorEq, Int.reduceToNat, Int.reduceLT, Int.reduceLE, Int.reduceAdd, Int.reduceSub, Int.reduceMul, Int.reduceNeg, Int.reduceEq, Nat.reduceMod, forall_eq_or_imp, forall_eq, forall_const, cond_true, cond_false, decide_true, decide_false, true_imp_iff, implies_true, Int.cast_ofNat_Int, forall_eq']
    simp only [↓EVP0, EVQ0, EVQ1, EVQ2, EVQ3, EVQ4, EVA, EVK, EVF,EVFW,EVFS, ↓reduceIte, Nat.reduceEqDiff, Nat.reduceAdd, Nat.reduceSub, Nat.reduceMul, Nat.reduceLT, Nat.reduceLeDiff, reduceCtorEq, Int.reduceToNat, Int.reduceLT, Int.reduceLE, Int.reduceAdd, Int.reduceSub, Int.reduceMul, Int.reduceNeg, Int.reduceEq, Nat.reduceMod, forall_eq_or_imp, forall_eq, forall_const, cond_true, cond_false, decide_true, decide_false, true_imp_iff, implies_true, Int.cast_ofNat_Int, forall_eq']
    cases hrw : rwE (ls.getD (i + 1) []) n with
    | none =>
      rw [hrw] at hE
      rw [hE]
      exact ⟨fun h => by simp at h, fun _ => ⟨by unfold In64; omega, rfl, rfl, rfl⟩, fun h => by simp at h⟩
    | some r =>
      rw [hrw] at hE
      simp only at hE
      refine ⟨fun _ => by unfold In64; omega, fun hg6 => ?_, fun hg6 => ?_⟩
      · rw [if_pos (by
          by_cases e : i + 2 = ls.length
          · refine ⟨e, ?_⟩
            rw [decide_eq_true (show (i : Int) + 2 = ls.length by omega)] at hg6
            cases ended <;> simp at hg6 ⊢
          · rw [decide_eq_false (show ¬ (i : Int) + 2 = ls.length by omega)] at hg6; simp at hg6)] at hE
        rw [hE]
        exact ⟨by unfold In64; omega, rfl, rfl, rfl⟩
      rw [if_neg (by
        rintro ⟨q1, q2⟩
        rw [decide_eq_true (show (i : Int) + 2 = ls.length by omega), q2] at hg6; simp at hg6)] at hE
      have e1 : (i : Int).tdiv 2 = ((i / 2 : Nat) : Int) := rfl
      have e2 : (i : Int).tmod 2 = ((i % 2 : Nat) : Int) := rfl
      rw [e1, e2, Int.toNat_natCast, Int.toNat_natCast]
      exact ⟨⟨by omega, by unfold In64; omega⟩, by omega, ⟨by omega, by omega⟩, ⟨by omega, by omega⟩, ⟨by omega, by omega, rfl⟩, by unfold In64; omega, hi2, acc ++ [r], ⟨by simp only [List.length_append, List.length_singleton]; omega, hE⟩, rw_step ha, rwP_all⟩
end Go.Proofs.YtcdepkflghcjpaaDoor
namespace Go.Proofs.YtcdepkflghcjpaaDoor
set_option linter.unusedSimpArgs false
set_option linter.unusedVariables false
open Go.RowKit
set_option maxRecDepth 20000

theorem prsL_zero {n : Nat} : ∀ (k i : Nat) (rest : By) (acc : List (List Int)), (prsL n k i rest acc).2.2 = 0 → (prsL n k i rest acc).2.1 = 0
  | 0, i, rest, acc => by
    unfold prsL
    split
    · intro _; rfl
    · intro h; simp at h
  | k + 1, i, rest, acc => by
    unfold prsL
    cases rwE (cutE 10 rest).1 n with
    | none => intro h; simp at h
    | some r =>
      simp only
      split
      · exact prsL_zero k (i + 1) _ _
      · intro h; simp at h
theorem prs_zero (s : By) : (prsE s).2.2 = 0 → (prsE s).2.1 = 0 := by
  unfold prsE
  split
  · intro h; simp at h
  cases rsE (cutE 10 s).1 with
  | none => intro h; simp at h
  | some m =>
    simp only
    split
    · exact prsL_zero _ _ _ _
    · intro h; simp at h
theorem ev_lawParses (s : By) : Ev Tryd.prog 10 [.sc (.string (strB s))] (.sc (.bool true)) := by
  have h0 := ev_awake19
  have h1 := fun hs => ev_parse19 s hs
  have h2 := fun hs => ev_parseR s hs
  rw [ref_prs] at h2
  have hsz := strB_size s
  have h3 := ev_same (prsE s).1 (prsE s).1
  rw [sameT_refl] at h3
  have h4 := ev_formatA (prsE s).1
  unfold tabV at *
  refine ev_fn Tryd.func10 comp10 (show 1 ≤ Tryd.f10.ntmps by decide) ?_; unfold cf10 rf10; simp only [↓EVP0, EVQ0, EVQ1, EVQ2, EVQ3, EVQ4, EVA, EVK, EVF, ↓reduceIte, Nat.reduceEqDiff, Nat.reduceAdd, Nat.reduceSub, Nat.reduceMul, Nat.reduceLT, Nat.reduceLeDiff, reduceCtorEq, Int.reduceToNat, Int.reduceLT, Int.reduceLE, Int.reduceAdd, Int.reduceSub, Int.reduceMul, Int.reduceNeg, Int.reduceEq, Nat.reduceMod, forall_eq_or_imp, forall_eq, forall_const, cond_true, cond_false, decide_true, decide_false, true_imp_iff, implies_true, Int.cast_ofNat_Int, forall_eq']
  refine callK_ro (h0) ?_ ?_
  · simp only [↓EVP0, EVQ0, EVQ1, EVQ2, EVQ3, EVQ4, EVA, EVK, EVF, ↓reduceIte, Nat.reduceEqDiff, Nat.reduceAdd, Nat.reduceSub, Nat.reduceMul, Nat.reduceLT, Nat.reduceLeDiff, reduceCtorEq, Int.reduceToNat, Int.reduceLT, Int.reduceLE, Int.reduceAdd, Int.reduceSub, Int.reduceMul, Int.reduceNeg, Int.reduceEq, Nat.reduceMod, forall_eq_or_imp, forall_eq, forall_const, cond_true, cond_false, decide_true, decide_false, true_imp_iff, implies_true, Int.cast_ofNat_Int, forall_eq']
  simp only [↓EVP0, EVQ0, EVQ1, EVQ2, EVQ3, EVQ4, EVA, EVK, EVF, ↓reduceIte, Nat.reduceEqDiff, Nat.reduceAdd, Nat.reduceSub, Nat.reduceMul, Nat.reduceLT, Nat.reduceLeDiff, reduceCtorEq, Int.reduceToNat, Int.reduceLT, Int.reduceLE, Int.reduceAdd, Int.reduceSub, Int.reduceMul, Int.reduceNeg, Int.reduceEq, Nat.reduceMod, forall_eq_or_imp, forall_eq, forall_const, cond_true, cond_false, decide_true, decide_false, true_imp_iff, implies_true, Int.cast_ofNat_Int, forall_eq']
  rw [hsz]
  refine ⟨fun _ => trivial, fun hg => ?_⟩
  have hl : s.length ≤ 500 := by have := of_decide_eq_false hg; omega
  have h11 := h1 (by omega)
  have h21 := h2 (by omega)
  have hz := prs_zero s
  have hrd := fun t h => read_txt (s := s) (t := t) h
  generalize prsE s = R at *
  obtain ⟨t, k, e⟩ := R
  simp only at h11 h21 h3 h4 hz
  refine callK_ro (h11) ?_ ?_
  · simp only [↓EVP0, EVQ0, EVQ1, EVQ2, EVQ3, EVQ4, EVA, EVK, EVF, ↓reduceIte, Nat.reduceEqDiff, Nat.reduceAdd, Nat.reduceSub, Nat.reduceMul, Nat.reduceLT, Nat.reduceLeDiff, reduceCtorEq, Int.reduceToNat, Int.reduceLT, Int.reduceLE, Int.reduceAdd, Int.reduceSub, Int.reduceMul, Int.reduceNeg, Int.reduceEq, Nat.reduceMod, forall_eq_or_imp, forall_eq, forall_const, cond_true, cond_false, decide_true, decide_false, true_imp_iff, implies_true, Int.cast_ofNat_Int, forall_eq']
  simp only [↓EVP0, EVQ0, EVQ1, EVQ2, EVQ3, EVQ4, EVA, EVK, EVF, ↓reduceIte, Nat.reduceEqDiff, Nat.reduceAdd, Nat.reduceSub, Nat.reduceMul, Nat.reduceLT, Nat.reduceLeDiff, reduceCtorEq, Int.reduceToNat, Int.reduceLT, Int.reduceLE, Int.reduceAdd, Int.reduceSub, Int.reduceMul, Int.reduceNeg, Int.reduceEq, Nat.reduceMod, forall_eq_or_imp, forall_eq, forall_const, cond_true, cond_false, decide_true, decide_false, true_imp_iff, implies_true, Int.cast_ofNat_Int, forall_eq']
  refine callK_ro (h21) ?_ ?_
  · simp only [↓EVP0, EVQ0, EVQ1, EVQ2, EVQ3, EVQ4, EVA, EVK, EVF, ↓reduceIte, Nat.reduceEqDiff, Nat.reduceAdd, Nat.reduceSub, Nat.reduceMul, Nat.reduceLT, Nat.reduceLeDiff, reduceCtorEq, Int.reduceToNat, Int.reduceLT, Int.reduceLE, Int.reduceAdd, Int.reduceSub, Int.reduceMul, Int.reduceNeg, Int.reduceEq, Nat.reduceMod, forall_eq_or_imp, forall_eq, forall_const, cond_true, cond_false, decide_true, decide_false, true_imp_iff, implies_true, Int.cast_ofNat_Int, forall_eq']
  simp only [↓EVP0, EVQ0, EVQ1, EVQ2, EVQ3, EVQ4, EVA, EVK, EVF, ↓reduceIte, Nat.reduceEqDiff, Nat.reduceAdd, Nat.reduceSub, Nat.reduceMul, Nat.reduceLT, Nat.reduceLeDiff, reduceCtorEq, Int.reduceToNat, Int.reduceLT, Int.reduceLE, Int.reduceAdd, Int.reduceSub, Int.reduceMul, Int.reduceNeg, Int.reduceEq, Nat.reduceMod, forall_eq_or_imp, forall_eq, forall_const, cond_true, cond_false, decide_true, decide_false, true_imp_iff, implies_true, Int.cast_ofNat_Int, forall_eq']
  (refine lops_ge_imp ?_; simp only [↓EVP0, EVQ0, EVQ1, EVQ2, EVQ3, EVQ4, EVA, EVK, EVF, ↓reduceIte, Nat.reduceEqDiff, Nat.reduceAdd, Nat.reduceSub, Nat.reduceMul, Nat.reduceLT, Nat.reduceLeDiff, reduceCtorEq, Int.reduceToNat, Int.reduceLT, Int.reduceLE, Int.reduceAdd, Int.reduceSub, Int.reduceMul, Int.reduceNeg, Int.reduceEq, Nat.reduceMod, forall_eq_or_imp, forall_eq, forall_const, cond_true, cond_false, decide_true, decide_false, true_imp_iff, implies_true, Int.cast_ofNat_Int, forall_eq'])
  refine gCallK_ro _ (fun _ => h3) (fun _ => ?_) ?_
  · simp only [↓EVP0, EVQ0, EVQ1, EVQ2, EVQ3, EVQ4, EVA, EVK, EVF, ↓reduceIte, Nat.reduceEqDiff, Nat.reduceAdd, Nat.reduceSub, Nat.reduceMul, Nat.reduceLT, Nat.reduceLeDiff, reduceCtorEq, Int.reduceToNat, Int.reduceLT, Int.reduceLE, Int.reduceAdd, Int.reduceSub, Int.reduceMul, Int.reduceNeg, Int.reduceEq, Nat.reduceMod, forall_eq_or_imp, forall_eq, forall_const, cond_true, cond_false, decide_true, decide_false, true_imp_iff, implies_true, Int.cast_ofNat_Int, forall_eq']
  simp only [↓EVP0, EVQ0, EVQ1, EVQ2, EVQ3, EVQ4, EVA, EVK, EVF, ↓reduceIte, Nat.reduceEqDiff, Nat.reduceAdd, Nat.reduceSub, Nat.reduceMul, Nat.reduceLT, Nat.reduceLeDiff, reduceCtorEq, Int.reduceToNat, Int.reduceLT, Int.reduceLE, Int.reduceAdd, Int.reduceSub, Int.reduceMul, Int.reduceNeg, Int.reduceEq, Nat.reduceMod, forall_eq_or_imp, forall_eq, forall_const, cond_true, cond_false, decide_true, decide_false, true_imp_iff, implies_true, Int.cast_ofNat_Int, forall_eq']
  refine callK_ro (h4) ?_ ?_
  · simp only [↓EVP0, EVQ0, EVQ1, EVQ2, EVQ3, EVQ4, EVA, EVK, EVF, ↓reduceIte, Nat.reduceEqDiff, Nat.reduceAdd, Nat.reduceSub, Nat.reduceMul, Nat.reduceLT, Nat.reduceLeDiff, reduceCtorEq, Int.reduceToNat, Int.reduceLT, Int.reduceLE, Int.reduceAdd, Int.reduceSub, Int.reduceMul, Int.reduceNeg, Int.reduceEq, Nat.reduceMod, forall_eq_or_imp, forall_eq, forall_const, cond_true, cond_false, decide_true, decide_false, true_imp_iff, implies_true, Int.cast_ofNat_Int, forall_eq']
  simp only [↓EVP0, EVQ0, EVQ1, EVQ2, EVQ3, EVQ4, EVA, EVK, EVF, ↓reduceIte, Nat.reduceEqDiff, Nat.reduceAdd, Nat.reduceSub, Nat.reduceMul, Nat.reduceLT, Nat.reduceLeDiff, reduceCtorEq, Int.reduceToNat, Int.reduceLT, Int.reduceLE, Int.reduceAdd, Int.reduceSub, Int.reduceMul, Int.reduceNeg, Int.reduceEq, Nat.reduceMod, forall_eq_or_imp, forall_eq, forall_const, cond_true, cond_false, decide_true, decide_false, true_imp_iff, implies_true, Int.cast_ofNat_Int, forall_eq']
  by_cases e0 : e = 0
  · have k0 := hz e0
    subst e0; subst k0
    obtain ⟨q1, q2⟩ := hrd t rfl
    have hf : fmtT t = (strB s, 0) := by
      unfold fmtT
      rw [if_pos q1, q2]; rfl
    rw [hf]
    simp
  · rw [decide_eq_false e0]; rfl
theorem ev_lawParsesB (s : ByteArray) : Ev Tryd.prog 10 [.sc (.string s)] (.sc (.bool true)) := by
  have h := ev_lawParses s.data.toList
  rw [strB_of] at h
  exact h
end Go.Proofs.YtcdepkflghcjpaaDoor
namespace Go.Proofs.YtcdepkflghcjpaaDoor
set_option linter.unusedSimpArgs false
set_option linter.unusedVariables false
open Go.RowKit
set_option maxRecDepth 100000

theorem arg_str {lv : LV} (h : fitA Tryd.prog 9 lv) : ∃ s : ByteArray, lv = .sc (.string s) ∧ s.size ≤ maxLen := by
  have h0 := arg_cell (by kernel_rfl) h
  obtain ⟨s, h1, h2⟩ := fit_str Tryd.underlying9 h0
  simp only [List.cons.injEq, and_true] at h1
  exact ⟨s, h1, h2⟩
end Go.Proofs.YtcdepkflghcjpaaDoor
