/- Chapter 19: the text of a table; Chapter 19: which tables are valid; what the statements ask of sizes; Chapter 19: what the entries of the table of an order say; The example of chapter 19; The arguments of the statements about plans, opened; An order among the arguments, opened; The program's table of powers of ten, from what a row lists. Conditions: none. -/
import Derived.Test.YtcdepkflghcjpaaDoorMG
import Derived.Lib.ItoaLen
import Derived.Lib.LaidTab
import Derived.Stop.LaidErr
import Derived.KernelRfl
namespace Go.Proofs.YtcdepkflghcjpaaDoor
set_option linter.unusedSimpArgs false
set_option linter.unusedVariables false
open Go.RowKit
set_option maxRecDepth 20000

theorem strI_u8 (s : ByteArray) : strI s = u8I s.data.toList := rfl
theorem u8I_app (a b : List UInt8) : u8I (a ++ b) = u8I a ++ u8I b := by simp [u8I]
theorem u8I_len (a : List UInt8) : (u8I a).length = a.length := by simp [u8I]
def spc : ByteArray := ⟨#[32]⟩
def decS (i : Nat) : ByteArray := ⟨(Lib.decDigits i).toArray⟩
def lineW (ws : List ByteArray) : List UInt8 := Lib.join (ws.map (·.data.toList)) [32]
def lineB (ws : List ByteArray) : List UInt8 := lineW ws ++ [10]
theorem bldS_kb {h : LH} {kb vb kr vr : Nat} {xs : List Int} : (bldS h kb vb kr vr xs).f kb = (vb, .tbox 113 [.ptr kb vb 0 0 0, .sl kr vr 1 0 xs.length]) := by simp [bldS, LH.set]
theorem bldS_kr {h : LH} {kb vb kr vr : Nat} {xs : List Int} (hne : kr ≠ kb) : (bldS h kb vb kr vr xs).f kr = (vr, .byt 5 xs) := by simp [bldS, LH.set, hne]
theorem bldS_n {h : LH} {kb vb kr vr : Nat} {xs : List Int} : (bldS h kb vb kr vr xs).n = h.n := rfl
theorem bldS_S {h : LH} {kb vb kr v1 v2 : Nat} {x1 x2 : List Int} : bldS (bldS h kb vb kr v1 x1) kb vb kr v2 x2 = bldS h kb vb kr v2 x2 := by
  unfold bldS LH.set
  congr 1
  funext j
  by_cases e : j = kb
  · simp [e]
  · by_cases e2 : j = kr <;> simp [e, e2]
theorem bldN_kb {h : LH} {kb vb : Nat} {xs : List Int} : (bldN h kb vb xs).f kb = (vb, .tbox 113 [.ptr kb vb 0 0 0, .sl h.n 0 1 0 xs.length]) := by simp [bldN, LH.set]
theorem bldN_kr {h : LH} {kb vb : Nat} {xs : List Int} (hk : kb < h.n) : (bldN h kb vb xs).f h.n = (0, .byt 5 xs) := by
  have : ¬ h.n = kb := by omega
  simp [bldN, LH.set, LH.push, this]
theorem bldN_n {h : LH} {kb vb : Nat} {xs : List Int} : (bldN h kb vb xs).n = h.n + 1 := rfl
theorem ev_joinW (ws : List ByteArray) (hN : ws.length ≤ 1000) (hl : (lineW ws).length ≤ 1000000) : Ev Tryd.prog 62 [txsV ws, .sc (.string ⟨#[32]⟩)] (.sc (.string ⟨(lineW ws).toArray⟩)) :=
  ev_join ws ⟨#[32]⟩ (by omega) (by unfold lineW at hl; show (Lib.join (ws.map (·.data.toList)) [32]).length ≤ _; omega)
theorem lc_line_row {h : LH} {kb vb kr vr : Nat} {l : List UInt8} (hkb : kb < h.n) (hb : h.f kb = (vb, .tbox 113 [.ptr kb vb 0 0 0, .sl kr vr 1 0 l.length])) (hkr : kr < h.n) (hr : h.f kr = (vr, .byt 5 (u8I l))) (hne : kr ≠ kb)
    (ws : List ByteArray) (hN : ws.length ≤ 1000) (h0 : 0 < (lineW ws).length) (hroom : l.length + (lineW ws).length ≤ 1000000) :
    LCall Tryd.prog 60 [txsV ws, .ptr kb vb 0 0 0] h (.tup []) (bldS h kb vb kr (vr + 1 + 1) (u8I (l ++ lineB ws))) := by
  have j1 := ev_joinW ws hN (by omega)
  have s1 := lc_ws_row hkb (by rw [u8I_len]; exact hb) hkr hr hne ⟨(lineW ws).toArray⟩ (by simpa [ByteArray.size] using h0) (by rw [u8I_len]; simp [ByteArray.size]; omega)
  have e1 : strI ⟨(lineW ws).toArray⟩ = u8I (lineW ws) := by rw [strI_u8]
  rw [e1, ← u8I_app] at s1
  have s2 := lc_wb_row (h := bldS h kb vb kr (vr + 1) (u8I (l ++ lineW ws))) hkb bldS_kb hkr (bldS_kr hne) hne 10 (by rw [u8I_len, List.length_append]; exact hroom)
  rw [bldS_S, show u8I (l ++ lineW ws) ++ [10] = u8I (l ++ lineB ws) by unfold lineB; rw [← List.append_assoc, u8I_app (l ++ lineW ws)]; rfl] at s2
  unfold txsV at *
  refine lcall_of_lwpH Tryd.func60 comp60 (show 2 ≤ Tryd.f60.ntmps by decide) ?_
  unfold cf60 rf60
  simp only [↓EVP0, EVQ0, EVQ1, EVQ2, EVQ3, EVQ4, EVA, EVK, EVFS, ↓reduceIte, Nat.reduceEqDiff, Nat.reduceAdd, Nat.reduceSub, Nat.reduceMul, Nat.reduceLT, Nat.reduceLeDiff, reduceCtorEq, Int.reduceToNat, Int.reduceLT, Int.reduceLE, Int.reduceAdd, Int.reduceSub, Int.reduceMul, Int.reduceNeg, Int.reduceEq, Nat.reduceMod, forall_eq_or_imp, forall_eq, forall_const, cond_true, cond_false, decide_true, decide_false, true_imp_iff, implies_true, Int.cast_ofNat_Int, forall_eq']
  refine callK_ro (j1) ?_ ?_
  · simp only [↓EVP0, EVQ0, EVQ1, EVQ2, EVQ3, EVQ4, EVA, EVK, EVFS, ↓reduceIte, Nat.reduceEqDiff, Nat.reduceAdd, Nat.reduceSub, Nat.reduceMul, Nat.reduceLT, Nat.reduceLeDiff, reduceCtorEq, Int.reduceToNat, Int.reduceLT, Int.reduceLE, Int.reduceAdd, Int.reduceSub, Int.reduceMul, Int.reduceNeg, Int.reduceEq, Nat.reduceMod, forall_eq_or_imp, forall_eq, forall_const, cond_true, cond_false, decide_true, decide_false, true_imp_iff, implies_true, Int.cast_ofNat_Int, forall_eq']
  simp only [↓EVP0, EVQ0, EVQ1, EVQ2, EVQ3, EVQ4, EVA, EVK, EVFS, ↓reduceIte, Nat.reduceEqDiff, Nat.reduceAdd, Nat.reduceSub, Nat.reduceMul, Nat.reduceLT, Nat.reduceLeDiff, reduceCtorEq, Int.reduceToNat, Int.reduceLT, Int.reduceLE, Int.reduceAdd, Int.reduceSub, Int.reduceMul, Int.reduceNeg, Int.reduceEq, Nat.reduceMod, forall_eq_or_imp, forall_eq, forall_const, cond_true, cond_false, decide_true, decide_false, true_imp_iff, implies_true, Int.cast_ofNat_Int, forall_eq']
  refine callK_mut s1 ?_
  simp only [↓EVP0, EVQ0, EVQ1, EVQ2, EVQ3, EVQ4, EVA, EVK, EVFS, ↓reduceIte, Nat.reduceEqDiff, Nat.reduceAdd, Nat.reduceSub, Nat.reduceMul, Nat.reduceLT, Nat.reduceLeDiff, reduceCtorEq, Int.reduceToNat, Int.reduceLT, Int.reduceLE, Int.reduceAdd, Int.reduceSub, Int.reduceMul, Int.reduceNeg, Int.reduceEq, Nat.reduceMod, forall_eq_or_imp, forall_eq, forall_const, cond_true, cond_false, decide_true, decide_false, true_imp_iff, implies_true, Int.cast_ofNat_Int, forall_eq']
  refine callK_mut s2 ?_
  simp only [↓EVP0, EVQ0, EVQ1, EVQ2, EVQ3, EVQ4, EVA, EVK, EVFS, ↓reduceIte, Nat.reduceEqDiff, Nat.reduceAdd, Nat.reduceSub, Nat.reduceMul, Nat.reduceLT, Nat.reduceLeDiff, reduceCtorEq, Int.reduceToNat, Int.reduceLT, Int.reduceLE, Int.reduceAdd, Int.reduceSub, Int.reduceMul, Int.reduceNeg, Int.reduceEq, Nat.reduceMod, forall_eq_or_imp, forall_eq, forall_const, cond_true, cond_false, decide_true, decide_false, true_imp_iff, implies_true, Int.cast_ofNat_Int, forall_eq']
  unfold finH
  simp only [↓EVP0, EVQ0, EVQ1, EVQ2, EVQ3, EVQ4, EVA, EVK, EVFS, ↓reduceIte, Nat.reduceEqDiff, Nat.reduceAdd, Nat.reduceSub, Nat.reduceMul, Nat.reduceLT, Nat.reduceLeDiff, reduceCtorEq, Int.reduceToNat, Int.reduceLT, Int.reduceLE, Int.reduceAdd, Int.reduceSub, Int.reduceMul, Int.reduceNeg, Int.reduceEq, Nat.reduceMod, forall_eq_or_imp, forall_eq, forall_const, cond_true, cond_false, decide_true, decide_false, true_imp_iff, implies_true, Int.cast_ofNat_Int, forall_eq']
theorem lc_line_new {h : LH} {kb vb : Nat} (hkb : kb < h.n) (hb : h.f kb = (vb, .tbox 113 [.sc (.pointer none), .nsl]))
    (ws : List ByteArray) (hN : ws.length ≤ 1000) (h0 : 0 < (lineW ws).length) (hroom : (lineW ws).length ≤ 1000000) :
    LCall Tryd.prog 60 [txsV ws, .ptr kb vb 0 0 0] h (.tup []) (bldS (bldN h kb vb (u8I (lineW ws))) kb vb h.n 1 (u8I (lineB ws))) := by
  have j1 := ev_joinW ws hN (by omega)
  have s1 := lc_ws_new hkb hb ⟨(lineW ws).toArray⟩ (by simpa [ByteArray.size] using h0) (by simp [ByteArray.size]; omega)
  have e1 : strI ⟨(lineW ws).toArray⟩ = u8I (lineW ws) := by rw [strI_u8]
  rw [e1] at s1
  have s2 := lc_wb_row (h := bldN h kb vb (u8I (lineW ws))) (kr := h.n) (vr := 0) (by rw [bldN_n]; omega) bldN_kb (by rw [bldN_n]; omega) (bldN_kr hkb) (by omega) 10 (by rw [u8I_len]; exact hroom)
  rw [show u8I (lineW ws) ++ [10] = u8I (lineB ws) by unfold lineB; rw [u8I_app]; rfl] at s2
  unfold txsV at *
  refine lcall_of_lwpH Tryd.func60 comp60 (show 2 ≤ Tryd.f60.ntmps by decide) ?_
  unfold cf60 rf60
  simp only [↓EVP0, EVQ0, EVQ1, EVQ2, EVQ3, EVQ4, EVA, EVK, EVFS, ↓reduceIte, Nat.reduceEqDiff, Nat.reduceAdd, Nat.reduceSub, Nat.reduceMul, Nat.reduceLT, Nat.reduceLeDiff, reduceCtorEq, Int.reduceToNat, Int.reduceLT, Int.reduceLE, Int.reduceAdd, Int.reduceSub, Int.reduceMul, Int.reduceNeg, Int.reduceEq, Nat.reduceMod, forall_eq_or_imp, forall_eq, forall_const, cond_true, cond_false, decide_true, decide_false, true_imp_iff, implies_true, Int.cast_ofNat_Int, forall_eq']
  refine callK_ro (j1) ?_ ?_
  · simp only [↓EVP0, EVQ0, EVQ1, EVQ2, EVQ3, EVQ4, EVA, EVK, EVFS, ↓reduceIte, Nat.reduceEqDiff, Nat.reduceAdd, Nat.reduceSub, Nat.reduceMul, Nat.reduceLT, Nat.reduceLeDiff, reduceCtorEq, Int.reduceToNat, Int.reduceLT, Int.reduceLE, Int.reduceAdd, Int.reduceSub, Int.reduceMul, Int.reduceNeg, Int.reduceEq, Nat.reduceMod, forall_eq_or_imp, forall_eq, forall_const, cond_true, cond_false, decide_true, decide_false, true_imp_iff, implies_true, Int.cast_ofNat_Int, forall_eq']
  simp only [↓EVP0, EVQ0, EVQ1, EVQ2, EVQ3, EVQ4, EVA, EVK, EVFS, ↓reduceIte, Nat.reduceEqDiff, Nat.reduceAdd, Nat.reduceSub, Nat.reduceMul, Nat.reduceLT, Nat.reduceLeDiff, reduceCtorEq, Int.reduceToNat, Int.reduceLT, Int.reduceLE, Int.reduceAdd, Int.reduceSub, Int.reduceMul, Int.reduceNeg, Int.reduceEq, Nat.reduceMod, forall_eq_or_imp, forall_eq, forall_const, cond_true, cond_false, decide_true, decide_false, true_imp_iff, implies_true, Int.cast_ofNat_Int, forall_eq']
  refine callK_mut s1 ?_
  simp only [↓EVP0, EVQ0, EVQ1, EVQ2, EVQ3, EVQ4, EVA, EVK, EVFS, ↓reduceIte, Nat.reduceEqDiff, Nat.reduceAdd, Nat.reduceSub, Nat.reduceMul, Nat.reduceLT, Nat.reduceLeDiff, reduceCtorEq, Int.reduceToNat, Int.reduceLT, Int.reduceLE, Int.reduceAdd, Int.reduceSub, Int.reduceMul, Int.reduceNeg, Int.reduceEq, Nat.reduceMod, forall_eq_or_imp, forall_eq, forall_const, cond_true, cond_false, decide_true, decide_false, true_imp_iff, implies_true, Int.cast_ofNat_Int, forall_eq']
  refine callK_mut s2 ?_
  simp only [↓EVP0, EVQ0, EVQ1, EVQ2, EVQ3, EVQ4, EVA, EVK, EVFS, ↓reduceIte, Nat.reduceEqDiff, Nat.reduceAdd, Nat.reduceSub, Nat.reduceMul, Nat.reduceLT, Nat.reduceLeDiff, reduceCtorEq, Int.reduceToNat, Int.reduceLT, Int.reduceLE, Int.reduceAdd, Int.reduceSub, Int.reduceMul, Int.reduceNeg, Int.reduceEq, Nat.reduceMod, forall_eq_or_imp, forall_eq, forall_const, cond_true, cond_false, decide_true, decide_false, true_imp_iff, implies_true, Int.cast_ofNat_Int, forall_eq']
  unfold finH
  simp only [↓EVP0, EVQ0, EVQ1, EVQ2, EVQ3, EVQ4, EVA, EVK, EVFS, ↓reduceIte, Nat.reduceEqDiff, Nat.reduceAdd, Nat.reduceSub, Nat.reduceMul, Nat.reduceLT, Nat.reduceLeDiff, reduceCtorEq, Int.reduceToNat, Int.reduceLT, Int.reduceLE, Int.reduceAdd, Int.reduceSub, Int.reduceMul, Int.reduceNeg, Int.reduceEq, Nat.reduceMod, forall_eq_or_imp, forall_eq, forall_const, cond_true, cond_false, decide_true, decide_false, true_imp_iff, implies_true, Int.cast_ofNat_Int, forall_eq']
theorem lwp_frzO {P : Program} {s : LS} {h : LH} {nb : Nat} {a b : LC} {K : LS → LH → Prop} {E : Nat → LS → LH → Prop} {T : LS → LH → Prop} (D : List Nat) (t : Nat) (v : LV)
    (h1 : lwp P nb a (fun s h => (roTo2 h (s t) v ∧ hd2 D h (s t)) ∧ lwp P nb b K E T (upd s t v) (killH h D)) E T s h) : @lwpJ P nb a b ⟨K, E, T⟩ s h :=
  lwp_frz D [(t, v)] (lwp_mono_k (c := a) h1 fun _ _ ⟨⟨h2, h3⟩, h4⟩ => ⟨⟨h2, h3, trivial⟩, h4⟩)
def itS (x : Int) : ByteArray := ⟨(Lib.itoa x).toArray⟩
theorem itS_len {x : Int} (h : In64 x) : (itS x).data.toList.length ≤ 21 := by
  show (Lib.itoa x).toArray.toList.length ≤ 21
  simpa using Lib.itoa_length_le x h.1 h.2
theorem itS_pos {x : Int} : 1 ≤ (itS x).data.toList.length := by
  show 1 ≤ (Lib.itoa x).length
  unfold Lib.itoa
  split
  · simp
  · rw [Lib.decDigits_length]
    exact Lib.nDigits_pos _
def wRoutes : ByteArray := ⟨#[114, 111, 117, 116, 101, 115]⟩
def wdsR (r : List Int) : List ByteArray := r.map itS
def rowsT (t : Tb) : List (List Int) := (t.map fun r => [r.1, r.2]).flatten
def txtR (t : Tb) (m : Nat) : List UInt8 := lineB [wRoutes, itS t.length] ++ (((rowsT t).take m).map fun r => lineB (wdsR r)).flatten
theorem lineW_one (a : ByteArray) : lineW [a] = a.data.toList := by simp [lineW, Lib.join, List.intercalate]
theorem lineW_cons (a b : ByteArray) (r : List ByteArray) : lineW (a :: b :: r) = a.data.toList ++ ([32] ++ lineW (b :: r)) := by simp [lineW, Lib.join, List.intercalate]
theorem lineW_len : ∀ (r : List Int), (∀ x, x ∈ r → In64 x) → (lineW (wdsR r)).length ≤ r.length * 22
  | [], _ => by simp [lineW, wdsR, Lib.join, List.intercalate]
  | [x], h => by
    have := itS_len (h x (by simp))
    show (lineW [itS x]).length ≤ _
    rw [lineW_one]
    show (itS x).data.toList.length ≤ 1 * 22
    omega
  | x :: y :: r, h => by
    have h1 := itS_len (h x (by simp))
    have h2 := lineW_len (y :: r) (fun z hz => h z (by simp [hz]))
    show (lineW (itS x :: itS y :: r.map itS)).length ≤ _
    rw [lineW_cons, List.length_append, List.length_append]
    have : (lineW (itS y :: r.map itS)).length ≤ (y :: r).length * 22 := h2
    simp only [List.length_cons, List.length_nil] at this ⊢; omega
theorem lineW_pos {r : List Int} (h : r ≠ []) : 0 < (lineW (wdsR r)).length := by
  match r, h with
  | [x], _ =>
    have := itS_pos (x := x)
    show 0 < (lineW [itS x]).length
    rw [lineW_one]; omega
  | x :: y :: r, _ =>
    have := itS_pos (x := x)
    show 0 < (lineW (itS x :: itS y :: r.map itS)).length
    rw [lineW_cons, List.length_append]; omega
theorem mem_getD19 {r : List Int} {k : Nat} (h : k < r.length) : r.getD k 0 ∈ r := by
  rw [List.getD_eq_getElem?_getD, List.getElem?_eq_getElem h]; exact List.getElem_mem h
structure TbOk (t : Tb) : Prop where
  n : t.length ≤ 16
  len : ∀ r, r ∈ t → r.1.length = t.length ∧ r.2.length = t.length
  num : ∀ r, r ∈ t → (∀ x, x ∈ r.1 → -2 ≤ x ∧ x < 32) ∧ ∀ x, x ∈ r.2 → -2 ≤ x ∧ x < 32
/-- The words of a line while they are made. -/
def wF (r : List Int) : Nat → Nat → List LV
  | 0 => fun _ => [.sc (.string ⟨#[]⟩)]
  | k + 1 => fun i => if i < k then wF r k i else [.sc (.string (itS (r.getD k 0)))]
theorem wF_get (r : List Int) : ∀ {k i : Nat}, i < k → wF r k i = [.sc (.string (itS (r.getD i 0)))]
  | k + 1, i, h => by
    unfold wF
    by_cases e : i < k
    · rw [if_pos e]; exact wF_get r e
    · rw [if_neg e, show i = k by omega]
theorem rowsT_len : ∀ t : Tb, (rowsT t).length = 2 * t.length
  | [] => rfl
  | r :: t => by
    have := rowsT_len t
    show (r.1 :: r.2 :: rowsT t).length = _
    simp only [List.length_cons, this]; omega
theorem rowsT_get : ∀ (t : Tb) (u : Nat), u < t.length → (rowsT t).getD (2 * u) [] = (t.getD u ([], [])).1 ∧ (rowsT t).getD (2 * u + 1) [] = (t.getD u ([], [])).2
  | r :: t, 0, _ => ⟨rfl, rfl⟩
  | r :: t, u + 1, h => rowsT_get t u (by simpa using h)
theorem take_flat {α : Type} (d : α) (g : α → List UInt8) {l : List α} {i : Nat} (h : i < l.length) : ((l.take (i + 1)).map g).flatten = ((l.take i).map g).flatten ++ g (l.getD i d) := by
  rw [List.take_succ_eq_append_getElem h, List.map_append, List.flatten_append, List.getD_eq_getElem?_getD, List.getElem?_eq_getElem h]
  simp
theorem txtR_0 {t : Tb} {u : Nat} (h : u < t.length) : txtR t (2 * u + 1) = txtR t (2 * u) ++ lineB (wdsR (t.getD u ([], [])).1) := by
  unfold txtR
  rw [take_flat [] _ (show 2 * u < (rowsT t).length by rw [rowsT_len]; omega), (rowsT_get t u h).1, List.append_assoc]
theorem txtR_1 {t : Tb} {u : Nat} (h : u < t.length) : txtR t (2 * u + 1 + 1) = txtR t (2 * u + 1) ++ lineB (wdsR (t.getD u ([], [])).2) := by
  unfold txtR
  rw [take_flat [] _ (show 2 * u + 1 < (rowsT t).length by rw [rowsT_len]; omega), (rowsT_get t u h).2, List.append_assoc]
theorem lineB_len (ws : List ByteArray) : (lineB ws).length = (lineW ws).length + 1 := by simp [lineB]
theorem row_line {t : Tb} (ht : TbOk t) {r : List Int} (hr : r ∈ rowsT t) : r.length = t.length ∧ (lineW (wdsR r)).length ≤ 400 := by
  unfold rowsT at hr
  rw [List.mem_flatten] at hr
  obtain ⟨q, hq, hr⟩ := hr
  rw [List.mem_map] at hq
  obtain ⟨x, hx, rfl⟩ := hq
  have h1 := ht.len x hx
  have h2 := ht.num x hx
  have h16 := ht.n
  simp only [List.mem_cons, List.not_mem_nil, or_false] at hr
  rcases hr with rfl | rfl
  · have := lineW_len x.1 (fun y hy => by have := h2.1 y hy; unfold In64; omega)
    exact ⟨h1.1, by omega⟩
  · have := lineW_len x.2 (fun y hy => by have := h2.2 y hy; unfold In64; omega)
    exact ⟨h1.2, by omega⟩
theorem flat_le19 {l : List (List Int)} (h : ∀ r, r ∈ l → (lineW (wdsR r)).length ≤ 400) : ∀ (i : Nat), ((l.take i).map fun r => lineB (wdsR r)).flatten.length ≤ i * 401 := by
  induction l with
  | nil => intro i; simp
  | cons x r ih =>
    intro i
    cases i with
    | zero => simp
    | succ i =>
      have := ih (fun y hy => h y (by simp [hy])) i
      have h2 := h x (by simp)
      rw [List.take_succ_cons, List.map_cons, List.flatten_cons, List.length_append, lineB_len, Nat.succ_mul]
      omega
theorem txtR_len {t : Tb} (ht : TbOk t) (hw : (lineW [wRoutes, itS t.length]).length ≤ 100) (m : Nat) : (txtR t m).length ≤ 101 + m * 401 := by
  unfold txtR
  rw [List.length_append, lineB_len]
  have := flat_le19 (fun r hr => (row_line ht hr).2) m
  omega
theorem ev_format19 (t : Tb) (ht : TbOk t) : Ev Tryd.prog 31 [tabV t] (.tup [.sc (.string ⟨(txtR t (2 * t.length)).toArray⟩), .sc (.int .i64 0)]) := by
  unfold tabV
  have hi := fun x (hx : In64 x) => ev_itoaA x hx
  refine ev_fn Tryd.func31 comp31 (show 1 ≤ Tryd.f31.ntmps by decide) ?_; unfold cf31 rf31; simp only [↓EVP0, EVQ0, EVQ1, EVQ2, EVQ3, EVQ4, EVA, EVK, EVFS, ↓reduceIte, Nat.reduceEqDiff, Nat.reduceAdd, Nat.reduceSub, Nat.reduceMul, Nat.reduceLT, Nat.reduceLeDiff, reduceCtorEq, Int.reduceToNat, Int.reduceLT, Int.reduceLE, Int.reduceAdd, Int.reduceSub, Int.reduceMul, Int.reduceNeg, Int.reduceEq, Nat.reduceMod, forall_eq_or_imp, forall_eq, forall_const, cond_true, cond_false, decide_true, decide_false, true_imp_iff, implies_true, Int.cast_ofNat_Int, forall_eq']
  intro _
  have h16 := ht.n
  refine ⟨fun hg => ?_, fun hg => ?_⟩
  · have := of_decide_eq_true hg; omega
  have hin := hi t.length (by unfold In64; omega)
  refine callK_ro (hin) ?_ ?_
  · simp only [↓EVP0, EVQ0, EVQ1, EVQ2, EVQ3, EVQ4, EVA, EVK, EVFS, ↓reduceIte, Nat.reduceEqDiff, Nat.reduceAdd, Nat.reduceSub, Nat.reduceMul, Nat.reduceLT, Nat.reduceLeDiff, reduceCtorEq, Int.reduceToNat, Int.reduceLT, Int.reduceLE, Int.reduceAdd, Int.reduceSub, Int.reduceMul, Int.reduceNeg, Int.reduceEq, Nat.reduceMod, forall_eq_or_imp, forall_eq, forall_const, cond_true, cond_false, decide_true, decide_false, true_imp_iff, implies_true, Int.cast_ofNat_Int, forall_eq']
  simp only [↓EVP0, EVQ0, EVQ1, EVQ2, EVQ3, EVQ4, EVA, EVK, EVFS, ↓reduceIte, Nat.reduceEqDiff, Nat.reduceAdd, Nat.reduceSub, Nat.reduceMul, Nat.reduceLT, Nat.reduceLeDiff, reduceCtorEq, Int.reduceToNat, Int.reduceLT, Int.reduceLE, Int.reduceAdd, Int.reduceSub, Int.reduceMul, Int.reduceNeg, Int.reduceEq, Nat.reduceMod, forall_eq_or_imp, forall_eq, forall_const, cond_true, cond_false, decide_true, decide_false, true_imp_iff, implies_true, Int.cast_ofNat_Int, forall_eq']
  have hw0 : lineW [wRoutes, itS t.length] = wRoutes.data.toList ++ ([32] ++ (itS t.length).data.toList) := by rw [lineW_cons, lineW_one]
  have hil := itS_len (x := t.length) (by unfold In64; omega)
  have e6 : wRoutes.data.toList.length = 6 := rfl
  have hwl : 0 < (lineW [wRoutes, itS t.length]).length ∧ (lineW [wRoutes, itS t.length]).length ≤ 100 := by
    rw [hw0, List.length_append, List.length_append, e6, List.length_singleton]; omega
  refine ⟨txsF [wRoutes, itS t.length], fun i hi => ?_, by kernel_rfl, callK_mut (lc_line_new (h := mkH _) (kb := 1) (vb := 0) (by simp [mkH]) rfl [wRoutes, itS t.length] (by simp) hwl.1 (by omega)) ?_⟩
  · obtain rfl | rfl : i = 0 ∨ i = 1 := by omega
    all_goals rfl
  unfold bldS bldN
  simp only [↓EVP0, EVQ0, EVQ1, EVQ2, EVQ3, EVQ4, EVA, EVK, EVFS, ↓reduceIte, Nat.reduceEqDiff, Nat.reduceAdd, Nat.reduceSub, Nat.reduceMul, Nat.reduceLT, Nat.reduceLeDiff, reduceCtorEq, Int.reduceToNat, Int.reduceLT, Int.reduceLE, Int.reduceAdd, Int.reduceSub, Int.reduceMul, Int.reduceNeg, Int.reduceEq, Nat.reduceMod, forall_eq_or_imp, forall_eq, forall_const, cond_true, cond_false, decide_true, decide_false, true_imp_iff, implies_true, Int.cast_ofNat_Int, forall_eq']
  intro _
  refine lwp_for (α := Nat) t.length (fun _ _ => True) (fun u _ => [(4, .sc (.int .i64 t.length)), (5, .ptr 1 0 0 0 0), (6, .fn 60 [.ptr 1 0 0 0 0]), (26, .rsl 2 t.length (tabF t)), (27, .sc (.int .i64 t.length)), (28, .sc (.int .i64 u))])
    (fun u v => [(0, .box [.rsl 2 t.length (tabF t)]), (0, .tbox 113 [.ptr 1 0 0 0 0, .sl 2 v 1 0 (txtR t (2 * u)).length]), (v, .byt 5 (u8I (txtR t (2 * u))))]) 1 trivial ?_ (fun _ _ => Nat.zero_le _) ?_
  · simp only [↓EVP0, EVQ0, EVQ1, EVQ2, EVQ3, EVQ4, EVA, EVK, EVFS, ↓reduceIte, Nat.reduceEqDiff, Nat.reduceAdd, Nat.reduceSub, Nat.reduceMul, Nat.reduceLT, Nat.reduceLeDiff, reduceCtorEq, Int.reduceToNat, Int.reduceLT, Int.reduceLE, Int.reduceAdd, Int.reduceSub, Int.reduceMul, Int.reduceNeg, Int.reduceEq, Nat.reduceMod, forall_eq_or_imp, forall_eq, forall_const, cond_true, cond_false, decide_true, decide_false, true_imp_iff, implies_true, Int.cast_ofNat_Int, forall_eq']
    have e0 : txtR t 0 = lineB [wRoutes, itS t.length] := by unfold txtR; simp
    rw [e0, u8I_len]
    exact ⟨rfl, rfl⟩
  intro u v hu _
  unfold lb31_2
  simp only [↓EVP0, EVQ0, EVQ1, EVQ2, EVQ3, EVQ4, EVA, EVK, EVFS, ↓reduceIte, Nat.reduceEqDiff, Nat.reduceAdd, Nat.reduceSub, Nat.reduceMul, Nat.reduceLT, Nat.reduceLeDiff, reduceCtorEq, Int.reduceToNat, Int.reduceLT, Int.reduceLE, Int.reduceAdd, Int.reduceSub, Int.reduceMul, Int.reduceNeg, Int.reduceEq, Nat.reduceMod, forall_eq_or_imp, forall_eq, forall_const, cond_true, cond_false, decide_true, decide_false, true_imp_iff, implies_true, Int.cast_ofNat_Int, forall_eq']
  refine ⟨fun hg2 => ?_, fun hg2 => ?_⟩
  rotate_left
  · have hu2 : u = t.length := by have := of_decide_eq_false hg2; omega
    subst hu2
    have hne : txtR t (2 * t.length) ≠ [] := by
      unfold txtR lineB
      intro h
      simp at h
    refine callK_mut (lc_str_row (h := mkH _) (kb := 1) (vb := 0) (kr := 2) (vr := v) (by simp [mkH]) rfl (by simp [mkH]) rfl hne) ?_
    simp only [↓EVP0, EVQ0, EVQ1, EVQ2, EVQ3, EVQ4, EVA, EVK, EVFS, ↓reduceIte, Nat.reduceEqDiff, Nat.reduceAdd, Nat.reduceSub, Nat.reduceMul, Nat.reduceLT, Nat.reduceLeDiff, reduceCtorEq, Int.reduceToNat, Int.reduceLT, Int.reduceLE, Int.reduceAdd, Int.reduceSub, Int.reduceMul, Int.reduceNeg, Int.reduceEq, Nat.reduceMod, forall_eq_or_imp, forall_eq, forall_const, cond_true, cond_false, decide_true, decide_false, true_imp_iff, implies_true, Int.cast_ofNat_Int, forall_eq']
  have hu2 : u < t.length := by have := of_decide_eq_true hg2; omega
  have hm : t.getD u ([], []) ∈ t := by rw [List.getD_eq_getElem?_getD, List.getElem?_eq_getElem hu2]; exact List.getElem_mem hu2
  have hr0 := And.intro (ht.len _ hm).1 (ht.num _ hm).1
  have hr1 := And.intro (ht.len _ hm).2 (ht.num _ hm).2
  refine ⟨⟨by omega, by omega⟩, ?_⟩
  refine lwp_for (α := Nat) 2 (fun _ _ => True) (fun k _ => [(4, .sc (.int .i64 t.length)), (5, .ptr 1 0 0 0 0), (6, .fn 60 [.ptr 1 0 0 0 0]), (26, .rsl 2 t.length (tabF t)), (27, .sc (.int .i64 t.length)), (28, .sc (.int .i64 u)), (32, .agg [.rsl 1 (t.getD u ([], [])).1.length (intsF (t.getD u ([], [])).1), .rsl 1 (t.getD u ([], [])).2.length (intsF (t.getD u ([], [])).2)]), (33, .sc (.int .i64 k))])
    (fun k v => [(0, .box [.rsl 2 t.length (tabF t)]), (0, .tbox 113 [.ptr 1 0 0 0 0, .sl 2 v 1 0 (txtR t (2 * u + k)).length]), (v, .byt 5 (u8I (txtR t (2 * u + k))))]) v trivial ?_ (fun _ _ => Nat.zero_le _) ?_
  · simp only [↓EVP0, EVQ0, EVQ1, EVQ2, EVQ3, EVQ4, EVA, EVK, EVFS, ↓reduceIte, Nat.reduceEqDiff, Nat.reduceAdd, Nat.reduceSub, Nat.reduceMul, Nat.reduceLT, Nat.reduceLeDiff, reduceCtorEq, Int.reduceToNat, Int.reduceLT, Int.reduceLE, Int.reduceAdd, Int.reduceSub, Int.reduceMul, Int.reduceNeg, Int.reduceEq, Nat.reduceMod, forall_eq_or_imp, forall_eq, forall_const, cond_true, cond_false, decide_true, decide_false, true_imp_iff, implies_true, Int.cast_ofNat_Int, forall_eq']
  intro ph v hph _
  have h3c : ph = 0 ∨ ph = 1 ∨ ph = 2 := by omega
  rcases h3c with rfl | rfl | rfl
  · unfold lb31_1
    simp only [↓EVP0, EVQ0, EVQ1, EVQ2, EVQ3, EVQ4, EVA, EVK, EVFS, ↓reduceIte, Nat.reduceEqDiff, Nat.reduceAdd, Nat.reduceSub, Nat.reduceMul, Nat.reduceLT, Nat.reduceLeDiff, reduceCtorEq, Int.reduceToNat, Int.reduceLT, Int.reduceLE, Int.reduceAdd, Int.reduceSub, Int.reduceMul, Int.reduceNeg, Int.reduceEq, Nat.reduceMod, forall_eq_or_imp, forall_eq, forall_const, cond_true, cond_false, decide_true, decide_false, true_imp_iff, implies_true, Int.cast_ofNat_Int, forall_eq']
    have hrn := hr0.1
    have hnum := hr0.2
    intro _
    refine ⟨fun h => ?_, fun _ => ⟨by unfold mksC; omega, ?_⟩⟩
    · rw [hrn, decide_eq_true rfl] at h; simp at h
    refine lwp_frzO [3] 11 (.rsl 1 (wdsR (t.getD u ([], [])).1).length (txsF (wdsR (t.getD u ([], [])).1))) ?_
    simp only [↓EVP0, EVQ0, EVQ1, EVQ2, EVQ3, EVQ4, EVA, EVK, EVFS, ↓reduceIte, Nat.reduceEqDiff, Nat.reduceAdd, Nat.reduceSub, Nat.reduceMul, Nat.reduceLT, Nat.reduceLeDiff, reduceCtorEq, Int.reduceToNat, Int.reduceLT, Int.reduceLE, Int.reduceAdd, Int.reduceSub, Int.reduceMul, Int.reduceNeg, Int.reduceEq, Nat.reduceMod, forall_eq_or_imp, forall_eq, forall_const, cond_true, cond_false, decide_true, decide_false, true_imp_iff, implies_true, Int.cast_ofNat_Int, forall_eq']
    intro _
    refine lwp_for (α := Unit) (t.getD u ([], [])).1.length (fun _ _ => True) (fun k _ => [(4, .sc (.int .i64 t.length)), (5, .ptr 1 0 0 0 0), (6, .fn 60 [.ptr 1 0 0 0 0]), (11, .sl 3 k 1 0 k), (26, .rsl 2 t.length (tabF t)), (27, .sc (.int .i64 t.length)), (28, .sc (.int .i64 u)), (32, .agg [.rsl 1 (t.getD u ([], [])).1.length (intsF (t.getD u ([], [])).1), .rsl 1 (t.getD u ([], [])).2.length (intsF (t.getD u ([], [])).2)]), (33, .sc (.int .i64 0)), (42, .rsl 1 (t.getD u ([], [])).1.length (intsF (t.getD u ([], [])).1)), (43, .sc (.int .i64 (t.getD u ([], [])).1.length)), (44, .sc (.int .i64 k))])
      (fun k _ => [(0, .box [.rsl 2 t.length (tabF t)]), (0, .tbox 113 [.ptr 1 0 0 0 0, .sl 2 v 1 0 (txtR t (2 * u)).length]), (v, .byt 5 (u8I (txtR t (2 * u)))), (k, .row 1 k (wF (t.getD u ([], [])).1 k))]) () trivial ?_ (fun _ _ => Nat.zero_le _) ?_
    · simp only [↓EVP0, EVQ0, EVQ1, EVQ2, EVQ3, EVQ4, EVA, EVK, EVFS, ↓reduceIte, Nat.reduceEqDiff, Nat.reduceAdd, Nat.reduceSub, Nat.reduceMul, Nat.reduceLT, Nat.reduceLeDiff, reduceCtorEq, Int.reduceToNat, Int.reduceLT, Int.reduceLE, Int.reduceAdd, Int.reduceSub, Int.reduceMul, Int.reduceNeg, Int.reduceEq, Nat.reduceMod, forall_eq_or_imp, forall_eq, forall_const, cond_true, cond_false, decide_true, decide_false, true_imp_iff, implies_true, Int.cast_ofNat_Int, forall_eq']
      exact ⟨rfl, fun i hi => absurd hi (Nat.not_lt_zero _)⟩
    intro k _ hk _
    unfold lb31_0
    simp only [↓EVP0, EVQ0, EVQ1, EVQ2, EVQ3, EVQ4, EVA, EVK, EVFS, ↓reduceIte, Nat.reduceEqDiff, Nat.reduceAdd, Nat.reduceSub, Nat.reduceMul, Nat.reduceLT, Nat.reduceLeDiff, reduceCtorEq, Int.reduceToNat, Int.reduceLT, Int.reduceLE, Int.reduceAdd, Int.reduceSub, Int.reduceMul, Int.reduceNeg, Int.reduceEq, Nat.reduceMod, forall_eq_or_imp, forall_eq, forall_const, cond_true, cond_false, decide_true, decide_false, true_imp_iff, implies_true, Int.cast_ofNat_Int, forall_eq']
    refine ⟨fun hg5 => ?_, fun hg5 => ?_⟩
    · have hk2 : k < (t.getD u ([], [])).1.length := by have := of_decide_eq_true hg5; omega
      have hmem : (t.getD u ([], [])).1.getD k 0 ∈ (t.getD u ([], [])).1 := mem_getD19 hk2
      have hx := hnum _ hmem
      have hit := hi ((t.getD u ([], [])).1.getD k 0) (by unfold In64; omega)
      refine ⟨⟨by omega, by omega⟩, fun h => ?_, fun _ => ?_⟩
      · rw [decide_eq_false (show ¬ (t.getD u ([], [])).1.getD k 0 < -2 by omega), decide_eq_false (show ¬ (32 : Int) ≤ (t.getD u ([], [])).1.getD k 0 by omega)] at h; simp at h
      refine callK_ro (hit) ?_ ?_
      · simp only [↓EVP0, EVQ0, EVQ1, EVQ2, EVQ3, EVQ4, EVA, EVK, EVFS, ↓reduceIte, Nat.reduceEqDiff, Nat.reduceAdd, Nat.reduceSub, Nat.reduceMul, Nat.reduceLT, Nat.reduceLeDiff, reduceCtorEq, Int.reduceToNat, Int.reduceLT, Int.reduceLE, Int.reduceAdd, Int.reduceSub, Int.reduceMul, Int.reduceNeg, Int.reduceEq, Nat.reduceMod, forall_eq_or_imp, forall_eq, forall_const, cond_true, cond_false, decide_true, decide_false, true_imp_iff, implies_true, Int.cast_ofNat_Int, forall_eq']
      simp only [↓EVP0, EVQ0, EVQ1, EVQ2, EVQ3, EVQ4, EVA, EVK, EVFS, ↓reduceIte, Nat.reduceEqDiff, Nat.reduceAdd, Nat.reduceSub, Nat.reduceMul, Nat.reduceLT, Nat.reduceLeDiff, reduceCtorEq, Int.reduceToNat, Int.reduceLT, Int.reduceLE, Int.reduceAdd, Int.reduceSub, Int.reduceMul, Int.reduceNeg, Int.reduceEq, Nat.reduceMod, forall_eq_or_imp, forall_eq, forall_const, cond_true, cond_false, decide_true, decide_false, true_imp_iff, implies_true, Int.cast_ofNat_Int, forall_eq']
      refine ⟨fun _ => [.sc (.string (itS ((t.getD u ([], [])).1.getD k 0)))], fun i hi => by rw [show i = 0 by omega]; rfl, ?_⟩
      exact ⟨⟨Nat.le_refl _, fun i hi => by rw [wF_get _ hi]; rfl⟩, by unfold appRoom; omega, by unfold In64; omega, hk2, (), rfl, fun i hi => by rw [wF_get _ hi]; exact ⟨trivial, trivial⟩⟩
    · have hk2 : k = (t.getD u ([], [])).1.length := by have := of_decide_eq_false hg5; omega
      subst hk2
      have hne : (t.getD u ([], [])).1 ≠ [] := by intro h; rw [h] at hrn; simp at hrn; omega
      have hll := lineW_len (t.getD u ([], [])).1 (fun y hy => by have := hnum y hy; unfold In64; omega)
      have htl := txtR_len ht (by omega) (2 * u)
      have hwl : (wdsR (t.getD u ([], [])).1).length = (t.getD u ([], [])).1.length := by unfold wdsR; simp
      refine ⟨⟨hwl, ⟨Nat.le_refl _, fun i hi => by rw [wF_get _ hi]; rfl⟩, fun i hi => ?_⟩, by kernel_rfl, callK_mut (lc_line_row (h := mkH _) (kb := 1) (vb := 0) (kr := 2) (vr := v) (l := txtR t (2 * u)) (by simp [mkH]) rfl (by simp [mkH]) rfl (by omega) (wdsR (t.getD u ([], [])).1) (by rw [hwl]; omega) (lineW_pos hne) (by omega)) ?_⟩
      · rw [wF_get _ hi]
        refine ⟨?_, trivial, trivial⟩
        show [LV.sc (.string (itS ((t.getD u ([], [])).1.getD i 0)))] = [LV.sc (.string ((wdsR (t.getD u ([], [])).1).getD i ⟨#[]⟩))]
        unfold wdsR
        rw [List.getD_eq_getElem?_getD (l := (t.getD u ([], [])).1.map itS), List.getElem?_map, List.getD_eq_getElem?_getD, List.getElem?_eq_getElem hi]; rfl
      unfold bldS
      simp only [↓EVP0, EVQ0, EVQ1, EVQ2, EVQ3, EVQ4, EVA, EVK, EVFS, ↓reduceIte, Nat.reduceEqDiff, Nat.reduceAdd, Nat.reduceSub, Nat.reduceMul, Nat.reduceLT, Nat.reduceLeDiff, reduceCtorEq, Int.reduceToNat, Int.reduceLT, Int.reduceLE, Int.reduceAdd, Int.reduceSub, Int.reduceMul, Int.reduceNeg, Int.reduceEq, Nat.reduceMod, forall_eq_or_imp, forall_eq, forall_const, cond_true, cond_false, decide_true, decide_false, true_imp_iff, implies_true, Int.cast_ofNat_Int, forall_eq']
      exact ⟨by unfold In64; omega, v + 1 + 1, by rw [← txtR_0 hu2, u8I_len], rfl, by rw [txtR_0 hu2]⟩
  · unfold lb31_1
    simp only [↓EVP0, EVQ0, EVQ1, EVQ2, EVQ3, EVQ4, EVA, EVK, EVFS, ↓reduceIte, Nat.reduceEqDiff, Nat.reduceAdd, Nat.reduceSub, Nat.reduceMul, Nat.reduceLT, Nat.reduceLeDiff, reduceCtorEq, Int.reduceToNat, Int.reduceLT, Int.reduceLE, Int.reduceAdd, Int.reduceSub, Int.reduceMul, Int.reduceNeg, Int.reduceEq, Nat.reduceMod, forall_eq_or_imp, forall_eq, forall_const, cond_true, cond_false, decide_true, decide_false, true_imp_iff, implies_true, Int.cast_ofNat_Int, forall_eq']
    have hrn := hr1.1
    have hnum := hr1.2
    intro _
    refine ⟨fun h => ?_, fun _ => ⟨by unfold mksC; omega, ?_⟩⟩
    · rw [hrn, decide_eq_true rfl] at h; simp at h
    refine lwp_frzO [3] 11 (.rsl 1 (wdsR (t.getD u ([], [])).2).length (txsF (wdsR (t.getD u ([], [])).2))) ?_
    simp only [↓EVP0, EVQ0, EVQ1, EVQ2, EVQ3, EVQ4, EVA, EVK, EVFS, ↓reduceIte, Nat.reduceEqDiff, Nat.reduceAdd, Nat.reduceSub, Nat.reduceMul, Nat.reduceLT, Nat.reduceLeDiff, reduceCtorEq, Int.reduceToNat, Int.reduceLT, Int.reduceLE, Int.reduceAdd, Int.reduceSub, Int.reduceMul, Int.reduceNeg, Int.reduceEq, Nat.reduceMod, forall_eq_or_imp, forall_eq, forall_const, cond_true, cond_false, decide_true, decide_false, true_imp_iff, implies_true, Int.cast_ofNat_Int, forall_eq']
    intro _
    refine lwp_for (α := Unit) (t.getD u ([], [])).2.length (fun _ _ => True) (fun k _ => [(4, .sc (.int .i64 t.length)), (5, .ptr 1 0 0 0 0), (6, .fn 60 [.ptr 1 0 0 0 0]), (11, .sl 3 k 1 0 k), (26, .rsl 2 t.length (tabF t)), (27, .sc (.int .i64 t.length)), (28, .sc (.int .i64 u)), (32, .agg [.rsl 1 (t.getD u ([], [])).1.length (intsF (t.getD u ([], [])).1), .rsl 1 (t.getD u ([], [])).2.length (intsF (t.getD u ([], [])).2)]), (33, .sc (.int .i64 1)), (42, .rsl 1 (t.getD u ([], [])).2.length (intsF (t.getD u ([], [])).2)), (43, .sc (.int .i64 (t.getD u ([], [])).2.length)), (44, .sc (.int .i64 k))])
      (fun k _ => [(0, .box [.rsl 2 t.length (tabF t)]), (0, .tbox 113 [.ptr 1 0 0 0 0, .sl 2 v 1 0 (txtR t (2 * u + 1)).length]), (v, .byt 5 (u8I (txtR t (2 * u + 1)))), (k, .row 1 k (wF (t.getD u ([], [])).2 k))]) () trivial ?_ (fun _ _ => Nat.zero_le _) ?_
    · simp only [↓EVP0, EVQ0, EVQ1, EVQ2, EVQ3, EVQ4, EVA, EVK, EVFS, ↓reduceIte, Nat.reduceEqDiff, Nat.reduceAdd, Nat.reduceSub, Nat.reduceMul, Nat.reduceLT, Nat.reduceLeDiff, reduceCtorEq, Int.reduceToNat, Int.reduceLT, Int.reduceLE, Int.reduceAdd, Int.reduceSub, Int.reduceMul, Int.reduceNeg, Int.reduceEq, Nat.reduceMod, forall_eq_or_imp, forall_eq, forall_const, cond_true, cond_false, decide_true, decide_false, true_imp_iff, implies_true, Int.cast_ofNat_Int, forall_eq']
      exact ⟨rfl, fun i hi => absurd hi (Nat.not_lt_zero _)⟩
    intro k _ hk _
    unfold lb31_0
    simp only [↓EVP0, EVQ0, EVQ1, EVQ2, EVQ3, EVQ4, EVA, EVK, EVFS, ↓reduceIte, Nat.reduceEqDiff, Nat.reduceAdd, Nat.reduceSub, Nat.reduceMul, Nat.reduceLT, Nat.reduceLeDiff, reduceCtorEq, Int.reduceToNat, Int.reduceLT, Int.reduceLE, Int.reduceAdd, Int.reduceSub, Int.reduceMul, Int.reduceNeg, Int.reduceEq, Nat.reduceMod, forall_eq_or_imp, forall_eq, forall_const, cond_true, cond_false, decide_true, decide_false, true_imp_iff, implies_true, Int.cast_ofNat_Int, forall_eq']
    refine ⟨fun hg5 => ?_, fun hg5 => ?_⟩
    · have hk2 : k < (t.getD u ([], [])).2.length := by have := of_decide_eq_true hg5; omega
      have hmem : (t.getD u ([], [])).2.getD k 0 ∈ (t.getD u ([], [])).2 := mem_getD19 hk2
      have hx := hnum _ hmem
      have hit := hi ((t.getD u ([], [])).2.getD k 0) (by unfold In64; omega)
      refine ⟨⟨by omega, by omega⟩, fun h => ?_, fun _ => ?_⟩
      · rw [decide_eq_false (show ¬ (t.getD u ([], [])).2.getD k 0 < -2 by omega), decide_eq_false (show ¬ (32 : Int) ≤ (t.getD u ([], [])).2.getD k 0 by omega)] at h; simp at h
      refine callK_ro (hit) ?_ ?_
      · simp only [↓EVP0, EVQ0, EVQ1, EVQ2, EVQ3, EVQ4, EVA, EVK, EVFS, ↓reduceIte, Nat.reduceEqDiff, Nat.reduceAdd, Nat.reduceSub, Nat.reduceMul, Nat.reduceLT, Nat.reduceLeDiff, reduceCtorEq, Int.reduceToNat, Int.reduceLT, Int.reduceLE, Int.reduceAdd, Int.reduceSub, Int.reduceMul, Int.reduceNeg, Int.reduceEq, Nat.reduceMod, forall_eq_or_imp, forall_eq, forall_const, cond_true, cond_false, decide_true, decide_false, true_imp_iff, implies_true, Int.cast_ofNat_Int, forall_eq']
      simp only [↓EVP0, EVQ0, EVQ1, EVQ2, EVQ3, EVQ4, EVA, EVK, EVFS, ↓reduceIte, Nat.reduceEqDiff, Nat.reduceAdd, Nat.reduceSub, Nat.reduceMul, Nat.reduceLT, Nat.reduceLeDiff, reduceCtorEq, Int.reduceToNat, Int.reduceLT, Int.reduceLE, Int.reduceAdd, Int.reduceSub, Int.reduceMul, Int.reduceNeg, Int.reduceEq, Nat.reduceMod, forall_eq_or_imp, forall_eq, forall_const, cond_true, cond_false, decide_true, decide_false, true_imp_iff, implies_true, Int.cast_ofNat_Int, forall_eq']
      refine ⟨fun _ => [.sc (.string (itS ((t.getD u ([], [])).2.getD k 0)))], fun i hi => by rw [show i = 0 by omega]; rfl, ?_⟩
      exact ⟨⟨Nat.le_refl _, fun i hi => by rw [wF_get _ hi]; rfl⟩, by unfold appRoom; omega, by unfold In64; omega, hk2, (), rfl, fun i hi => by rw [wF_get _ hi]; exact ⟨trivial, trivial⟩⟩
    · have hk2 : k = (t.getD u ([], [])).2.length := by have := of_decide_eq_false hg5; omega
      subst hk2
      have hne : (t.getD u ([], [])).2 ≠ [] := by intro h; rw [h] at hrn; simp at hrn; omega
      have hll := lineW_len (t.getD u ([], [])).2 (fun y hy => by have := hnum y hy; unfold In64; omega)
      have htl := txtR_len ht (by omega) (2 * u + 1)
      have hwl : (wdsR (t.getD u ([], [])).2).length = (t.getD u ([], [])).2.length := by unfold wdsR; simp
      refine ⟨⟨hwl, ⟨Nat.le_refl _, fun i hi => by rw [wF_get _ hi]; rfl⟩, fun i hi => ?_⟩, by kernel_rfl, callK_mut (lc_line_row (h := mkH _) (kb := 1) (vb := 0) (kr := 2) (vr := v) (l := txtR t (2 * u + 1)) (by simp [mkH]) rfl (by simp [mkH]) rfl (by omega) (wdsR (t.getD u ([], [])).2) (by rw [hwl]; omega) (lineW_pos hne) (by omega)) ?_⟩
      · rw [wF_get _ hi]
        refine ⟨?_, trivial, trivial⟩
        show [LV.sc (.string (itS ((t.getD u ([], [])).2.getD i 0)))] = [LV.sc (.string ((wdsR (t.getD u ([], [])).2).getD i ⟨#[]⟩))]
        unfold wdsR
        rw [List.getD_eq_getElem?_getD (l := (t.getD u ([], [])).2.map itS), List.getElem?_map, List.getD_eq_getElem?_getD, List.getElem?_eq_getElem hi]; rfl
      unfold bldS
      simp only [↓EVP0, EVQ0, EVQ1, EVQ2, EVQ3, EVQ4, EVA, EVK, EVFS, ↓reduceIte, Nat.reduceEqDiff, Nat.reduceAdd, Nat.reduceSub, Nat.reduceMul, Nat.reduceLT, Nat.reduceLeDiff, reduceCtorEq, Int.reduceToNat, Int.reduceLT, Int.reduceLE, Int.reduceAdd, Int.reduceSub, Int.reduceMul, Int.reduceNeg, Int.reduceEq, Nat.reduceMod, forall_eq_or_imp, forall_eq, forall_const, cond_true, cond_false, decide_true, decide_false, true_imp_iff, implies_true, Int.cast_ofNat_Int, forall_eq']
      have e9 := txtR_1 hu2
      rw [show 2 * u + 1 + 1 = 2 * u + 2 by omega] at e9
      exact ⟨by unfold In64; omega, v + 1 + 1, by rw [← e9, u8I_len], rfl, by rw [e9]⟩
  · unfold lb31_1
    simp only [↓EVP0, EVQ0, EVQ1, EVQ2, EVQ3, EVQ4, EVA, EVK, EVFS, ↓reduceIte, Nat.reduceEqDiff, Nat.reduceAdd, Nat.reduceSub, Nat.reduceMul, Nat.reduceLT, Nat.reduceLeDiff, reduceCtorEq, Int.reduceToNat, Int.reduceLT, Int.reduceLE, Int.reduceAdd, Int.reduceSub, Int.reduceMul, Int.reduceNeg, Int.reduceEq, Nat.reduceMod, forall_eq_or_imp, forall_eq, forall_const, cond_true, cond_false, decide_true, decide_false, true_imp_iff, implies_true, Int.cast_ofNat_Int, forall_eq']
    exact ⟨by unfold In64; omega, hu2, v, rfl, rfl, rfl⟩
end Go.Proofs.YtcdepkflghcjpaaDoor
namespace Go.Proofs.YtcdepkflghcjpaaDoor
set_option linter.unusedSimpArgs false
set_option linter.unusedVariables false
open Go.RowKit
set_option maxRecDepth 20000

theorem EVFT : (∀ (l : List Int) (i : Nat), intsF l i = [.sc (.int .i64 (l.getD i 0))]) ∧ (∀ (t : Tb) (i : Nat), tabF t i = [.rsl 1 (t.getD i ([], [])).1.length (intsF (t.getD i ([], [])).1), .rsl 1 (t.getD i ([], [])).2.length (intsF (t.getD i ([], [])).2)]) ∧
    (∀ (P : Program) (s : LS) (h : LH) (K : LS → Prop) (d : Option Nat) (x : Operand) (al : List Operand), lopsQ P ⟨d, none, .e (.calv x al)⟩ K s h = (opC true s x ∧ (∀ y, y ∈ al → opC true s y) ∧ evk (op1 s x) (fun xv => isFn xv ∧ okF P (fnOf xv) = true ∧ @qCallK P (fnOf xv) (al.map (op1 s) ++ capsOf xv) h ⟨fun v => K (updO s d v)⟩))) :=
  ⟨fun _ _ => rfl, tabF_eq, fun _ _ _ _ _ _ _ => lopsQ_calv⟩
def smallB (p : Pl) (l : List Int) (up : List Bool) : Bool := decide (p.ns.length ≤ 8) && (decide (p.cs.length ≤ 12) && (decide (l.length ≤ 20) && decide (up.length ≤ 40)))
theorem ev_small19 (p : Pl) (l : List Int) (up : List Bool) : Ev Tryd.prog 12 [plV p, .agg [intsV l], boolsV up] (.sc (.int .i64 (if smallB p l up = true then 1 else 0))) := by
  unfold plV boolsV intsV
  refine ev_fn Tryd.func12 comp12 (show 3 ≤ Tryd.f12.ntmps by decide) ?_; unfold cf12 rf12; simp only [↓EVP0, EVQ0, EVQ1, EVQ2, EVQ3, EVQ4, EVA, EVK, EVF,EVFT, ↓reduceIte, Nat.reduceEqDiff, Nat.reduceAdd, Nat.reduceSub, Nat.reduceMul, Nat.reduceLT, Nat.reduceLeDiff, reduceCtorEq, Int.reduceToNat, Int.reduceLT, Int.reduceLE, Int.reduceAdd, Int.reduceSub, Int.reduceMul, Int.reduceNeg, Int.reduceEq, Nat.reduceMod, forall_eq_or_imp, forall_eq, forall_const, cond_true, cond_false, decide_true, decide_false, true_imp_iff, implies_true, Int.cast_ofNat_Int, forall_eq']
  intro _
  have e : (bif bif bif decide ((8 : Int) < p.ns.length) then true else decide ((12 : Int) < p.cs.length) then true else decide ((20 : Int) < l.length) then true else decide ((40 : Int) < up.length)) = !smallB p l up := by
    unfold smallB
    rw [show decide ((8 : Int) < p.ns.length) = !decide (p.ns.length ≤ 8) by rw [← decide_not]; exact decide_eq_decide.2 (by omega), show decide ((12 : Int) < p.cs.length) = !decide (p.cs.length ≤ 12) by rw [← decide_not]; exact decide_eq_decide.2 (by omega),
      show decide ((20 : Int) < l.length) = !decide (l.length ≤ 20) by rw [← decide_not]; exact decide_eq_decide.2 (by omega), show decide ((40 : Int) < up.length) = !decide (up.length ≤ 40) by rw [← decide_not]; exact decide_eq_decide.2 (by omega)]
    cases decide (p.ns.length ≤ 8) <;> cases decide (p.cs.length ≤ 12) <;> cases decide (l.length ≤ 20) <;> rfl
  rw [e]
  cases smallB p l up
  · exact ⟨fun _ => rfl, fun h => by simp at h⟩
  · exact ⟨fun h => by simp at h, fun _ => rfl⟩
def fitB19 (p : Pl) (l : List Int) (up : List Bool) : Bool := decide (validE p = 0) && (fitsB p l && decide (up.length = p.cs.length))
theorem ev_fits19 (p : Pl) (l : List Int) (up : List Bool) : Ev Tryd.prog 14 [plV p, intsV l, boolsV up] (.sc (.bool (fitB19 p l up))) := by
  have h1 := ev_ref14 p
  have h2 := fun hv => ev_fits p hv l
  unfold plV boolsV intsV at *
  refine ev_fn Tryd.func14 comp14 (show 3 ≤ Tryd.f14.ntmps by decide) ?_; unfold cf14 rf14; simp only [↓EVP0, EVQ0, EVQ1, EVQ2, EVQ3, EVQ4, EVA, EVK, EVF,EVFT, ↓reduceIte, Nat.reduceEqDiff, Nat.reduceAdd, Nat.reduceSub, Nat.reduceMul, Nat.reduceLT, Nat.reduceLeDiff, reduceCtorEq, Int.reduceToNat, Int.reduceLT, Int.reduceLE, Int.reduceAdd, Int.reduceSub, Int.reduceMul, Int.reduceNeg, Int.reduceEq, Nat.reduceMod, forall_eq_or_imp, forall_eq, forall_const, cond_true, cond_false, decide_true, decide_false, true_imp_iff, implies_true, Int.cast_ofNat_Int, forall_eq']
  refine callK_ro (h1) ?_ ?_
  · simp only [↓EVP0, EVQ0, EVQ1, EVQ2, EVQ3, EVQ4, EVA, EVK, EVF,EVFT, ↓reduceIte, Nat.reduceEqDiff, Nat.reduceAdd, Nat.reduceSub, Nat.reduceMul, Nat.reduceLT, Nat.reduceLeDiff, reduceCtorEq, Int.reduceToNat, Int.reduceLT, Int.reduceLE, Int.reduceAdd, Int.reduceSub, Int.reduceMul, Int.reduceNeg, Int.reduceEq, Nat.reduceMod, forall_eq_or_imp, forall_eq, forall_const, cond_true, cond_false, decide_true, decide_false, true_imp_iff, implies_true, Int.cast_ofNat_Int, forall_eq']
  simp only [↓EVP0, EVQ0, EVQ1, EVQ2, EVQ3, EVQ4, EVA, EVK, EVF,EVFT, ↓reduceIte, Nat.reduceEqDiff, Nat.reduceAdd, Nat.reduceSub, Nat.reduceMul, Nat.reduceLT, Nat.reduceLeDiff, reduceCtorEq, Int.reduceToNat, Int.reduceLT, Int.reduceLE, Int.reduceAdd, Int.reduceSub, Int.reduceMul, Int.reduceNeg, Int.reduceEq, Nat.reduceMod, forall_eq_or_imp, forall_eq, forall_const, cond_true, cond_false, decide_true, decide_false, true_imp_iff, implies_true, Int.cast_ofNat_Int, forall_eq']
  refine lops_ge_imp ?_
  simp only [↓EVP0, EVQ0, EVQ1, EVQ2, EVQ3, EVQ4, EVA, EVK, EVF,EVFT, ↓reduceIte, Nat.reduceEqDiff, Nat.reduceAdd, Nat.reduceSub, Nat.reduceMul, Nat.reduceLT, Nat.reduceLeDiff, reduceCtorEq, Int.reduceToNat, Int.reduceLT, Int.reduceLE, Int.reduceAdd, Int.reduceSub, Int.reduceMul, Int.reduceNeg, Int.reduceEq, Nat.reduceMod, forall_eq_or_imp, forall_eq, forall_const, cond_true, cond_false, decide_true, decide_false, true_imp_iff, implies_true, Int.cast_ofNat_Int, forall_eq']
  refine gCallK_ro _ (fun hg => h2 (of_decide_eq_true hg)) (fun _ => ?_) ?_
  · simp only [↓EVP0, EVQ0, EVQ1, EVQ2, EVQ3, EVQ4, EVA, EVK, EVF,EVFT, ↓reduceIte, Nat.reduceEqDiff, Nat.reduceAdd, Nat.reduceSub, Nat.reduceMul, Nat.reduceLT, Nat.reduceLeDiff, reduceCtorEq, Int.reduceToNat, Int.reduceLT, Int.reduceLE, Int.reduceAdd, Int.reduceSub, Int.reduceMul, Int.reduceNeg, Int.reduceEq, Nat.reduceMod, forall_eq_or_imp, forall_eq, forall_const, cond_true, cond_false, decide_true, decide_false, true_imp_iff, implies_true, Int.cast_ofNat_Int, forall_eq']
  simp only [↓EVP0, EVQ0, EVQ1, EVQ2, EVQ3, EVQ4, EVA, EVK, EVF,EVFT, ↓reduceIte, Nat.reduceEqDiff, Nat.reduceAdd, Nat.reduceSub, Nat.reduceMul, Nat.reduceLT, Nat.reduceLeDiff, reduceCtorEq, Int.reduceToNat, Int.reduceLT, Int.reduceLE, Int.reduceAdd, Int.reduceSub, Int.reduceMul, Int.reduceNeg, Int.reduceEq, Nat.reduceMod, forall_eq_or_imp, forall_eq, forall_const, cond_true, cond_false, decide_true, decide_false, true_imp_iff, implies_true, Int.cast_ofNat_Int, forall_eq']
  unfold fitB19
  rw [decide_eq_decide.2 (show ((up.length : Int) = p.cs.length ↔ up.length = p.cs.length) by omega)]
  cases decide (validE p = 0) <;> cases fitsB p l <;> rfl
/-- A number that a table may hold. -/
def permB (p : Pl) (x to c : Int) : Bool := bif decide (x = to) || decide (c = -2) then decide (x = to) && decide (c = -2) else (decide (c = -1) || (decide (0 ≤ c) && (decide (c < p.cs.length) && (acrE (p.cs.getD c.toNat default) x).2)))
theorem ev_perm (p : Pl) (x to c : Int) : Ev Tryd.prog 47 [.sc (.int .i64 x), .sc (.int .i64 to), .sc (.int .i64 c), .rptr [.rsl 3 p.ns.length (ndsF p.ns), .rsl 6 p.cs.length (cbsF p.cs)]] (.sc (.bool (permB p x to c))) := by
  have h1 := fun k => ev_across19 (p.cs.getD k default) x
  unfold cbL at h1
  refine ev_fn Tryd.func47 comp47 (show 4 ≤ Tryd.f47.ntmps by decide) ?_; unfold cf47 rf47; simp only [↓EVP0, EVQ0, EVQ1, EVQ2, EVQ3, EVQ4, EVA, EVK, EVF,EVFT, ↓reduceIte, Nat.reduceEqDiff, Nat.reduceAdd, Nat.reduceSub, Nat.reduceMul, Nat.reduceLT, Nat.reduceLeDiff, reduceCtorEq, Int.reduceToNat, Int.reduceLT, Int.reduceLE, Int.reduceAdd, Int.reduceSub, Int.reduceMul, Int.reduceNeg, Int.reduceEq, Nat.reduceMod, forall_eq_or_imp, forall_eq, forall_const, cond_true, cond_false, decide_true, decide_false, true_imp_iff, implies_true, Int.cast_ofNat_Int, forall_eq']
  have hp : permB p x to c = bif (bif decide (x = to) then true else decide (c = -2)) then (bif decide (x = to) then decide (c = -2) else false) else (decide (c = -1) || (decide (0 ≤ c) && (decide (c < p.cs.length) && (acrE (p.cs.getD c.toNat default) x).2))) := by
    unfold permB
    cases decide (x = to) <;> cases decide (c = -2) <;> rfl
  refine ⟨fun g => by rw [hp, g]; rfl, fun g => ⟨fun g2 => by rw [hp, g, g2]; rfl, fun g2 => ⟨fun g3 => ?_, fun g3 => ?_⟩⟩⟩
  · rw [hp, g, g2]
    by_cases a : 0 ≤ c
    · rw [decide_eq_false (show ¬ c < 0 by omega)] at g3
      rw [decide_eq_true a, decide_eq_false (show ¬ c < p.cs.length by have := of_decide_eq_true g3; omega)]; rfl
    · rw [decide_eq_false a]; rfl
  · have hc : 0 ≤ c ∧ c < p.cs.length := by
      by_cases a : c < 0
      · rw [decide_eq_true a] at g3; simp at g3
      · rw [decide_eq_false a] at g3
        have := of_decide_eq_false g3
        omega
    refine ⟨hc, ?_⟩
    refine callK_ro (h1 c.toNat) ?_ ?_
    · simp only [↓EVP0, EVQ0, EVQ1, EVQ2, EVQ3, EVQ4, EVA, EVK, EVF,EVFT, ↓reduceIte, Nat.reduceEqDiff, Nat.reduceAdd, Nat.reduceSub, Nat.reduceMul, Nat.reduceLT, Nat.reduceLeDiff, reduceCtorEq, Int.reduceToNat, Int.reduceLT, Int.reduceLE, Int.reduceAdd, Int.reduceSub, Int.reduceMul, Int.reduceNeg, Int.reduceEq, Nat.reduceMod, forall_eq_or_imp, forall_eq, forall_const, cond_true, cond_false, decide_true, decide_false, true_imp_iff, implies_true, Int.cast_ofNat_Int, forall_eq']
    simp only [↓EVP0, EVQ0, EVQ1, EVQ2, EVQ3, EVQ4, EVA, EVK, EVF,EVFT, ↓reduceIte, Nat.reduceEqDiff, Nat.reduceAdd, Nat.reduceSub, Nat.reduceMul, Nat.reduceLT, Nat.reduceLeDiff, reduceCtorEq, Int.reduceToNat, Int.reduceLT, Int.reduceLE, Int.reduceAdd, Int.reduceSub, Int.reduceMul, Int.reduceNeg, Int.reduceEq, Nat.reduceMod, forall_eq_or_imp, forall_eq, forall_const, cond_true, cond_false, decide_true, decide_false, true_imp_iff, implies_true, Int.cast_ofNat_Int, forall_eq']
    rw [hp, g, g2, decide_eq_true hc.1, decide_eq_true hc.2]; rfl
theorem rng_no19 {n : Nat} {q : Nat → Bool} {i : Nat} (hi : i < n) (h : q i = false) : (List.range n).all q = false := by
  rw [Bool.eq_false_iff]
  intro ha
  rw [List.all_eq_true] at ha
  have := ha i (List.mem_range.2 hi)
  rw [h] at this; simp at this
theorem rng_yes19 {n : Nat} {q : Nat → Bool} (h : ∀ i, i < n → q i = true) : (List.range n).all q = true := by
  rw [List.all_eq_true]
  intro x hx
  exact h x (List.mem_range.1 hx)
theorem notT19 {x : Bool} (h : (!x) = true) : x = false := by cases x <;> simp_all
theorem notF19 {x : Bool} (h : (!x) = false) : x = true := by cases x <;> simp_all
def rowB19 (p : Pl) (u : Nat) (r : List Int) : Bool := decide (r.length = p.ns.length) && (List.range r.length).all fun (k : Nat) => permB p u (k : Nat) (r.getD k 0)
def validT (p : Pl) (t : Tb) : Bool := decide (validE p = 0) && (decide (t.length = p.ns.length) && (List.range t.length).all fun u => rowB19 p u (t.getD u ([], [])).1 && rowB19 p u (t.getD u ([], [])).2)
theorem ev_valid19 (p : Pl) (hp : PlOk p) (t : Tb) : Ev Tryd.prog 17 [plV p, tabV t] (.sc (.bool (validT p t))) := by
  have h1 := ev_valid p hp
  have h2 := ev_perm p
  unfold plV tabV at *
  refine ev_fn Tryd.func17 comp17 (show 2 ≤ Tryd.f17.ntmps by decide) ?_; unfold cf17 rf17; simp only [↓EVP0, EVQ0, EVQ1, EVQ2, EVQ3, EVQ4, EVA, EVK, EVF,EVFT, ↓reduceIte, Nat.reduceEqDiff, Nat.reduceAdd, Nat.reduceSub, Nat.reduceMul, Nat.reduceLT, Nat.reduceLeDiff, reduceCtorEq, Int.reduceToNat, Int.reduceLT, Int.reduceLE, Int.reduceAdd, Int.reduceSub, Int.reduceMul, Int.reduceNeg, Int.reduceEq, Nat.reduceMod, forall_eq_or_imp, forall_eq, forall_const, cond_true, cond_false, decide_true, decide_false, true_imp_iff, implies_true, Int.cast_ofNat_Int, forall_eq']
  refine callK_ro (h1) ?_ ?_
  · simp only [↓EVP0, EVQ0, EVQ1, EVQ2, EVQ3, EVQ4, EVA, EVK, EVF,EVFT, ↓reduceIte, Nat.reduceEqDiff, Nat.reduceAdd, Nat.reduceSub, Nat.reduceMul, Nat.reduceLT, Nat.reduceLeDiff, reduceCtorEq, Int.reduceToNat, Int.reduceLT, Int.reduceLE, Int.reduceAdd, Int.reduceSub, Int.reduceMul, Int.reduceNeg, Int.reduceEq, Nat.reduceMod, forall_eq_or_imp, forall_eq, forall_const, cond_true, cond_false, decide_true, decide_false, true_imp_iff, implies_true, Int.cast_ofNat_Int, forall_eq']
  simp only [↓EVP0, EVQ0, EVQ1, EVQ2, EVQ3, EVQ4, EVA, EVK, EVF,EVFT, ↓reduceIte, Nat.reduceEqDiff, Nat.reduceAdd, Nat.reduceSub, Nat.reduceMul, Nat.reduceLT, Nat.reduceLeDiff, reduceCtorEq, Int.reduceToNat, Int.reduceLT, Int.reduceLE, Int.reduceAdd, Int.reduceSub, Int.reduceMul, Int.reduceNeg, Int.reduceEq, Nat.reduceMod, forall_eq_or_imp, forall_eq, forall_const, cond_true, cond_false, decide_true, decide_false, true_imp_iff, implies_true, Int.cast_ofNat_Int, forall_eq']
  refine ⟨fun hg => ?_, fun hg _ => ?_⟩
  · unfold validT
    by_cases a : validE p = 0
    · by_cases b : t.length = p.ns.length
      · rw [decide_eq_true a, decide_eq_true (show (t.length : Int) = p.ns.length by omega)] at hg; simp at hg
      · rw [decide_eq_false b]; simp
    · rw [decide_eq_false a]; rfl
  have hv : validE p = 0 := by
    by_cases a : validE p = 0
    · exact a
    · rw [decide_eq_false a] at hg; simp at hg
  have hn : t.length = p.ns.length := by
    by_cases b : (t.length : Int) = p.ns.length
    · omega
    · rw [decide_eq_true hv, decide_eq_false b] at hg; simp at hg
  have h16 := (valid_of hv).n16
  have hvT : validT p t = ((List.range t.length).all fun u => rowB19 p u (t.getD u ([], [])).1 && rowB19 p u (t.getD u ([], [])).2) := by
    unfold validT; rw [decide_eq_true hv, decide_eq_true hn]; rfl
  refine lwp_for (α := Unit) t.length (fun u _ => ∀ j, j < u → (rowB19 p j (t.getD j ([], [])).1 && rowB19 p j (t.getD j ([], [])).2) = true) (fun u _ => [(2, .ptr 0 0 0 0 0), (5, .fn 47 [.ptr 0 0 0 0 0]), (26, .rsl 2 t.length (tabF t)), (27, .sc (.int .i64 t.length)), (28, .sc (.int .i64 u))])
    (fun _ _ => [(0, .box [.rsl 3 p.ns.length (ndsF p.ns), .rsl 6 p.cs.length (cbsF p.cs)]), (0, .box [.rsl 2 t.length (tabF t)])]) () (fun j hj => absurd hj (Nat.not_lt_zero _)) ?_ (fun _ _ => Nat.zero_le _) ?_
  · simp only [↓EVP0, EVQ0, EVQ1, EVQ2, EVQ3, EVQ4, EVA, EVK, EVF,EVFT, ↓reduceIte, Nat.reduceEqDiff, Nat.reduceAdd, Nat.reduceSub, Nat.reduceMul, Nat.reduceLT, Nat.reduceLeDiff, reduceCtorEq, Int.reduceToNat, Int.reduceLT, Int.reduceLE, Int.reduceAdd, Int.reduceSub, Int.reduceMul, Int.reduceNeg, Int.reduceEq, Nat.reduceMod, forall_eq_or_imp, forall_eq, forall_const, cond_true, cond_false, decide_true, decide_false, true_imp_iff, implies_true, Int.cast_ofNat_Int, forall_eq']
  intro u _ hu hx
  unfold lb17_2
  simp only [↓EVP0, EVQ0, EVQ1, EVQ2, EVQ3, EVQ4, EVA, EVK, EVF,EVFT, ↓reduceIte, Nat.reduceEqDiff, Nat.reduceAdd, Nat.reduceSub, Nat.reduceMul, Nat.reduceLT, Nat.reduceLeDiff, reduceCtorEq, Int.reduceToNat, Int.reduceLT, Int.reduceLE, Int.reduceAdd, Int.reduceSub, Int.reduceMul, Int.reduceNeg, Int.reduceEq, Nat.reduceMod, forall_eq_or_imp, forall_eq, forall_const, cond_true, cond_false, decide_true, decide_false, true_imp_iff, implies_true, Int.cast_ofNat_Int, forall_eq']
  refine ⟨fun hg2 => ?_, fun hg2 => ?_⟩
  rotate_left
  · have hu2 : u = t.length := by have := of_decide_eq_false hg2; omega
    subst hu2
    rw [hvT, rng_yes19 hx]
  have hu2 : u < t.length := by have := of_decide_eq_true hg2; omega
  have hno : (rowB19 p u (t.getD u ([], [])).1 && rowB19 p u (t.getD u ([], [])).2) = false → false = validT p t := fun h => by rw [hvT, rng_no19 hu2 h]
  refine ⟨⟨by omega, by omega⟩, ?_⟩
  refine lwp_for (α := Unit) 2 (fun k _ => (0 < k → rowB19 p u (t.getD u ([], [])).1 = true) ∧ (1 < k → rowB19 p u (t.getD u ([], [])).1 = true ∧ rowB19 p u (t.getD u ([], [])).2 = true)) (fun k _ => [(2, .ptr 0 0 0 0 0), (5, .fn 47 [.ptr 0 0 0 0 0]), (6, .sc (.int .i64 u)), (26, .rsl 2 t.length (tabF t)), (27, .sc (.int .i64 t.length)), (28, .sc (.int .i64 u)), (33, .agg [.rsl 1 (t.getD u ([], [])).1.length (intsF (t.getD u ([], [])).1), .rsl 1 (t.getD u ([], [])).2.length (intsF (t.getD u ([], [])).2)]), (34, .sc (.int .i64 k))])
    (fun _ _ => [(0, .box [.rsl 3 p.ns.length (ndsF p.ns), .rsl 6 p.cs.length (cbsF p.cs)]), (0, .box [.rsl 2 t.length (tabF t)])]) () ⟨fun h => absurd h (by omega), fun h => absurd h (by omega)⟩ ?_ (fun _ _ => Nat.zero_le _) ?_
  · simp only [↓EVP0, EVQ0, EVQ1, EVQ2, EVQ3, EVQ4, EVA, EVK, EVF,EVFT, ↓reduceIte, Nat.reduceEqDiff, Nat.reduceAdd, Nat.reduceSub, Nat.reduceMul, Nat.reduceLT, Nat.reduceLeDiff, reduceCtorEq, Int.reduceToNat, Int.reduceLT, Int.reduceLE, Int.reduceAdd, Int.reduceSub, Int.reduceMul, Int.reduceNeg, Int.reduceEq, Nat.reduceMod, forall_eq_or_imp, forall_eq, forall_const, cond_true, cond_false, decide_true, decide_false, true_imp_iff, implies_true, Int.cast_ofNat_Int, forall_eq']
  intro ph _ hph hph2
  have h3c : ph = 0 ∨ ph = 1 ∨ ph = 2 := by omega
  rcases h3c with rfl | rfl | rfl
  · unfold lb17_1
    simp only [↓EVP0, EVQ0, EVQ1, EVQ2, EVQ3, EVQ4, EVA, EVK, EVF,EVFT, ↓reduceIte, Nat.reduceEqDiff, Nat.reduceAdd, Nat.reduceSub, Nat.reduceMul, Nat.reduceLT, Nat.reduceLeDiff, reduceCtorEq, Int.reduceToNat, Int.reduceLT, Int.reduceLE, Int.reduceAdd, Int.reduceSub, Int.reduceMul, Int.reduceNeg, Int.reduceEq, Nat.reduceMod, forall_eq_or_imp, forall_eq, forall_const, cond_true, cond_false, decide_true, decide_false, true_imp_iff, implies_true, Int.cast_ofNat_Int, forall_eq']
    intro _ _
    refine ⟨fun hg4 => ?_, fun hg4 _ => ?_⟩
    · exact hno (by unfold rowB19; rw [decide_eq_false (show ¬ (t.getD u ([], [])).1.length = p.ns.length by intro h; rw [decide_eq_true (show ((t.getD u ([], [])).1.length : Int) = p.ns.length by omega)] at hg4; simp at hg4)]; rfl)
    have hrn : (t.getD u ([], [])).1.length = p.ns.length := by
      by_cases h : ((t.getD u ([], [])).1.length : Int) = p.ns.length
      · omega
      · rw [decide_eq_false h] at hg4; simp at hg4
    refine lwp_for (α := Unit) (t.getD u ([], [])).1.length (fun k _ => ∀ j, j < k → permB p u (j : Nat) ((t.getD u ([], [])).1.getD j 0) = true) (fun k _ => [(2, .ptr 0 0 0 0 0), (5, .fn 47 [.ptr 0 0 0 0 0]), (6, .sc (.int .i64 u)), (26, .rsl 2 t.length (tabF t)), (27, .sc (.int .i64 t.length)), (28, .sc (.int .i64 u)), (33, .agg [.rsl 1 (t.getD u ([], [])).1.length (intsF (t.getD u ([], [])).1), .rsl 1 (t.getD u ([], [])).2.length (intsF (t.getD u ([], [])).2)]), (34, .sc (.int .i64 0)), (43, .rsl 1 (t.getD u ([], [])).1.length (intsF (t.getD u ([], [])).1)), (44, .sc (.int .i64 (t.getD u ([], [])).1.length)), (45, .sc (.int .i64 k))])
      (fun _ _ => [(0, .box [.rsl 3 p.ns.length (ndsF p.ns), .rsl 6 p.cs.length (cbsF p.cs)]), (0, .box [.rsl 2 t.length (tabF t)])]) () (fun j hj => absurd hj (Nat.not_lt_zero _)) ?_ (fun _ _ => Nat.zero_le _) ?_
    · simp only [↓EVP0, EVQ0, EVQ1, EVQ2, EVQ3, EVQ4, EVA, EVK, EVF,EVFT, ↓reduceIte, Nat.reduceEqDiff, Nat.reduceAdd, Nat.reduceSub, Nat.reduceMul, Nat.reduceLT, Nat.reduceLeDiff, reduceCtorEq, Int.reduceToNat, Int.reduceLT, Int.reduceLE, Int.reduceAdd, Int.reduceSub, Int.reduceMul, Int.reduceNeg, Int.reduceEq, Nat.reduceMod, forall_eq_or_imp, forall_eq, forall_const, cond_true, cond_false, decide_true, decide_false, true_imp_iff, implies_true, Int.cast_ofNat_Int, forall_eq']
    intro k _ hk hz
    unfold lb17_0
    simp only [↓EVP0, EVQ0, EVQ1, EVQ2, EVQ3, EVQ4, EVA, EVK, EVF,EVFT, ↓reduceIte, Nat.reduceEqDiff, Nat.reduceAdd, Nat.reduceSub, Nat.reduceMul, Nat.reduceLT, Nat.reduceLeDiff, reduceCtorEq, Int.reduceToNat, Int.reduceLT, Int.reduceLE, Int.reduceAdd, Int.reduceSub, Int.reduceMul, Int.reduceNeg, Int.reduceEq, Nat.reduceMod, forall_eq_or_imp, forall_eq, forall_const, cond_true, cond_false, decide_true, decide_false, true_imp_iff, implies_true, Int.cast_ofNat_Int, forall_eq']
    refine ⟨fun hg5 => ?_, fun hg5 => ?_⟩
    · have hk2 : k < (t.getD u ([], [])).1.length := by have := of_decide_eq_true hg5; omega
      refine ⟨⟨by omega, by omega⟩, by kernel_rfl, callK_frz (h2 u k ((t.getD u ([], [])).1.getD k 0)) ?_ trivial ?_⟩
      · simp only [↓EVP0, EVQ0, EVQ1, EVQ2, EVQ3, EVQ4, EVA, EVK, EVF,EVFT, ↓reduceIte, Nat.reduceEqDiff, Nat.reduceAdd, Nat.reduceSub, Nat.reduceMul, Nat.reduceLT, Nat.reduceLeDiff, reduceCtorEq, Int.reduceToNat, Int.reduceLT, Int.reduceLE, Int.reduceAdd, Int.reduceSub, Int.reduceMul, Int.reduceNeg, Int.reduceEq, Nat.reduceMod, forall_eq_or_imp, forall_eq, forall_const, cond_true, cond_false, decide_true, decide_false, true_imp_iff, implies_true, Int.cast_ofNat_Int, forall_eq']
        exact roTo2_box (by simp [mkH]) rfl ⟨⟨rfl, trivial⟩, ⟨rfl, trivial⟩, trivial⟩
      simp only [↓EVP0, EVQ0, EVQ1, EVQ2, EVQ3, EVQ4, EVA, EVK, EVF,EVFT, ↓reduceIte, Nat.reduceEqDiff, Nat.reduceAdd, Nat.reduceSub, Nat.reduceMul, Nat.reduceLT, Nat.reduceLeDiff, reduceCtorEq, Int.reduceToNat, Int.reduceLT, Int.reduceLE, Int.reduceAdd, Int.reduceSub, Int.reduceMul, Int.reduceNeg, Int.reduceEq, Nat.reduceMod, forall_eq_or_imp, forall_eq, forall_const, cond_true, cond_false, decide_true, decide_false, true_imp_iff, implies_true, Int.cast_ofNat_Int, forall_eq']
      refine ⟨fun h5 => ?_, fun h5 => ⟨by unfold In64; omega, hk2, (), fun j hj => ?_⟩⟩
      · exact hno (by
          have : rowB19 p u (t.getD u ([], [])).1 = false := by
            unfold rowB19
            rw [rng_no19 hk2 (notT19 h5), Bool.and_false]
          rw [this]; rfl)
      · by_cases e : j = k
        · rw [e]; exact notF19 h5
        · exact hz j (by omega)
    · have hk2 : k = (t.getD u ([], [])).1.length := by have := of_decide_eq_false hg5; omega
      subst hk2
      have hrow : rowB19 p u (t.getD u ([], [])).1 = true := by
        unfold rowB19
        rw [decide_eq_true hrn, rng_yes19 hz]; rfl
      exact ⟨by unfold In64; omega, (), hrow⟩
  · unfold lb17_1
    simp only [↓EVP0, EVQ0, EVQ1, EVQ2, EVQ3, EVQ4, EVA, EVK, EVF,EVFT, ↓reduceIte, Nat.reduceEqDiff, Nat.reduceAdd, Nat.reduceSub, Nat.reduceMul, Nat.reduceLT, Nat.reduceLeDiff, reduceCtorEq, Int.reduceToNat, Int.reduceLT, Int.reduceLE, Int.reduceAdd, Int.reduceSub, Int.reduceMul, Int.reduceNeg, Int.reduceEq, Nat.reduceMod, forall_eq_or_imp, forall_eq, forall_const, cond_true, cond_false, decide_true, decide_false, true_imp_iff, implies_true, Int.cast_ofNat_Int, forall_eq']
    intro _ _
    refine ⟨fun hg4 => ?_, fun hg4 _ => ?_⟩
    · exact hno (by unfold rowB19; rw [decide_eq_false (show ¬ (t.getD u ([], [])).2.length = p.ns.length by intro h; rw [decide_eq_true (show ((t.getD u ([], [])).2.length : Int) = p.ns.length by omega)] at hg4; simp at hg4)]; simp)
    have hrn : (t.getD u ([], [])).2.length = p.ns.length := by
      by_cases h : ((t.getD u ([], [])).2.length : Int) = p.ns.length
      · omega
      · rw [decide_eq_false h] at hg4; simp at hg4
    refine lwp_for (α := Unit) (t.getD u ([], [])).2.length (fun k _ => ∀ j, j < k → permB p u (j : Nat) ((t.getD u ([], [])).2.getD j 0) = true) (fun k _ => [(2, .ptr 0 0 0 0 0), (5, .fn 47 [.ptr 0 0 0 0 0]), (6, .sc (.int .i64 u)), (26, .rsl 2 t.length (tabF t)), (27, .sc (.int .i64 t.length)), (28, .sc (.int .i64 u)), (33, .agg [.rsl 1 (t.getD u ([], [])).1.length (intsF (t.getD u ([], [])).1), .rsl 1 (t.getD u ([], [])).2.length (intsF (t.getD u ([], [])).2)]), (34, .sc (.int .i64 1)), (43, .rsl 1 (t.getD u ([], [])).2.length (intsF (t.getD u ([], [])).2)), (44, .sc (.int .i64 (t.getD u ([], [])).2.length)), (45, .sc (.int .i64 k))])
      (fun _ _ => [(0, .box [.rsl 3 p.ns.length (ndsF p.ns), .rsl 6 p.cs.length (cbsF p.cs)]), (0, .box [.rsl 2 t.length (tabF t)])]) () (fun j hj => absurd hj (Nat.not_lt_zero _)) ?_ (fun _ _ => Nat.zero_le _) ?_
    · simp only [↓EVP0, EVQ0, EVQ1, EVQ2, EVQ3, EVQ4, EVA, EVK, EVF,EVFT, ↓reduceIte, Nat.reduceEqDiff, Nat.reduceAdd, Nat.reduceSub, Nat.reduceMul, Nat.reduceLT, Nat.reduceLeDiff, reduceCtorEq, Int.reduceToNat, Int.reduceLT, Int.reduceLE, Int.reduceAdd, Int.reduceSub, Int.reduceMul, Int.reduceNeg, Int.reduceEq, Nat.reduceMod, forall_eq_or_imp, forall_eq, forall_const, cond_true, cond_false, decide_true, decide_false, true_imp_iff, implies_true, Int.cast_ofNat_Int, forall_eq']
    intro k _ hk hz
    unfold lb17_0
    simp only [↓EVP0, EVQ0, EVQ1, EVQ2, EVQ3, EVQ4, EVA, EVK, EVF,EVFT, ↓reduceIte, Nat.reduceEqDiff, Nat.reduceAdd, Nat.reduceSub, Nat.reduceMul, Nat.reduceLT, Nat.reduceLeDiff, reduceCtorEq, Int.reduceToNat, Int.reduceLT, Int.reduceLE, Int.reduceAdd, Int.reduceSub, Int.reduceMul, Int.reduceNeg, Int.reduceEq, Nat.reduceMod, forall_eq_or_imp, forall_eq, forall_const, cond_true, cond_false, decide_true, decide_false, true_imp_iff, implies_true, Int.cast_ofNat_Int, forall_eq']
    refine ⟨fun hg5 => ?_, fun hg5 => ?_⟩
    · have hk2 : k < (t.getD u ([], [])).2.length := by have := of_decide_eq_true hg5; omega
      refine ⟨⟨by omega, by omega⟩, by kernel_rfl, callK_frz (h2 u k ((t.getD u ([], [])).2.getD k 0)) ?_ trivial ?_⟩
      · simp only [↓EVP0, EVQ0, EVQ1, EVQ2, EVQ3, EVQ4, EVA, EVK, EVF,EVFT, ↓reduceIte, Nat.reduceEqDiff, Nat.reduceAdd, Nat.reduceSub, Nat.reduceMul, Nat.reduceLT, Nat.reduceLeDiff, reduceCtorEq, Int.reduceToNat, Int.reduceLT, Int.reduceLE, Int.reduceAdd, Int.reduceSub, Int.reduceMul, Int.reduceNeg, Int.reduceEq, Nat.reduceMod, forall_eq_or_imp, forall_eq, forall_const, cond_true, cond_false, decide_true, decide_false, true_imp_iff, implies_true, Int.cast_ofNat_Int, forall_eq']
        exact roTo2_box (by simp [mkH]) rfl ⟨⟨rfl, trivial⟩, ⟨rfl, trivial⟩, trivial⟩
      simp only [↓EVP0, EVQ0, EVQ1, EVQ2, EVQ3, EVQ4, EVA, EVK, EVF,EVFT, ↓reduceIte, Nat.reduceEqDiff, Nat.reduceAdd, Nat.reduceSub, Nat.reduceMul, Nat.reduceLT, Nat.reduceLeDiff, reduceCtorEq, Int.reduceToNat, Int.reduceLT, Int.reduceLE, Int.reduceAdd, Int.reduceSub, Int.reduceMul, Int.reduceNeg, Int.reduceEq, Nat.reduceMod, forall_eq_or_imp, forall_eq, forall_const, cond_true, cond_false, decide_true, decide_false, true_imp_iff, implies_true, Int.cast_ofNat_Int, forall_eq']
      refine ⟨fun h5 => ?_, fun h5 => ⟨by unfold In64; omega, hk2, (), fun j hj => ?_⟩⟩
      · exact hno (by
          have : rowB19 p u (t.getD u ([], [])).2 = false := by
            unfold rowB19
            rw [rng_no19 hk2 (notT19 h5), Bool.and_false]
          rw [this]; simp)
      · by_cases e : j = k
        · rw [e]; exact notF19 h5
        · exact hz j (by omega)
    · have hk2 : k = (t.getD u ([], [])).2.length := by have := of_decide_eq_false hg5; omega
      subst hk2
      have hrow : rowB19 p u (t.getD u ([], [])).2 = true := by
        unfold rowB19
        rw [decide_eq_true hrn, rng_yes19 hz]; rfl
      exact ⟨by unfold In64; omega, (), hph2.1 (by omega), hph2.1 (by omega), hrow⟩
  · unfold lb17_1
    simp only [↓EVP0, EVQ0, EVQ1, EVQ2, EVQ3, EVQ4, EVA, EVK, EVF,EVFT, ↓reduceIte, Nat.reduceEqDiff, Nat.reduceAdd, Nat.reduceSub, Nat.reduceMul, Nat.reduceLT, Nat.reduceLeDiff, reduceCtorEq, Int.reduceToNat, Int.reduceLT, Int.reduceLE, Int.reduceAdd, Int.reduceSub, Int.reduceMul, Int.reduceNeg, Int.reduceEq, Nat.reduceMod, forall_eq_or_imp, forall_eq, forall_const, cond_true, cond_false, decide_true, decide_false, true_imp_iff, implies_true, Int.cast_ofNat_Int, forall_eq']
    refine ⟨by unfold In64; omega, hu2, (), fun j hj => ?_⟩
    by_cases e : j = u
    · obtain ⟨h5, h6⟩ := hph2.2 (by omega)
      rw [e, h5, h6]; rfl
    · exact hx j (by omega)
end Go.Proofs.YtcdepkflghcjpaaDoor
namespace Go.Proofs.YtcdepkflghcjpaaDoor
set_option linter.unusedSimpArgs false
set_option linter.unusedVariables false
open Go.RowKit
set_option maxRecDepth 20000

def permB0 (p : Pl) (x to c : Int) : Prop := permB p x to c = true
/-- Where a number of the table of an order comes from. -/
theorem ent_of {p : Pl} (hv : validE p = 0) {l : List Int} (hll : l.length = p.ns.length) {up : List Bool} {u to : Nat} (ht : to < p.ns.length) (b : Bool) :
    (u = to ∧ entE p l up u b to = -2) ∨ (u ≠ to ∧ dS p.ns.length l p.cs up (to : Int) ((u : Int), b) < 1 ∧ entE p l up u b to = -1) ∨
    (u ≠ to ∧ ∃ (i : Nat) (t : St), entE p l up u b to = (i : Int) ∧ i < p.cs.length ∧ EdgJ l p.cs up i ((u : Int), b) t ∧ dS p.ns.length l p.cs up (to : Int) t = dS p.ns.length l p.cs up (to : Int) ((u : Int), b) - 1 ∧ 0 < dS p.ns.length l p.cs up (to : Int) ((u : Int), b)) := by
  have hn : p.ns.length ≤ 100 := by have := (valid_of hv).n16; omega
  have htx : inN p.ns.length (to : Int) := by unfold inN; omega
  have hD := d_facts (l := l) (cs := p.cs) (up := up) hn (valid_of hv).cab htx
  unfold entE
  by_cases e : u = to
  · exact .inl ⟨e, if_pos e⟩
  · rw [if_neg e]
    unfold chE
    by_cases h1 : dS p.ns.length l p.cs up (to : Int) ((u : Int), b) < 1
    · exact .inr (.inl ⟨e, h1, if_pos h1⟩)
    · rw [if_neg h1]
      obtain ⟨i, t, g1, g2, g3, g4, _⟩ := fst_some hv hll htx hD (s := ((u : Int), b)) rfl (by omega)
      refine .inr (.inr ⟨e, i, t, ?_, g2, g3, g4, by omega⟩)
      rw [g1]; rfl
theorem edg_acr {p : Pl} (hv : validE p = 0) {l : List Int} {up : List Bool} {i : Nat} (hi : i < p.cs.length) {s t : St} (h : EdgJ l p.cs up i s t) : (acrE (p.cs.getD i default) s.1) = (t.1, true) ∧ up.getD i false = true ∧ (p.cs.getD i default).a + (p.cs.getD i default).b - s.1 = t.1 ∧ 0 ≤ lvl l s.1 ∧ 0 ≤ lvl l t.1 ∧ (s.1 = (p.cs.getD i default).a ∨ s.1 = (p.cs.getD i default).b) ∧ 0 ≤ lvl l (p.cs.getD i default).a ∧ 0 ≤ lvl l (p.cs.getD i default).b := by
  have hne := (valid_of hv).self _ (getD_mem default hi)
  have hl := edg_lvl h
  obtain ⟨h1, h2, _, _⟩ := h
  rcases h2 with ⟨a, b⟩ | ⟨a, b⟩
  · refine ⟨?_, hl.2.2, by rw [a, b]; omega, hl.1, hl.2.1, .inl a, by rw [← a]; exact hl.1, by rw [← b]; exact hl.2.1⟩
    unfold acrE
    rw [a, b, decide_eq_true rfl]; rfl
  · refine ⟨?_, hl.2.2, by rw [a, b]; omega, hl.1, hl.2.1, .inr a, by rw [← b]; exact hl.2.1, by rw [← a]; exact hl.1⟩
    unfold acrE
    rw [a, b, decide_eq_false (fun h => hne h.symm), decide_eq_true rfl]; rfl
/-- The numbers of the table are permitted ones. -/
theorem ent_perm {p : Pl} (hv : validE p = 0) {l : List Int} (hll : l.length = p.ns.length) {up : List Bool} {u to : Nat} (ht : to < p.ns.length) (b : Bool) : permB p (u : Int) (to : Int) (entE p l up u b to) = true := by
  rcases ent_of hv hll (u := u) (up := up) ht b with ⟨rfl, h⟩ | ⟨hne, _, h⟩ | ⟨hne, i, t, h, hi, he, _, _⟩
  · rw [h]; unfold permB; simp
  · rw [h]
    unfold permB
    rw [decide_eq_false (show ¬ (u : Int) = to by omega)]; rfl
  · rw [h]
    have ha := (edg_acr hv hi he).1
    unfold permB
    rw [decide_eq_false (show ¬ (u : Int) = to by omega), decide_eq_false (show ¬ (i : Int) = -2 by omega), decide_eq_false (show ¬ (i : Int) = -1 by omega), decide_eq_true (show (0 : Int) ≤ i by omega), decide_eq_true (show (i : Int) < p.cs.length by omega), Int.toNat_natCast, ha]
    rfl
/-- A frame in phase 1 falls, and goes on falling. -/
theorem fall_law {p : Pl} (hv : validE p = 0) {l : List Int} (ho : ordB p l = true) (hll : l.length = p.ns.length) {up : List Bool} {u to : Nat} (hu : u < p.ns.length) (ht : to < p.ns.length) {c : Int} (hc : entE p l up u true to = c) (h0 : 0 ≤ c) :
    c < p.cs.length ∧ upE p l c (u : Int) = (false, 0) ∧ up.getD c.toNat false = true ∧ ∃ v : Nat, (p.cs.getD c.toNat default).a + (p.cs.getD c.toNat default).b - (u : Int) = (v : Int) ∧ v < p.ns.length ∧ entE p l up v true to ≠ -1 := by
  have hn : p.ns.length ≤ 100 := by have := (valid_of hv).n16; omega
  have htx : inN p.ns.length (to : Int) := by unfold inN; omega
  have hD := d_facts (l := l) (cs := p.cs) (up := up) hn (valid_of hv).cab htx
  rcases ent_of hv hll (u := u) (up := up) ht true with ⟨rfl, h⟩ | ⟨hne, _, h⟩ | ⟨hne, i, t, h, hi, he, hd, hp⟩
  · omega
  · omega
  · obtain rfl : c = (i : Int) := by omega
    obtain ⟨a1, a2, a3, a4, a5, a6, a7, a8⟩ := edg_acr hv hi he
    have hin := edg_in (valid_of hv).cab hi he
    obtain ⟨_, _, e3, e4⟩ := he
    have hab : aboveB l t.1 (u : Int) = false := by
      simp only [Bool.not_true, Bool.or_false, Bool.not_eq_true'] at e4
      exact e4
    rw [hab] at e3
    rw [Int.toNat_natCast]
    refine ⟨by omega, ?_, a2, t.1.toNat, ?_, ?_, ?_⟩
    · unfold upE
      unfold lvl at a7 a8
      rw [ho, Int.toNat_natCast, decide_eq_false (show ¬ (i : Int) < 0 by omega), decide_eq_false (show ¬ (p.cs.length : Int) ≤ i by omega), decide_eq_false (show ¬ l.getD (p.cs.getD i default).a.toNat 0 < 0 by omega), decide_eq_false (show ¬ l.getD (p.cs.getD i default).b.toNat 0 < 0 by omega), a3, hab]
      rcases a6 with a6 | a6
      · rw [decide_eq_true a6]; rfl
      · rw [decide_eq_true a6]
        cases decide ((u : Int) = (p.cs.getD i default).a) <;> rfl
    · rw [a3]; have := hin.2; unfold inN at this; omega
    · have := hin.2; unfold inN at this; omega
    · have hv2 : ((t.1.toNat : Nat) : Int) = t.1 := by have := hin.2; unfold inN at this; omega
      rcases ent_of hv hll (u := t.1.toNat) (up := up) ht true with ⟨_, h5⟩ | ⟨hne2, h5, h6⟩ | ⟨_, j, _, h5, _⟩
      · rw [h5]; decide
      · exfalso
        rw [hv2] at h5
        have ht2 : t = (t.1, true) := Prod.ext rfl (by rw [e3]; rfl)
        rw [← ht2] at h5
        have hz := (hD.zero t).1 (by have := hD.low t; omega)
        apply hne2
        have := hz.1
        omega
      · rw [h5]; omega
end Go.Proofs.YtcdepkflghcjpaaDoor
namespace Go.Proofs.YtcdepkflghcjpaaDoor
set_option linter.unusedSimpArgs false
set_option linter.unusedVariables false
open Go.RowKit
set_option maxRecDepth 20000

def twoPl : Pl := ⟨[⟨⟨#[97]⟩, true, 1⟩, ⟨⟨#[98]⟩, true, 1⟩], [⟨0, 0, 1, 0, 1, 1⟩]⟩
theorem ev_two : Ev Tryd.prog 36 [] (.tup [plV twoPl, .agg [intsV [0, 1]]]) := by
  unfold plV twoPl intsV
  refine ev_fn Tryd.func36 comp36 (show 0 ≤ Tryd.f36.ntmps by decide) ?_; unfold cf36 rf36; simp only [↓EVP0, EVQ0, EVQ1, EVQ2, EVQ3, EVQ4, EVA, EVK, EVFS, ↓reduceIte, Nat.reduceEqDiff, Nat.reduceAdd, Nat.reduceSub, Nat.reduceMul, Nat.reduceLT, Nat.reduceLeDiff, reduceCtorEq, Int.reduceToNat, Int.reduceLT, Int.reduceLE, Int.reduceAdd, Int.reduceSub, Int.reduceMul, Int.reduceNeg, Int.reduceEq, Nat.reduceMod, forall_eq_or_imp, forall_eq, forall_const, cond_true, cond_false, decide_true, decide_false, true_imp_iff, implies_true, Int.cast_ofNat_Int, forall_eq']
  have h2 : ∀ i : Nat, i < 2 → i = 0 ∨ i = 1 := fun i hi => by omega
  refine ⟨⟨fun i hi => ?_, fun i hi => ?_⟩, fun i hi => ?_, fun i hi => ?_⟩
  · rcases h2 i hi with rfl | rfl <;> rfl
  · rcases h2 i hi with rfl | rfl <;> exact ⟨rfl, trivial, trivial, trivial, trivial⟩
  · obtain rfl : i = 0 := by omega
    rfl
  · obtain rfl : i = 0 := by omega
    exact ⟨rfl, trivial, trivial, trivial, trivial, trivial, trivial, trivial⟩
theorem two_ok : PlOk twoPl := by
  refine ⟨fun n hn => ?_, fun c hc => ?_⟩
  · simp only [twoPl, List.mem_cons, List.not_mem_nil, or_false] at hn
    rcases hn with rfl | rfl <;> unfold In64 <;> refine ⟨by decide, by decide, by decide⟩
  · simp only [twoPl, List.mem_cons, List.not_mem_nil, or_false] at hc
    unfold In64
    subst hc; simp
theorem two_make : makeE twoPl [0, 1] [true] = ([([-2, 0], [-2, 0]), ([0, -2], [-1, -2])], 0) := by kernel_rfl
def twoT : Tb := [([-2, 0], [-2, 0]), ([0, -2], [-1, -2])]
theorem two_tb : TbOk twoT := by
  refine ⟨by decide, fun r hr => ?_, fun r hr => ?_⟩
  · simp only [twoT, List.mem_cons, List.not_mem_nil, or_false] at hr
    rcases hr with rfl | rfl <;> decide
  · simp only [twoT, List.mem_cons, List.not_mem_nil, or_false] at hr
    rcases hr with rfl | rfl <;> decide
theorem two_txt : (⟨(txtR twoT (2 * twoT.length)).toArray⟩ : ByteArray) = ⟨#[114, 111, 117, 116, 101, 115, 32, 50, 10, 45, 50, 32, 48, 10, 45, 50, 32, 48, 10, 48, 32, 45, 50, 10, 45, 49, 32, 45, 50, 10]⟩ := by kernel_rfl
theorem ev_awake19 : Ev Tryd.prog 11 [] (.sc (.bool true)) := by
  have h1 := ev_two
  have h2 := ev_make twoPl two_ok [0, 1] [true] (by decide)
  rw [two_make] at h2
  have h3 := ev_format19 twoT two_tb
  rw [two_txt] at h3
  unfold plV boolsV intsV tabV at *
  refine ev_fn Tryd.func11 comp11 (show 0 ≤ Tryd.f11.ntmps by decide) ?_; unfold cf11 rf11; simp only [↓EVP0, EVQ0, EVQ1, EVQ2, EVQ3, EVQ4, EVA, EVK, EVFS, ↓reduceIte, Nat.reduceEqDiff, Nat.reduceAdd, Nat.reduceSub, Nat.reduceMul, Nat.reduceLT, Nat.reduceLeDiff, reduceCtorEq, Int.reduceToNat, Int.reduceLT, Int.reduceLE, Int.reduceAdd, Int.reduceSub, Int.reduceMul, Int.reduceNeg, Int.reduceEq, Nat.reduceMod, forall_eq_or_imp, forall_eq, forall_const, cond_true, cond_false, decide_true, decide_false, true_imp_iff, implies_true, Int.cast_ofNat_Int, forall_eq']
  refine callK_ro (h1) ?_ ?_
  · simp only [↓EVP0, EVQ0, EVQ1, EVQ2, EVQ3, EVQ4, EVA, EVK, EVFS, ↓reduceIte, Nat.reduceEqDiff, Nat.reduceAdd, Nat.reduceSub, Nat.reduceMul, Nat.reduceLT, Nat.reduceLeDiff, reduceCtorEq, Int.reduceToNat, Int.reduceLT, Int.reduceLE, Int.reduceAdd, Int.reduceSub, Int.reduceMul, Int.reduceNeg, Int.reduceEq, Nat.reduceMod, forall_eq_or_imp, forall_eq, forall_const, cond_true, cond_false, decide_true, decide_false, true_imp_iff, implies_true, Int.cast_ofNat_Int, forall_eq']
  simp only [↓EVP0, EVQ0, EVQ1, EVQ2, EVQ3, EVQ4, EVA, EVK, EVFS, ↓reduceIte, Nat.reduceEqDiff, Nat.reduceAdd, Nat.reduceSub, Nat.reduceMul, Nat.reduceLT, Nat.reduceLeDiff, reduceCtorEq, Int.reduceToNat, Int.reduceLT, Int.reduceLE, Int.reduceAdd, Int.reduceSub, Int.reduceMul, Int.reduceNeg, Int.reduceEq, Nat.reduceMod, forall_eq_or_imp, forall_eq, forall_const, cond_true, cond_false, decide_true, decide_false, true_imp_iff, implies_true, Int.cast_ofNat_Int, forall_eq']
  refine callK_kill [2] h2 ?_ ?_ ?_
  · simp only [↓EVP0, EVQ0, EVQ1, EVQ2, EVQ3, EVQ4, EVA, EVK, EVFS, ↓reduceIte, Nat.reduceEqDiff, Nat.reduceAdd, Nat.reduceSub, Nat.reduceMul, Nat.reduceLT, Nat.reduceLeDiff, reduceCtorEq, Int.reduceToNat, Int.reduceLT, Int.reduceLE, Int.reduceAdd, Int.reduceSub, Int.reduceMul, Int.reduceNeg, Int.reduceEq, Nat.reduceMod, forall_eq_or_imp, forall_eq, forall_const, cond_true, cond_false, decide_true, decide_false, true_imp_iff, implies_true, Int.cast_ofNat_Int, forall_eq']
    intro i hi
    obtain rfl : i = 0 := by omega
    exact ⟨rfl, trivial, trivial⟩
  · simp only [↓EVP0, EVQ0, EVQ1, EVQ2, EVQ3, EVQ4, EVA, EVK, EVFS, ↓reduceIte, Nat.reduceEqDiff, Nat.reduceAdd, Nat.reduceSub, Nat.reduceMul, Nat.reduceLT, Nat.reduceLeDiff, reduceCtorEq, Int.reduceToNat, Int.reduceLT, Int.reduceLE, Int.reduceAdd, Int.reduceSub, Int.reduceMul, Int.reduceNeg, Int.reduceEq, Nat.reduceMod, forall_eq_or_imp, forall_eq, forall_const, cond_true, cond_false, decide_true, decide_false, true_imp_iff, implies_true, Int.cast_ofNat_Int, forall_eq']
  simp only [↓EVP0, EVQ0, EVQ1, EVQ2, EVQ3, EVQ4, EVA, EVK, EVFS, ↓reduceIte, Nat.reduceEqDiff, Nat.reduceAdd, Nat.reduceSub, Nat.reduceMul, Nat.reduceLT, Nat.reduceLeDiff, reduceCtorEq, Int.reduceToNat, Int.reduceLT, Int.reduceLE, Int.reduceAdd, Int.reduceSub, Int.reduceMul, Int.reduceNeg, Int.reduceEq, Nat.reduceMod, forall_eq_or_imp, forall_eq, forall_const, cond_true, cond_false, decide_true, decide_false, true_imp_iff, implies_true, Int.cast_ofNat_Int, forall_eq']
  refine callK_ro (h3) ?_ ?_
  · simp only [↓EVP0, EVQ0, EVQ1, EVQ2, EVQ3, EVQ4, EVA, EVK, EVFS, ↓reduceIte, Nat.reduceEqDiff, Nat.reduceAdd, Nat.reduceSub, Nat.reduceMul, Nat.reduceLT, Nat.reduceLeDiff, reduceCtorEq, Int.reduceToNat, Int.reduceLT, Int.reduceLE, Int.reduceAdd, Int.reduceSub, Int.reduceMul, Int.reduceNeg, Int.reduceEq, Nat.reduceMod, forall_eq_or_imp, forall_eq, forall_const, cond_true, cond_false, decide_true, decide_false, true_imp_iff, implies_true, Int.cast_ofNat_Int, forall_eq']
  simp only [↓EVP0, EVQ0, EVQ1, EVQ2, EVQ3, EVQ4, EVA, EVK, EVFS, ↓reduceIte, Nat.reduceEqDiff, Nat.reduceAdd, Nat.reduceSub, Nat.reduceMul, Nat.reduceLT, Nat.reduceLeDiff, reduceCtorEq, Int.reduceToNat, Int.reduceLT, Int.reduceLE, Int.reduceAdd, Int.reduceSub, Int.reduceMul, Int.reduceNeg, Int.reduceEq, Nat.reduceMod, forall_eq_or_imp, forall_eq, forall_const, cond_true, cond_false, decide_true, decide_false, true_imp_iff, implies_true, Int.cast_ofNat_Int, forall_eq']
end Go.Proofs.YtcdepkflghcjpaaDoor
namespace Go.Proofs.YtcdepkflghcjpaaDoor
set_option linter.unusedSimpArgs false
set_option linter.unusedVariables false
open Go.RowKit
set_option maxRecDepth 100000

theorem in64_of {n : Int} (h : (Lit.int .i64 n).wf = true) : In64 n := by
  have h1 : IntKind.i64.min = -9223372036854775808 := by decide
  have h2 : IntKind.i64.max = 9223372036854775807 := by decide
  simp [Lit.wf, h1, h2] at h
  exact h
theorem fit_i64 {d : Nat} {t : TypeId} (ht : Tryd.prog.underlying t = some (.int .i64)) {ls : List LV} (h : fitT Tryd.prog d t ls) : ∃ n, ls = [.sc (.int .i64 n)] ∧ In64 n := by
  cases d with
  | zero => exact h.elim
  | succ d =>
    unfold fitT at h; rw [ht] at h
    obtain ⟨n, rfl, hw⟩ := h
    exact ⟨n, rfl, in64_of hw⟩
theorem fit_bool {d : Nat} {t : TypeId} (ht : Tryd.prog.underlying t = some .bool) {ls : List LV} (h : fitT Tryd.prog d t ls) : ∃ b, ls = [.sc (.bool b)] := by
  cases d with
  | zero => exact h.elim
  | succ d => unfold fitT at h; rw [ht] at h; exact h
theorem fit_str {d : Nat} {t : TypeId} (ht : Tryd.prog.underlying t = some .string) {ls : List LV} (h : fitT Tryd.prog d t ls) : ∃ s : ByteArray, ls = [.sc (.string s)] ∧ s.size ≤ maxLen := by
  cases d with
  | zero => exact h.elim
  | succ d => unfold fitT at h; rw [ht] at h; exact h
theorem fit_sl {d : Nat} {t e : TypeId} (ht : Tryd.prog.underlying t = some (.slice e)) {ls : List LV} (h : fitT Tryd.prog d t ls) : ∃ d' n f, ls = [.rsl (Tryd.prog.cellsOf e) n f] ∧ n ≤ maxLen ∧ ∀ i, i < n → fitT Tryd.prog d' e (f i) := by
  cases d with
  | zero => exact h.elim
  | succ d => unfold fitT at h; rw [ht] at h; obtain ⟨n, f, h⟩ := h; exact ⟨d, n, f, h⟩
theorem fit_struct {d : Nat} {t : TypeId} {fs : Array Field} (ht : Tryd.prog.underlying t = some (.struct fs)) {ls : List LV} (h : fitT Tryd.prog d t ls) : ls.length = Tryd.prog.cellsOf t ∧ ∃ d', ∀ (i : Nat) (f : Field), fs[i]? = some f → fitT Tryd.prog d' f.type ((ls.drop f.offset).take (Tryd.prog.cellsOf f.type)) := by
  cases d with
  | zero => exact h.elim
  | succ d => unfold fitT at h; rw [ht] at h; exact ⟨h.1, d, h.2⟩
theorem rsl_congr {z n : Nat} {f g : Nat → List LV} (h : ∀ i, i < n → f i = g i) {R : RO} {v : Value} (hr : Ro R (.rsl z n f) v) : Ro R (.rsl z n g) v := by
  cases hr with
  | rsl _ _ _ a cap b o w hc hm ha hf hcell hv hp =>
    exact .rsl _ _ _ a cap b o w hc hm ha (fun i hi => by rw [← h i hi]; exact hf i hi) hcell (fun i j c hi hj => hv i j c hi (by rw [h i hi]; exact hj)) hp
/-- A list out of a function on numbers. -/
def listOf {α : Type} (n : Nat) (g : Nat → α) : List α := (List.range n).map g
theorem listOf_get {α : Type} (n : Nat) (g : Nat → α) (d : α) {i : Nat} (hi : i < n) : (listOf n g).getD i d = g i := by
  rw [List.getD_eq_getElem?_getD, listOf, List.getElem?_map, List.getElem?_range hi]; rfl
theorem listOf_len {α : Type} (n : Nat) (g : Nat → α) : (listOf n g).length = n := by simp [listOf]
theorem listOf_mem {α : Type} {n : Nat} {g : Nat → α} {x : α} (h : x ∈ listOf n g) : ∃ i, i < n ∧ g i = x := by
  simp only [listOf, List.mem_map, List.mem_range] at h; exact h
def flat1 (P : Program) (fs : List Field) : Nat → Bool
  | n => decide (fs.length = n) && (List.range n).all fun i => match fs[i]? with
    | some f => decide (f.offset = i) && decide (P.cellsOf f.type = 1)
    | none => false
theorem fit_flat {d n : Nat} {t : TypeId} {fs : Array Field} (ht : Tryd.prog.underlying t = some (.struct fs)) (hn : Tryd.prog.cellsOf t = n) (hf : flat1 Tryd.prog fs.toList n = true) {ls : List LV} (h : fitT Tryd.prog d t ls) :
    ls.length = n ∧ ∃ d', ∀ (i : Nat) (f : Field), fs[i]? = some f → ∃ x, ls[i]? = some x ∧ fitT Tryd.prog d' f.type [x] := by
  obtain ⟨h1, d', h2⟩ := fit_struct ht h
  rw [hn] at h1
  refine ⟨h1, d', fun i f hi => ?_⟩
  unfold flat1 at hf
  simp only [Bool.and_eq_true, decide_eq_true_eq, List.all_eq_true, List.mem_range] at hf
  obtain ⟨g1, g2⟩ := hf
  have hlt : i < n := by have := (Array.getElem?_eq_some_iff.1 hi).1; simp at g1; omega
  have g3 := g2 i hlt
  have hi' : fs.toList[i]? = some f := by rw [Array.getElem?_toList]; exact hi
  rw [hi'] at g3
  simp only [Bool.and_eq_true, decide_eq_true_eq] at g3
  have h3 := h2 i f hi
  rw [g3.1, g3.2] at h3
  have hx : ls[i]? = some (ls[i]'(by omega)) := List.getElem?_eq_getElem (by omega)
  refine ⟨_, hx, ?_⟩
  have : (ls.drop i).take 1 = [ls[i]'(by omega)] := by
    rw [List.drop_eq_getElem_cons (by omega)]; rfl
  rw [this] at h3
  exact h3
/-- One lifted value says no less than another. -/
def Im (a b : LV) : Prop := ∀ R v, Ro R a v → Ro R b v
theorem Im.refl (a : LV) : Im a a := fun _ _ h => h
theorem Im.rsl {z n : Nat} {f g : Nat → List LV} (h : ∀ i, i < n → f i = g i) : Im (.rsl z n f) (.rsl z n g) := fun _ _ hr => rsl_congr h hr
theorem Im.agg {xs bs : List LV} (hl : xs.length = bs.length) (h : ∀ (i : Nat) (b : LV), bs[i]? = some b → ∃ a, xs[i]? = some a ∧ Im a b) : Im (.agg xs) (.agg bs) := by
  intro R v hr
  cases hr with
  | agg _ vs hs hc hp =>
    refine .agg _ _ (by omega) (fun i b hb => ?_) hp
    obtain ⟨a, ha, him⟩ := h i b hb
    exact him _ _ (hc i a ha)
def ImL : List LV → List LV → Prop
  | [], [] => True
  | a :: xs, b :: bs => Im a b ∧ ImL xs bs
  | _, _ => False
theorem ImL_get : ∀ {xs bs : List LV}, ImL xs bs → xs.length = bs.length ∧ ∀ (i : Nat) (b : LV), bs[i]? = some b → ∃ a, xs[i]? = some a ∧ Im a b
  | [], [], _ => ⟨rfl, fun i b h => by simp at h⟩
  | a :: xs, b :: bs, h => by
    obtain ⟨h1, h2⟩ := ImL_get h.2
    refine ⟨by simp [h1], fun i c hc => ?_⟩
    cases i with
    | zero => simp at hc; subst hc; exact ⟨a, rfl, h.1⟩
    | succ i => obtain ⟨x, hx, hx2⟩ := h2 i c (by simpa using hc); exact ⟨x, by simpa using hx, hx2⟩
  | [], _ :: _, h => h.elim
  | _ :: _, [], h => h.elim
theorem Im.aggL {xs bs : List LV} (h : ImL xs bs) : Im (.agg xs) (.agg bs) := Im.agg (ImL_get h).1 (ImL_get h).2
theorem ev_im {P : Program} {f : FuncId} {xs bs : List LV} {r : LV} (h : ImL xs bs) (he : Ev P f bs r) : Ev P f xs r := by
  intro R w vs hR hgl hs ha
  obtain ⟨h1, h2⟩ := ImL_get h
  refine he R w vs hR hgl (by omega) (fun i b hb => ?_)
  obtain ⟨a, ha', him⟩ := h2 i b hb
  exact him _ _ (ha i a ha')

theorem arg_cell {t : TypeId} (hs : structT Tryd.prog t = false) {lv : LV} (h : fitA Tryd.prog t lv) : fitT Tryd.prog 20 t [lv] := by
  obtain ⟨ls, h1, ⟨h2, _⟩ | ⟨_, rfl⟩⟩ := h
  · rw [hs] at h2; simp at h2
  · exact h1
theorem arg_agg {t : TypeId} (hs : structT Tryd.prog t = true) {lv : LV} (h : fitA Tryd.prog t lv) : ∃ ls, lv = .agg ls ∧ fitT Tryd.prog 20 t ls := by
  obtain ⟨ls, h1, ⟨_, rfl⟩ | ⟨h2, _⟩⟩ := h
  · exact ⟨ls, rfl, h1⟩
  · rw [hs] at h2; simp at h2
theorem sl_i64 {d : Nat} {t e : TypeId} (ht : Tryd.prog.underlying t = some (.slice e)) (he : Tryd.prog.underlying e = some (.int .i64)) (hc : Tryd.prog.cellsOf e = 1) {lv : LV} (h : fitT Tryd.prog d t [lv]) : ∃ l : List Int, Im lv (intsV l) ∧ (∀ x, x ∈ l → In64 x) ∧ l.length ≤ maxLen := by
  obtain ⟨d', n, f, h1, h2, h3⟩ := fit_sl ht h
  have hall : ∀ i, ∃ x : Int, i < n → f i = [.sc (.int .i64 x)] ∧ In64 x := by
    intro i
    by_cases hi : i < n
    · obtain ⟨x, h4, h5⟩ := fit_i64 he (h3 i hi)
      exact ⟨x, fun _ => ⟨h4, h5⟩⟩
    · exact ⟨0, fun h => absurd h hi⟩
  obtain ⟨g, hg⟩ := Classical.axiomOfChoice hall
  simp only [List.cons.injEq, and_true] at h1
  subst h1
  refine ⟨listOf n g, ?_, fun x hx => ?_, by rw [listOf_len]; exact h2⟩
  · unfold intsV
    rw [hc, listOf_len]
    refine Im.rsl fun i hi => ?_
    rw [(hg i hi).1, intsF_eq, listOf_get n g 0 hi]
  · obtain ⟨i, hi, rfl⟩ := listOf_mem hx
    exact (hg i hi).2
theorem sl_bool {d : Nat} {t e : TypeId} (ht : Tryd.prog.underlying t = some (.slice e)) (he : Tryd.prog.underlying e = some .bool) (hc : Tryd.prog.cellsOf e = 1) {lv : LV} (h : fitT Tryd.prog d t [lv]) : ∃ l : List Bool, Im lv (boolsV l) ∧ l.length ≤ maxLen := by
  obtain ⟨d', n, f, h1, h2, h3⟩ := fit_sl ht h
  have hall : ∀ i, ∃ x : Bool, i < n → f i = [.sc (.bool x)] := by
    intro i
    by_cases hi : i < n
    · obtain ⟨x, h4⟩ := fit_bool he (h3 i hi)
      exact ⟨x, fun _ => h4⟩
    · exact ⟨false, fun h => absurd h hi⟩
  obtain ⟨g, hg⟩ := Classical.axiomOfChoice hall
  simp only [List.cons.injEq, and_true] at h1
  subst h1
  refine ⟨listOf n g, ?_, by rw [listOf_len]; exact h2⟩
  unfold boolsV
  rw [hc, listOf_len]
  refine Im.rsl fun i hi => ?_
  rw [hg i hi, boolsF_eq, listOf_get n g false hi]
theorem el_node {d : Nat} {ls : List LV} (h : fitT Tryd.prog d 95 ls) : ∃ n : Nd, ls = ndL n ∧ n.name.size ≤ maxLen ∧ In64 n.ports := by
  obtain ⟨h1, d', h2⟩ := fit_flat Tryd.underlying95 (n := 3) (by kernel_rfl) (by kernel_rfl) h
  obtain ⟨a, b, c, rfl⟩ : ∃ a b c, ls = [a, b, c] := by
    match ls, h1 with
    | [a, b, c], _ => exact ⟨a, b, c, rfl⟩
  obtain ⟨x, hx, h3⟩ := h2 0 _ rfl
  obtain ⟨y, hy, h4⟩ := h2 1 _ rfl
  obtain ⟨z, hz, h5⟩ := h2 2 _ rfl
  simp at hx hy hz
  subst hx; subst hy; subst hz
  obtain ⟨s, h6, h7⟩ := fit_str Tryd.underlying9 h3
  obtain ⟨q, h8⟩ := fit_bool Tryd.underlying4 h4
  obtain ⟨m, h9, h10⟩ := fit_i64 Tryd.underlying3 h5
  simp only [List.cons.injEq, and_true] at h6 h8 h9
  subst h6; subst h8; subst h9
  exact ⟨⟨s, q, m⟩, rfl, h7, h10⟩
theorem el_cable {d : Nat} {ls : List LV} (h : fitT Tryd.prog d 47 ls) : ∃ c : Cb, ls = cbL c ∧ In64 c.a ∧ In64 c.ap ∧ In64 c.b ∧ In64 c.bp ∧ In64 c.dl ∧ In64 c.cp := by
  obtain ⟨h1, d', h2⟩ := fit_flat Tryd.underlying47 (n := 6) (by kernel_rfl) (by kernel_rfl) h
  obtain ⟨a, b, c, a', b', c', rfl⟩ : ∃ a b c a' b' c', ls = [a, b, c, a', b', c'] := by
    match ls, h1 with
    | [a, b, c, a', b', c'], _ => exact ⟨a, b, c, a', b', c', rfl⟩
  obtain ⟨x, hx, h3⟩ := h2 0 _ rfl
  obtain ⟨y, hy, h4⟩ := h2 1 _ rfl
  obtain ⟨z, hz, h5⟩ := h2 2 _ rfl
  obtain ⟨x', hx', h3'⟩ := h2 3 _ rfl
  obtain ⟨y', hy', h4'⟩ := h2 4 _ rfl
  obtain ⟨z', hz', h5'⟩ := h2 5 _ rfl
  simp at hx hy hz hx' hy' hz'
  subst hx; subst hy; subst hz; subst hx'; subst hy'; subst hz'
  obtain ⟨i1, k1, j1⟩ := fit_i64 Tryd.underlying3 h3
  obtain ⟨i2, k2, j2⟩ := fit_i64 Tryd.underlying3 h4
  obtain ⟨i3, k3, j3⟩ := fit_i64 Tryd.underlying3 h5
  obtain ⟨i4, k4, j4⟩ := fit_i64 Tryd.underlying3 h3'
  obtain ⟨i5, k5, j5⟩ := fit_i64 Tryd.underlying3 h4'
  obtain ⟨i6, k6, j6⟩ := fit_i64 Tryd.underlying3 h5'
  simp only [List.cons.injEq, and_true] at k1 k2 k3 k4 k5 k6
  subst k1; subst k2; subst k3; subst k4; subst k5; subst k6
  exact ⟨⟨i1, i2, i3, i4, i5, i6⟩, rfl, j1, j2, j3, j4, j5, j6⟩
theorem arg_plan {lv : LV} (h : fitA Tryd.prog 25 lv) : ∃ p, Im lv (plV p) ∧ PlOk p := by
  obtain ⟨ls, rfl, h0⟩ := arg_agg (by kernel_rfl) h
  obtain ⟨h1, d', h2⟩ := fit_flat Tryd.underlying25 (n := 2) (by kernel_rfl) (by kernel_rfl) h0
  obtain ⟨a, b, rfl⟩ : ∃ a b, ls = [a, b] := by
    match ls, h1 with
    | [a, b], _ => exact ⟨a, b, rfl⟩
  obtain ⟨x, hx, h3⟩ := h2 0 _ rfl
  obtain ⟨y, hy, h4⟩ := h2 1 _ rfl
  simp at hx hy
  subst hx; subst hy
  obtain ⟨d1, n1, f1, e1, l1, g1⟩ := fit_sl Tryd.underlying22 h3
  obtain ⟨d2, n2, f2, e2, l2, g2⟩ := fit_sl Tryd.underlying23 h4
  have hn : ∀ i, ∃ x : Nd, i < n1 → f1 i = ndL x ∧ x.name.size ≤ maxLen ∧ In64 x.ports := by
    intro i
    by_cases hi : i < n1
    · obtain ⟨x, h⟩ := el_node (g1 i hi); exact ⟨x, fun _ => h⟩
    · exact ⟨default, fun h => absurd h hi⟩
  obtain ⟨ns, hns⟩ := Classical.axiomOfChoice hn
  have hc : ∀ i, ∃ x : Cb, i < n2 → f2 i = cbL x ∧ In64 x.a ∧ In64 x.ap ∧ In64 x.b ∧ In64 x.bp ∧ In64 x.dl ∧ In64 x.cp := by
    intro i
    by_cases hi : i < n2
    · obtain ⟨x, h⟩ := el_cable (g2 i hi); exact ⟨x, fun _ => h⟩
    · exact ⟨default, fun h => absurd h hi⟩
  obtain ⟨cs, hcs⟩ := Classical.axiomOfChoice hc
  simp only [List.cons.injEq, and_true] at e1 e2
  subst e1; subst e2
  rw [show Tryd.prog.cellsOf 95 = 3 by kernel_rfl, show Tryd.prog.cellsOf 47 = 6 by kernel_rfl]
  refine ⟨⟨listOf n1 ns, listOf n2 cs⟩, ?_, ⟨fun x hx => ?_, fun x hx => ?_⟩⟩
  · unfold plV
    refine Im.aggL ⟨?_, ?_, trivial⟩
    · show Im (.rsl 3 n1 f1) (.rsl 3 (listOf n1 ns).length (ndsF (listOf n1 ns)))
      rw [listOf_len]
      refine Im.rsl fun i hi => ?_
      rw [(hns i hi).1, ndsF, listOf_get n1 ns default hi]
    · show Im (.rsl 6 n2 f2) (.rsl 6 (listOf n2 cs).length (cbsF (listOf n2 cs)))
      rw [listOf_len]
      refine Im.rsl fun i hi => ?_
      rw [(hcs i hi).1, cbsF, listOf_get n2 cs default hi]
  · obtain ⟨i, hi, rfl⟩ := listOf_mem hx
    exact (hns i hi).2
  · obtain ⟨i, hi, rfl⟩ := listOf_mem hx
    exact (hcs i hi).2
theorem arg_ints {lv : LV} (h : fitA Tryd.prog 26 lv) : ∃ l, Im lv (intsV l) ∧ (∀ x, x ∈ l → In64 x) ∧ l.length ≤ maxLen := sl_i64 Tryd.underlying26 Tryd.underlying3 (by kernel_rfl) (arg_cell (by kernel_rfl) h)
theorem arg_bools {lv : LV} (h : fitA Tryd.prog 29 lv) : ∃ l, Im lv (boolsV l) ∧ l.length ≤ maxLen := sl_bool Tryd.underlying29 Tryd.underlying4 (by kernel_rfl) (arg_cell (by kernel_rfl) h)
theorem arg_int {lv : LV} (h : fitA Tryd.prog 3 lv) : ∃ n, lv = .sc (.int .i64 n) ∧ In64 n := by
  obtain ⟨n, h1, h2⟩ := fit_i64 Tryd.underlying3 (arg_cell (by kernel_rfl) h)
  simp only [List.cons.injEq, and_true] at h1
  exact ⟨n, h1, h2⟩
theorem arg_u8 {lv : LV} (h : fitA Tryd.prog 5 lv) : ∃ n, lv = .sc (.int .u8 n) ∧ 0 ≤ n ∧ n ≤ 255 := by
  have h := arg_cell (by kernel_rfl) h
  unfold fitT at h
  rw [Tryd.underlying5] at h
  obtain ⟨n, h1, h2⟩ := h
  simp only [List.cons.injEq, and_true] at h1
  have e1 : IntKind.u8.min = 0 := by decide
  have e2 : IntKind.u8.max = 255 := by decide
  simp [Lit.wf, e1, e2] at h2
  exact ⟨n, h1, h2⟩
theorem all1 {t : TypeId} {ts : List TypeId} {l : List LV} (h : fitAll Tryd.prog (t :: ts) l) : ∃ a r, l = a :: r ∧ fitA Tryd.prog t a ∧ fitAll Tryd.prog ts r := by
  cases l with
  | nil => exact h.elim
  | cons a r => exact ⟨a, r, rfl, h.1, h.2⟩
theorem all0 {l : List LV} (h : fitAll Tryd.prog [] l) : l = [] := by
  cases l with
  | nil => rfl
  | cons a r => exact h.elim
theorem Tryd.own' : ownKnob Tryd.prog.godebug = none := by kernel_rfl
theorem Tryd.laidOut' : laidOutB Tryd.prog = true := by kernel_rfl
end Go.Proofs.YtcdepkflghcjpaaDoor
namespace Go.Proofs.YtcdepkflghcjpaaDoor
set_option linter.unusedSimpArgs false
set_option linter.unusedVariables false
open Go.RowKit
set_option maxRecDepth 100000

theorem arg_order {lv : LV} (h : fitA Tryd.prog 28 lv) : ∃ l : List Int, Im lv (.agg [intsV l]) ∧ (∀ x, x ∈ l → In64 x) ∧ l.length ≤ maxLen := by
  obtain ⟨ls, rfl, h0⟩ := arg_agg (by kernel_rfl) h
  obtain ⟨h1, d', h2⟩ := fit_flat Tryd.underlying28 (n := 1) (by kernel_rfl) (by kernel_rfl) h0
  obtain ⟨a, rfl⟩ : ∃ a, ls = [a] := by
    match ls, h1 with
    | [a], _ => exact ⟨a, rfl⟩
  obtain ⟨x, hx, h3⟩ := h2 0 _ rfl
  simp at hx
  subst hx
  obtain ⟨l, il, hl, nl⟩ := sl_i64 Tryd.underlying26 Tryd.underlying3 (by kernel_rfl) h3
  exact ⟨l, Im.aggL ⟨il, trivial⟩, hl, nl⟩
end Go.Proofs.YtcdepkflghcjpaaDoor
namespace Go.Proofs.YtcdepkflghcjpaaDoor
open Go.RowKit

theorem gx_of {a b : String × DataW Unit} {rest : List (String × DataW Unit)} {W : World} (h : laidMetH Tryd.prog (a :: b :: ("internal/strconv.uint64pow10", Rows.laid_internal_strconv_uint64pow10) :: rest) W) (hp : ((a :: b :: ("internal/strconv.uint64pow10", Rows.laid_internal_strconv_uint64pow10) :: rest).all fun x => x.2.handleName?.isNone) = true) : GX W := by
  rw [MakeChecks.laidMetH_plain _ _ _ hp] at h
  have h2 := (h.tail).tail
  exact Lib.tabIs_of_head (g := 1) (t := 169) (e := 158) (n := 20) (by kernel_rfl) (by kernel_rfl) (by kernel_rfl) (by kernel_rfl) (by kernel_rfl) (by kernel_rfl) (show laidMet Tryd.prog (("internal/strconv.uint64pow10", Lib.tabData .u64 Lib.pow10Tab) :: rest) W from h2)
end Go.Proofs.YtcdepkflghcjpaaDoor
