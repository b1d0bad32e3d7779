/- Chapter 14: reading the lines; Chapter 14: what is known of lines that are read; the map of names; Chapter 14: graph.Parse; Chapter 14: numbers in decimal, by the reference; Chapter 14: the text of a plan, by the reference; Chapter 14: the two writings of a plan's text are one; Chapter 14: a plan is the same as itself; Chapter 14: the law GraphTexts; Chapter 14: what is read as a plan is the plan's text; a line that fails does so whatever follows it; in plain terms; Chapter 14: strings.SplitAfter at a newline; Chapter 14: the law GraphAgain; What a world must hold at seat 14, from what a row lists and from the shape of the variables. Conditions: none. -/
import Derived.Test.YtchpncmmlhfemaaDoorMF
import Derived.Lib.LaidTab
import Derived.Stop.LaidErr
import Derived.KernelRfl
import Derived.Shelf.Vars
import Derived.FnData
namespace Go.Proofs.YtchpncmmlhfemaaDoor
set_option linter.unusedSimpArgs false
set_option linter.unusedVariables false
open Go.RowKit
set_option maxRecDepth 20000

def apG (z : Nat) (g : Nat → List LV) : Nat → Nat → List LV
  | 0 => elO .dead
  | m + 1 => fun i => if i < m then apG z g m i else List.take z (List.drop ((i - m) * z) (g m))
theorem apG_get {z : Nat} {g : Nat → List LV} (hg : ∀ m, (g m).length = z) : ∀ {m i : Nat}, i < m → apG z g m i = g i
  | m + 1, i, h => by
    unfold apG
    by_cases e : i < m
    · rw [if_pos e]; exact apG_get hg e
    · have : i = m := by omega
      subst this
      rw [if_neg e, Nat.sub_self, Nat.zero_mul, List.drop_zero, List.take_of_length_le (by rw [hg]; exact Nat.le_refl _)]
theorem apG_congr {z : Nat} {g g' : Nat → List LV} : ∀ {m : Nat}, (∀ j, j < m → g j = g' j) → apG z g m = apG z g' m
  | 0, _ => rfl
  | m + 1, h => by
    unfold apG
    rw [apG_congr (m := m) fun j hj => h j (by omega), h m (by omega)]
def bsG (z : Nat) (l : List LV) (i : Nat) : List LV := List.take z (List.drop (i * z) l)
def nmL (q : By × By) : List LV := [.sc (.string (strB q.1)), .sc (.string (strB q.2))]
def nmsF (l : List (By × By)) (i : Nat) : List LV := nmL (l.getD i ([], []))
def zr6 : List LV := [.sc (.int .i64 0), .sc (.int .i64 0), .sc (.int .i64 0), .sc (.int .i64 0), .sc (.int .i64 0), .sc (.int .i64 0)]
def zr2 : List LV := [.sc (.string ⟨#[]⟩), .sc (.string ⟨#[]⟩)]
def hoN (ns : List Nd) : List (Nat × LO) := if ns = [] then [] else [(0, .box (ndL (ns.getD 0 default))), (0, .box zr6), (0, .box zr2), (0, .row 3 1 (bsG 3 (ndL (ns.getD 0 default)))), (ns.length - 1, .row 3 ns.length (apG 3 (ndsF ns) ns.length))]
def hoC (cs : List Cb) (nm : List (By × By)) : List (Nat × LO) := if cs = [] then [] else [(0, .box (ndL default)), (0, .box (cbL (cs.getD 0 default))), (0, .box (nmL (nm.getD 0 ([], [])))), (0, .row 6 1 (bsG 6 (cbL (cs.getD 0 default)))), (cs.length - 1, .row 6 cs.length (apG 6 (cbsF cs) cs.length)),
  (0, .row 2 1 (bsG 2 (nmL (nm.getD 0 ([], []))))), (nm.length - 1, .row 2 nm.length (apG 2 (nmsF nm) nm.length))]
def slN (ns : List Nd) : LV := if ns = [] then .nsl else .sl 7 (ns.length - 1) 3 0 ns.length
def slC (ns : List Nd) (cs : List Cb) : LV := if cs = [] then .nsl else if ns = [] then .sl 7 (cs.length - 1) 6 0 cs.length else .sl 12 (cs.length - 1) 6 0 cs.length
def slM (ns : List Nd) (cs : List Cb) (nm : List (By × By)) : LV := if cs = [] then .nsl else if ns = [] then .sl 9 (nm.length - 1) 2 0 nm.length else .sl 14 (nm.length - 1) 2 0 nm.length
structure Lst where
  s : By
  ns : List Nd
  cs : List Cb
  nm : List (By × By)
  i : Nat
abbrev RdR := List Nd × List Cb × List (By × By) × Nat
structure LI (L : Nat) (R : RdR) (x : Lst) : Prop where
  r : rdL x.s x.ns x.cs x.nm x.i = R
  l : x.nm.length = x.cs.length
  n : x.s.length + x.ns.length + x.cs.length ≤ L
  i : 1 ≤ x.i ∧ x.i + x.s.length ≤ L + 1
def rlV (R : RdR) : LV := if 0 < R.2.2.2 then .tup [.agg [.nsl, .nsl], .nsl, .sc (.int .i64 (R.2.2.2 : Nat))] else .tup [.agg [slN R.1, slC R.1 R.2.1], slM R.1 R.2.1 R.2.2.1, .sc (.int .i64 0)]
def rlH (R : RdR) : List (Nat × LO) := if 0 < R.2.2.2 then [(0, .box [.nsl, .nsl])] else [(0, .box [.nsl, .nsl]), (0, .box [slN R.1, slC R.1 R.2.1]), (0, .box [slN R.1, slC R.1 R.2.1])] ++ hoN R.1 ++ hoC R.2.1 R.2.2.1
theorem hoN_nil : hoN [] = [] := rfl
theorem hoN_cons (n : Nd) (ns : List Nd) : hoN (n :: ns) = [(0, .box (ndL n)), (0, .box zr6), (0, .box zr2), (0, .row 3 1 (bsG 3 (ndL n))), (ns.length, .row 3 (ns.length + 1) (apG 3 (ndsF (n :: ns)) (ns.length + 1)))] := rfl
theorem hoC_nil (nm : List (By × By)) : hoC [] nm = [] := rfl
theorem hoC_cons (c : Cb) (cs : List Cb) (m : By × By) (nm : List (By × By)) : hoC (c :: cs) (m :: nm) = [(0, .box (ndL default)), (0, .box (cbL c)), (0, .box (nmL m)), (0, .row 6 1 (bsG 6 (cbL c))), (cs.length, .row 6 (cs.length + 1) (apG 6 (cbsF (c :: cs)) (cs.length + 1))),
  (0, .row 2 1 (bsG 2 (nmL m))), (nm.length, .row 2 (nm.length + 1) (apG 2 (nmsF (m :: nm)) (nm.length + 1)))] := rfl
theorem slN_nil : slN [] = .nsl := rfl
theorem slN_cons (n : Nd) (ns : List Nd) : slN (n :: ns) = .sl 7 ns.length 3 0 (ns.length + 1) := rfl
theorem slC_nil (ns : List Nd) : slC ns [] = .nsl := rfl
theorem slC_c0 (c : Cb) (cs : List Cb) : slC [] (c :: cs) = .sl 7 cs.length 6 0 (cs.length + 1) := rfl
theorem slC_c1 (n : Nd) (ns : List Nd) (c : Cb) (cs : List Cb) : slC (n :: ns) (c :: cs) = .sl 12 cs.length 6 0 (cs.length + 1) := rfl
theorem slM_nil (ns : List Nd) (nm : List (By × By)) : slM ns [] nm = .nsl := rfl
theorem slM_c0 (c : Cb) (cs : List Cb) (m : By × By) (nm : List (By × By)) : slM [] (c :: cs) (m :: nm) = .sl 9 nm.length 2 0 (nm.length + 1) := rfl
theorem slM_c1 (n : Nd) (ns : List Nd) (c : Cb) (cs : List Cb) (m : By × By) (nm : List (By × By)) : slM (n :: ns) (c :: cs) (m :: nm) = .sl 14 nm.length 2 0 (nm.length + 1) := rfl
theorem rdNC (ws : List By) : ((rdN ws).2 = true → rdC ws = none) ∧ ((rdC ws).isSome = true → (rdN ws).1 = default) := by
  match ws with
  | [] => exact ⟨fun _ => rfl, fun _ => rfl⟩
  | [_] => exact ⟨fun _ => rfl, fun _ => rfl⟩
  | [_, _] => exact ⟨fun _ => rfl, fun h => by simp [rdC] at h⟩
  | [_, _, _] => exact ⟨fun _ => rfl, fun h => by simp [rdC] at h⟩
  | [_, _, _, _] => exact ⟨fun _ => rfl, fun _ => rfl⟩
  | [_, _, _, _, _] => exact ⟨fun _ => rfl, fun _ => rfl⟩
  | [_, _, _, _, _, _] => exact ⟨fun _ => rfl, fun _ => rfl⟩
  | [_, _, _, _, _, _, _] => exact ⟨fun h => by simp [rdN] at h, fun _ => rfl⟩
  | _ :: _ :: _ :: _ :: _ :: _ :: _ :: _ :: _ => exact ⟨fun _ => rfl, fun _ => rfl⟩
theorem rd_one {r rest : By} {ended : Bool} {n1 : Nd} {b1 : Bool} {oc : Option (Cb × By × By)} {ns : List Nd} {cs : List Cb} {nm : List (By × By)} {i : Nat} {R : RdR} (he : ¬ r = [])
    (hr : (if h : r = [] then (ns, cs, nm, 0) else if ended = true ∧ b1 = true ∧ cs = [] then rdL rest (ns ++ [n1]) cs nm (i + 1) else if ended = true then match oc with
      | some q => rdL rest ns (cs ++ [q.1]) (nm ++ [q.2]) (i + 1)
      | none => ([], [], [], i) else ([], [], [], i)) = R) :
    ((bif ended then b1 else false) = true → cs = [] → rdL rest (ns ++ [n1]) cs nm (i + 1) = R) ∧
    (¬ ((bif ended then b1 else false) = true ∧ cs = []) → (bif ended then oc.isSome else false) = true → ∀ q, oc = some q → rdL rest ns (cs ++ [q.1]) (nm ++ [q.2]) (i + 1) = R) ∧
    (¬ ((bif ended then b1 else false) = true ∧ cs = []) → (bif ended then oc.isSome else false) = false → R = ([], [], [], i)) := by
  rw [dif_neg he] at hr
  cases ended <;> cases b1 <;> cases oc <;> by_cases e : cs = [] <;> simp [e] at hr ⊢ <;> first | exact hr | exact hr.symm | (intro q hq; subst hq; exact hr)
theorem rlV_bad {i : Nat} (h : 1 ≤ i) : rlV ([], [], [], i) = .tup [.agg [.nsl, .nsl], .nsl, .sc (.int .i64 (i : Nat))] := if_pos h
theorem rlH_bad {i : Nat} (h : 1 ≤ i) : rlH ([], [], [], i) = [(0, .box [.nsl, .nsl])] := if_pos h
theorem rlV_ok (ns : List Nd) (cs : List Cb) (nm : List (By × By)) : rlV (ns, cs, nm, 0) = .tup [.agg [slN ns, slC ns cs], slM ns cs nm, .sc (.int .i64 0)] := rfl
theorem rlH_ok (ns : List Nd) (cs : List Cb) (nm : List (By × By)) : rlH (ns, cs, nm, 0) = [(0, .box [.nsl, .nsl]), (0, .box [slN ns, slC ns cs]), (0, .box [slN ns, slC ns cs])] ++ hoN ns ++ hoC cs nm := rfl
theorem bsG_len {z : Nat} {l : List LV} (h : l.length = z) (i : Nat) (hi : i < 1) : (List.take z (List.drop (i * z) l)).length = z := by
  rw [show i = 0 by omega, Nat.zero_mul, List.drop_zero, List.take_of_length_le (by omega), h]
theorem bsG_all {n z : Nat} {l : List LV} (h : l.length = z) (ha : allC n l) : ∀ i, i < 1 → allC n (List.take z (bsG z l i)) := by
  intro i hi
  unfold bsG
  rw [show i = 0 by omega, Nat.zero_mul, List.drop_zero, List.take_take, Nat.min_self, List.take_of_length_le (by omega)]
  exact ha
theorem apG_all {n z : Nat} {g : Nat → List LV} (hg : ∀ m, (g m).length = z) (ha : ∀ m, allC n (g m)) (m : Nat) : ∀ i, i < m → allC n (List.take z (apG z g m i)) := by
  intro i hi
  rw [apG_get hg hi, List.take_of_length_le (by rw [hg]; exact Nat.le_refl _)]
  exact ha i
theorem alN (n : Nat) (q : Nd) : allC n (ndL q) := ⟨trivial, trivial, trivial, trivial⟩
theorem alC (n : Nat) (c : Cb) : allC n (cbL c) := ⟨trivial, trivial, trivial, trivial, trivial, trivial, trivial⟩
theorem alM (n : Nat) (q : By × By) : allC n (nmL q) := ⟨trivial, trivial, trivial⟩
theorem al6 (n : Nat) : allC n zr6 := ⟨trivial, trivial, trivial, trivial, trivial, trivial, trivial⟩
theorem al2 (n : Nat) : allC n zr2 := ⟨trivial, trivial, trivial⟩
theorem getG_old {α : Type} {l : List α} {x d : α} {j : Nat} (h : j < l.length) : (l ++ [x]).getD j d = l.getD j d := by
  rw [List.getD_eq_getElem?_getD, List.getElem?_append_left h, ← List.getD_eq_getElem?_getD]
theorem getG_new {α : Type} {l : List α} {x d : α} : (l ++ [x]).getD l.length d = x := by
  rw [List.getD_eq_getElem?_getD, List.getElem?_append_right (Nat.le_refl _), Nat.sub_self]; rfl
theorem apG_snoc {α : Type} {z : Nat} (f : α → List LV) (d : α) (l : List α) (x : α) :
    (fun i => if i < l.length then apG z (fun j => f (l.getD j d)) l.length i else List.take z (List.drop ((i - l.length) * z) (f x))) = apG z (fun j => f ((l ++ [x]).getD j d)) (l.length + 1) := by
  rw [apG_congr (g := fun j => f (l.getD j d)) (g' := fun j => f ((l ++ [x]).getD j d)) fun j hj => by show f (l.getD j d) = f ((l ++ [x]).getD j d); rw [getG_old hj]]
  funext i
  show _ = if i < l.length then _ else List.take z (List.drop ((i - l.length) * z) (f ((l ++ [x]).getD l.length d)))
  rw [getG_new]
theorem apG_len {z : Nat} {g : Nat → List LV} (hg : ∀ m, (g m).length = z) (m : Nat) : ∀ i, i < m → (apG z g m i).length = z := fun i hi => by rw [apG_get hg hi, hg]
theorem apN (n : Nat) (l : List Nd) (m : Nat) : ∀ i, i < m → allC n (List.take 3 (apG 3 (ndsF l) m i)) := apG_all (g := ndsF l) (fun _ => rfl) (fun j => alN n (l.getD j default)) m
theorem apC (n : Nat) (l : List Cb) (m : Nat) : ∀ i, i < m → allC n (List.take 6 (apG 6 (cbsF l) m i)) := apG_all (g := cbsF l) (fun _ => rfl) (fun j => alC n (l.getD j default)) m
theorem apM (n : Nat) (l : List (By × By)) (m : Nat) : ∀ i, i < m → allC n (List.take 2 (apG 2 (nmsF l) m i)) := apG_all (g := nmsF l) (fun _ => rfl) (fun j => alM n (l.getD j ([], []))) m
theorem leN (l : List Nd) (m : Nat) : ∀ i, i < m → (apG 3 (ndsF l) m i).length = 3 := apG_len (g := ndsF l) (fun _ => rfl) m
theorem leC (l : List Cb) (m : Nat) : ∀ i, i < m → (apG 6 (cbsF l) m i).length = 6 := apG_len (g := cbsF l) (fun _ => rfl) m
theorem leM (l : List (By × By)) (m : Nat) : ∀ i, i < m → (apG 2 (nmsF l) m i).length = 2 := apG_len (g := nmsF l) (fun _ => rfl) m
theorem lc_readLines (s : By) (hs : s.length ≤ 100000) : LCall Tryd.prog 50 [.sc (.string (strB s))] (mkH [(0, .box [.nsl, .nsl])]) (rlV (rdL s [] [] [] 1)) (mkH (rlH (rdL s [] [] [] 1))) := by
  have h1 := fun l (hl : l.length ≤ 100000) => ev_cut l 10 (by omega)
  have h2 := fun l (hl : l.length ≤ 100000) => ev_split l 32 (by omega)
  have h3 := fun ws => ev_readNodeG ws
  have h4 := fun ws => ev_readCabG ws
  unfold wsV ndL at h3
  unfold wsV at h2
  unfold wsV cbL at h4
  refine lcall_of_lwp Tryd.func50 comp50 (show 1 ≤ Tryd.f50.ntmps by decide) (by unfold rlH; split <;> simp [mkH]) ?_
  unfold cf50 rf50
  simp only [↓EVP0, EVQ0, EVQ1, EVQ2, EVQ3, EVQ4, EVA, EVK, EVF,EVFT, ↓reduceIte, Nat.reduceEqDiff, Nat.reduceAdd, Nat.reduceSub, Nat.reduceMul, Nat.reduceLT, Nat.reduceLeDiff, reduceCtorEq, Int.reduceToNat, Int.reduceLT, Int.reduceLE, Int.reduceAdd, Int.reduceSub, Int.reduceMul, Int.reduceNeg, Int.reduceEq, Nat.reduceMod, forall_eq_or_imp, forall_eq, forall_const, cond_true, cond_false, decide_true, decide_false, true_imp_iff, implies_true, Int.cast_ofNat_Int, forall_eq']
  generalize hR : rdL s [] [] [] 1 = R
  refine lwp_loop (α := Lst) (LI s.length R) (fun x => [(0, .sc (.string (strB x.s))), (2, .ptr 1 0 0 0 0), (5, .ptr 2 0 0 0 0), (6, slM x.ns x.cs x.nm), (7, .sc (.int .i64 x.i))])
    (fun x => [(0, .box [.nsl, .nsl]), (0, .box [.nsl, .nsl]), (0, .box [slN x.ns, slC x.ns x.cs])] ++ hoN x.ns ++ hoC x.cs x.nm) (fun x => x.s.length) ⟨s, [], [], [], 1⟩ ⟨hR, rfl, by simp, by simp; omega⟩ ?_ (fun x => by simp [mkH]) ?_
  · unfold slN slC slM hoN hoC
    simp only [if_true, List.append_nil]
    simp only [↓EVP0, EVQ0, EVQ1, EVQ2, EVQ3, EVQ4, EVA, EVK, EVF,EVFT, ↓reduceIte, Nat.reduceEqDiff, Nat.reduceAdd, Nat.reduceSub, Nat.reduceMul, Nat.reduceLT, Nat.reduceLeDiff, reduceCtorEq, Int.reduceToNat, Int.reduceLT, Int.reduceLE, Int.reduceAdd, Int.reduceSub, Int.reduceMul, Int.reduceNeg, Int.reduceEq, Nat.reduceMod, forall_eq_or_imp, forall_eq, forall_const, cond_true, cond_false, decide_true, decide_false, true_imp_iff, implies_true, Int.cast_ofNat_Int, forall_eq']
  rintro ⟨r, ns, cs, nm, i⟩ ⟨hr, hl, hn, hi⟩
  simp only at hr hl hn hi ⊢
  unfold lb50_0
  have hc := cutL 10 r
  have hlt := fun h => cut_lt (c := 10) (s := r) h
  have k1 := h1 r (by omega)
  rw [rdL] at hr
  generalize cutE 10 r = c at *
  obtain ⟨line, rest, ended⟩ := c
  simp only at hc hlt k1
  have k2 := h2 line (by omega)
  have k3 := h3 (splE 32 line)
  have k4 := h4 (splE 32 line)
  have hdec : (!decide (strB r = ⟨#[]⟩)) = !decide (r = []) := by rw [show (⟨#[]⟩ : ByteArray) = strB [] from rfl, decG]
  generalize splE 32 line = ws at *
  have hx := rdNC ws
  generalize hrn : rdN ws = n1 at *
  have hce : cbE ws = (rdC ws).getD (⟨0, 0, 0, 0, 0, 0⟩, [], []) := rfl
  generalize cbE ws = c1 at *
  generalize rdC ws = oc at *
  obtain ⟨n1, b1⟩ := n1
  obtain ⟨c1, q1, q2⟩ := c1
  simp only at k3 k4 hr hce hx
  rcases ns with _ | ⟨n0, ns⟩
  · rcases cs with _ | ⟨c0, cs⟩
    · simp only [hoN_nil, hoC_nil, slN_nil, slC_nil, slM_nil, List.append_nil]
      simp only [↓EVP0, EVQ0, EVQ1, EVQ2, EVQ3, EVQ4, EVA, EVK, EVF,EVFT, ↓reduceIte, Nat.reduceEqDiff, Nat.reduceAdd, Nat.reduceSub, Nat.reduceMul, Nat.reduceLT, Nat.reduceLeDiff, reduceCtorEq, Int.reduceToNat, Int.reduceLT, Int.reduceLE, Int.reduceAdd, Int.reduceSub, Int.reduceMul, Int.reduceNeg, Int.reduceEq, Nat.reduceMod, forall_eq_or_imp, forall_eq, forall_const, cond_true, cond_false, decide_true, decide_false, true_imp_iff, implies_true, Int.cast_ofNat_Int, forall_eq']
      rw [hdec]
      refine ⟨fun hg => ?_, fun hg => ?_⟩
      rotate_left
      · have he : r = [] := by simpa using hg
        rw [dif_pos he] at hr
        subst hr
        unfold fin2
        simp only [rlV_ok, rlH_ok, hoN_nil, hoC_nil, slN_nil, slC_nil, slM_nil, List.append_nil]
        simp only [↓EVP0, EVQ0, EVQ1, EVQ2, EVQ3, EVQ4, EVA, EVK, EVF,EVFT, ↓reduceIte, Nat.reduceEqDiff, Nat.reduceAdd, Nat.reduceSub, Nat.reduceMul, Nat.reduceLT, Nat.reduceLeDiff, reduceCtorEq, Int.reduceToNat, Int.reduceLT, Int.reduceLE, Int.reduceAdd, Int.reduceSub, Int.reduceMul, Int.reduceNeg, Int.reduceEq, Nat.reduceMod, forall_eq_or_imp, forall_eq, forall_const, cond_true, cond_false, decide_true, decide_false, true_imp_iff, implies_true, Int.cast_ofNat_Int, forall_eq']
      have he : ¬ r = [] := by simpa using hg
      have hlt' := hlt he
      obtain ⟨o1, o2, o3⟩ := rd_one he hr
      refine callK_ro (k1) ?_ ?_
      · simp only [↓EVP0, EVQ0, EVQ1, EVQ2, EVQ3, EVQ4, EVA, EVK, EVF,EVFT, ↓reduceIte, Nat.reduceEqDiff, Nat.reduceAdd, Nat.reduceSub, Nat.reduceMul, Nat.reduceLT, Nat.reduceLeDiff, reduceCtorEq, Int.reduceToNat, Int.reduceLT, Int.reduceLE, Int.reduceAdd, Int.reduceSub, Int.reduceMul, Int.reduceNeg, Int.reduceEq, Nat.reduceMod, forall_eq_or_imp, forall_eq, forall_const, cond_true, cond_false, decide_true, decide_false, true_imp_iff, implies_true, Int.cast_ofNat_Int, forall_eq']
      simp only [↓EVP0, EVQ0, EVQ1, EVQ2, EVQ3, EVQ4, EVA, EVK, EVF,EVFT, ↓reduceIte, Nat.reduceEqDiff, Nat.reduceAdd, Nat.reduceSub, Nat.reduceMul, Nat.reduceLT, Nat.reduceLeDiff, reduceCtorEq, Int.reduceToNat, Int.reduceLT, Int.reduceLE, Int.reduceAdd, Int.reduceSub, Int.reduceMul, Int.reduceNeg, Int.reduceEq, Nat.reduceMod, forall_eq_or_imp, forall_eq, forall_const, cond_true, cond_false, decide_true, decide_false, true_imp_iff, implies_true, Int.cast_ofNat_Int, forall_eq']
      refine callK_ro (k2) ?_ ?_
      · simp only [↓EVP0, EVQ0, EVQ1, EVQ2, EVQ3, EVQ4, EVA, EVK, EVF,EVFT, ↓reduceIte, Nat.reduceEqDiff, Nat.reduceAdd, Nat.reduceSub, Nat.reduceMul, Nat.reduceLT, Nat.reduceLeDiff, reduceCtorEq, Int.reduceToNat, Int.reduceLT, Int.reduceLE, Int.reduceAdd, Int.reduceSub, Int.reduceMul, Int.reduceNeg, Int.reduceEq, Nat.reduceMod, forall_eq_or_imp, forall_eq, forall_const, cond_true, cond_false, decide_true, decide_false, true_imp_iff, implies_true, Int.cast_ofNat_Int, forall_eq']
      simp only [↓EVP0, EVQ0, EVQ1, EVQ2, EVQ3, EVQ4, EVA, EVK, EVF,EVFT, ↓reduceIte, Nat.reduceEqDiff, Nat.reduceAdd, Nat.reduceSub, Nat.reduceMul, Nat.reduceLT, Nat.reduceLeDiff, reduceCtorEq, Int.reduceToNat, Int.reduceLT, Int.reduceLE, Int.reduceAdd, Int.reduceSub, Int.reduceMul, Int.reduceNeg, Int.reduceEq, Nat.reduceMod, forall_eq_or_imp, forall_eq, forall_const, cond_true, cond_false, decide_true, decide_false, true_imp_iff, implies_true, Int.cast_ofNat_Int, forall_eq']
      refine callK_ro (k3) ?_ ?_
      · simp only [↓EVP0, EVQ0, EVQ1, EVQ2, EVQ3, EVQ4, EVA, EVK, EVF,EVFT, ↓reduceIte, Nat.reduceEqDiff, Nat.reduceAdd, Nat.reduceSub, Nat.reduceMul, Nat.reduceLT, Nat.reduceLeDiff, reduceCtorEq, Int.reduceToNat, Int.reduceLT, Int.reduceLE, Int.reduceAdd, Int.reduceSub, Int.reduceMul, Int.reduceNeg, Int.reduceEq, Nat.reduceMod, forall_eq_or_imp, forall_eq, forall_const, cond_true, cond_false, decide_true, decide_false, true_imp_iff, implies_true, Int.cast_ofNat_Int, forall_eq']
      simp only [↓EVP0, EVQ0, EVQ1, EVQ2, EVQ3, EVQ4, EVA, EVK, EVF,EVFT, ↓reduceIte, Nat.reduceEqDiff, Nat.reduceAdd, Nat.reduceSub, Nat.reduceMul, Nat.reduceLT, Nat.reduceLeDiff, reduceCtorEq, Int.reduceToNat, Int.reduceLT, Int.reduceLE, Int.reduceAdd, Int.reduceSub, Int.reduceMul, Int.reduceNeg, Int.reduceEq, Nat.reduceMod, forall_eq_or_imp, forall_eq, forall_const, cond_true, cond_false, decide_true, decide_false, true_imp_iff, implies_true, Int.cast_ofNat_Int, forall_eq']
      refine callK_ro (k4) ?_ ?_
      · simp only [↓EVP0, EVQ0, EVQ1, EVQ2, EVQ3, EVQ4, EVA, EVK, EVF,EVFT, ↓reduceIte, Nat.reduceEqDiff, Nat.reduceAdd, Nat.reduceSub, Nat.reduceMul, Nat.reduceLT, Nat.reduceLeDiff, reduceCtorEq, Int.reduceToNat, Int.reduceLT, Int.reduceLE, Int.reduceAdd, Int.reduceSub, Int.reduceMul, Int.reduceNeg, Int.reduceEq, Nat.reduceMod, forall_eq_or_imp, forall_eq, forall_const, cond_true, cond_false, decide_true, decide_false, true_imp_iff, implies_true, Int.cast_ofNat_Int, forall_eq']
      simp only [↓EVP0, EVQ0, EVQ1, EVQ2, EVQ3, EVQ4, EVA, EVK, EVF,EVFT, ↓reduceIte, Nat.reduceEqDiff, Nat.reduceAdd, Nat.reduceSub, Nat.reduceMul, Nat.reduceLT, Nat.reduceLeDiff, reduceCtorEq, Int.reduceToNat, Int.reduceLT, Int.reduceLE, Int.reduceAdd, Int.reduceSub, Int.reduceMul, Int.reduceNeg, Int.reduceEq, Nat.reduceMod, forall_eq_or_imp, forall_eq, forall_const, cond_true, cond_false, decide_true, decide_false, true_imp_iff, implies_true, Int.cast_ofNat_Int, forall_eq']
      have hnm : nm = [] := by simpa using hl
      subst hnm
      refine ⟨fun hg2 => ?_, fun hg2 => ⟨fun hg3 => ?_, fun hg3 => ?_⟩⟩
      · have hb : (bif ended then b1 else false) = true := by revert hg2; cases ended <;> cases b1 <;> simp
        have hb1 : b1 = true := by revert hb; cases ended <;> cases b1 <;> simp
        have ho := hx.1 hb1
        rw [ho] at hce
        injection hce with hce1 hce2
        injection hce2 with hce2 hce3
        subst hce1; subst hce2; subst hce3
        have o1' := o1 hb rfl
        rw [List.nil_append] at o1'
        refine ⟨bsG_len rfl, by unfold appRoom; omega, by unfold In64; omega, ⟨rest, [n1], [], [], i + 1⟩, ⟨o1', rfl, by simp at hn ⊢; omega, by simp only; omega⟩, ?_⟩
        simp only [hoN_cons, hoC_nil, slN_cons, slC_nil, slM_nil, List.append_nil]
        simp only [↓EVP0, EVQ0, EVQ1, EVQ2, EVQ3, EVQ4, EVA, EVK, EVF,EVFT, ↓reduceIte, Nat.reduceEqDiff, Nat.reduceAdd, Nat.reduceSub, Nat.reduceMul, Nat.reduceLT, Nat.reduceLeDiff, reduceCtorEq, Int.reduceToNat, Int.reduceLT, Int.reduceLE, Int.reduceAdd, Int.reduceSub, Int.reduceMul, Int.reduceNeg, Int.reduceEq, Nat.reduceMod, forall_eq_or_imp, forall_eq, forall_const, cond_true, cond_false, decide_true, decide_false, true_imp_iff, implies_true, Int.cast_ofNat_Int, forall_eq']
        exact ⟨⟨rfl, alN _ _, rfl, al6 _, rfl, al2 _, rfl, bsG_all rfl (alN _ _), rfl, apN _ _ _⟩, hlt'⟩
      · have hnb : ¬ ((bif ended then b1 else false) = true ∧ ([] : List Cb) = []) := by revert hg2; cases ended <;> cases b1 <;> simp
        have hos : oc.isSome = true := by revert hg3; cases ended <;> simp
        have hn1 := hx.2 hos
        obtain ⟨q, hq⟩ := Option.isSome_iff_exists.1 hos
        have o2' := o2 hnb hg3 q hq
        rw [hq] at hce
        obtain rfl : (c1, q1, q2) = q := hce
        subst hn1
        rw [List.nil_append, List.nil_append] at o2'
        refine ⟨bsG_len rfl, by unfold appRoom; omega, bsG_len rfl, by unfold appRoom; omega, by unfold In64; omega, ⟨rest, [], [c1], [(q1, q2)], i + 1⟩, ⟨o2', rfl, by simp at hn ⊢; omega, by simp only; omega⟩, ?_⟩
        simp only [hoN_nil, hoC_cons, slN_nil, slC_c0, slM_c0, List.nil_append, List.append_nil]
        simp only [↓EVP0, EVQ0, EVQ1, EVQ2, EVQ3, EVQ4, EVA, EVK, EVF,EVFT, ↓reduceIte, Nat.reduceEqDiff, Nat.reduceAdd, Nat.reduceSub, Nat.reduceMul, Nat.reduceLT, Nat.reduceLeDiff, reduceCtorEq, Int.reduceToNat, Int.reduceLT, Int.reduceLE, Int.reduceAdd, Int.reduceSub, Int.reduceMul, Int.reduceNeg, Int.reduceEq, Nat.reduceMod, forall_eq_or_imp, forall_eq, forall_const, cond_true, cond_false, decide_true, decide_false, true_imp_iff, implies_true, Int.cast_ofNat_Int, forall_eq']
        exact ⟨⟨rfl, alN _ _, rfl, alC _ _, rfl, alM _ _, rfl, bsG_all rfl (alC _ _), rfl, apC _ _ _, rfl, bsG_all rfl (alM _ _), rfl, apM _ _ _⟩, hlt'⟩
      · have hnb : ¬ ((bif ended then b1 else false) = true ∧ ([] : List Cb) = []) := by revert hg2; cases ended <;> cases b1 <;> simp
        rw [o3 hnb hg3, rlV_bad hi.1, rlH_bad hi.1]
        unfold fin2
        simp only [↓EVP0, EVQ0, EVQ1, EVQ2, EVQ3, EVQ4, EVA, EVK, EVF,EVFT, ↓reduceIte, Nat.reduceEqDiff, Nat.reduceAdd, Nat.reduceSub, Nat.reduceMul, Nat.reduceLT, Nat.reduceLeDiff, reduceCtorEq, Int.reduceToNat, Int.reduceLT, Int.reduceLE, Int.reduceAdd, Int.reduceSub, Int.reduceMul, Int.reduceNeg, Int.reduceEq, Nat.reduceMod, forall_eq_or_imp, forall_eq, forall_const, cond_true, cond_false, decide_true, decide_false, true_imp_iff, implies_true, Int.cast_ofNat_Int, forall_eq']
    · rcases nm with _ | ⟨m0, nm⟩
      · simp at hl
      simp only [hoN_nil, hoC_cons, slN_nil, slC_c0, slM_c0, List.nil_append, List.append_nil]
      simp only [↓EVP0, EVQ0, EVQ1, EVQ2, EVQ3, EVQ4, EVA, EVK, EVF,EVFT, ↓reduceIte, Nat.reduceEqDiff, Nat.reduceAdd, Nat.reduceSub, Nat.reduceMul, Nat.reduceLT, Nat.reduceLeDiff, reduceCtorEq, Int.reduceToNat, Int.reduceLT, Int.reduceLE, Int.reduceAdd, Int.reduceSub, Int.reduceMul, Int.reduceNeg, Int.reduceEq, Nat.reduceMod, forall_eq_or_imp, forall_eq, forall_const, cond_true, cond_false, decide_true, decide_false, true_imp_iff, implies_true, Int.cast_ofNat_Int, forall_eq']
      rw [hdec]
      refine ⟨fun hg => ?_, fun hg => ?_⟩
      rotate_left
      · have he : r = [] := by simpa using hg
        rw [dif_pos he] at hr
        subst hr
        unfold fin2
        simp only [rlV_ok, rlH_ok, hoN_nil, hoC_cons, slN_nil, slC_c0, slM_c0, List.nil_append, List.append_nil]
        simp only [↓EVP0, EVQ0, EVQ1, EVQ2, EVQ3, EVQ4, EVA, EVK, EVF,EVFT, ↓reduceIte, Nat.reduceEqDiff, Nat.reduceAdd, Nat.reduceSub, Nat.reduceMul, Nat.reduceLT, Nat.reduceLeDiff, reduceCtorEq, Int.reduceToNat, Int.reduceLT, Int.reduceLE, Int.reduceAdd, Int.reduceSub, Int.reduceMul, Int.reduceNeg, Int.reduceEq, Nat.reduceMod, forall_eq_or_imp, forall_eq, forall_const, cond_true, cond_false, decide_true, decide_false, true_imp_iff, implies_true, Int.cast_ofNat_Int, forall_eq']
        exact ⟨alN _ _, alC _ _, alM _ _, bsG_all rfl (alC _ _), apC _ _ _, bsG_all rfl (alM _ _), apM _ _ _⟩
      have he : ¬ r = [] := by simpa using hg
      have hlt' := hlt he
      obtain ⟨o1, o2, o3⟩ := rd_one he hr
      refine callK_ro (k1) ?_ ?_
      · simp only [↓EVP0, EVQ0, EVQ1, EVQ2, EVQ3, EVQ4, EVA, EVK, EVF,EVFT, ↓reduceIte, Nat.reduceEqDiff, Nat.reduceAdd, Nat.reduceSub, Nat.reduceMul, Nat.reduceLT, Nat.reduceLeDiff, reduceCtorEq, Int.reduceToNat, Int.reduceLT, Int.reduceLE, Int.reduceAdd, Int.reduceSub, Int.reduceMul, Int.reduceNeg, Int.reduceEq, Nat.reduceMod, forall_eq_or_imp, forall_eq, forall_const, cond_true, cond_false, decide_true, decide_false, true_imp_iff, implies_true, Int.cast_ofNat_Int, forall_eq']
      simp only [↓EVP0, EVQ0, EVQ1, EVQ2, EVQ3, EVQ4, EVA, EVK, EVF,EVFT, ↓reduceIte, Nat.reduceEqDiff, Nat.reduceAdd, Nat.reduceSub, Nat.reduceMul, Nat.reduceLT, Nat.reduceLeDiff, reduceCtorEq, Int.reduceToNat, Int.reduceLT, Int.reduceLE, Int.reduceAdd, Int.reduceSub, Int.reduceMul, Int.reduceNeg, Int.reduceEq, Nat.reduceMod, forall_eq_or_imp, forall_eq, forall_const, cond_true, cond_false, decide_true, decide_false, true_imp_iff, implies_true, Int.cast_ofNat_Int, forall_eq']
      refine callK_ro (k2) ?_ ?_
      · simp only [↓EVP0, EVQ0, EVQ1, EVQ2, EVQ3, EVQ4, EVA, EVK, EVF,EVFT, ↓reduceIte, Nat.reduceEqDiff, Nat.reduceAdd, Nat.reduceSub, Nat.reduceMul, Nat.reduceLT, Nat.reduceLeDiff, reduceCtorEq, Int.reduceToNat, Int.reduceLT, Int.reduceLE, Int.reduceAdd, Int.reduceSub, Int.reduceMul, Int.reduceNeg, Int.reduceEq, Nat.reduceMod, forall_eq_or_imp, forall_eq, forall_const, cond_true, cond_false, decide_true, decide_false, true_imp_iff, implies_true, Int.cast_ofNat_Int, forall_eq']
      simp only [↓EVP0, EVQ0, EVQ1, EVQ2, EVQ3, EVQ4, EVA, EVK, EVF,EVFT, ↓reduceIte, Nat.reduceEqDiff, Nat.reduceAdd, Nat.reduceSub, Nat.reduceMul, Nat.reduceLT, Nat.reduceLeDiff, reduceCtorEq, Int.reduceToNat, Int.reduceLT, Int.reduceLE, Int.reduceAdd, Int.reduceSub, Int.reduceMul, Int.reduceNeg, Int.reduceEq, Nat.reduceMod, forall_eq_or_imp, forall_eq, forall_const, cond_true, cond_false, decide_true, decide_false, true_imp_iff, implies_true, Int.cast_ofNat_Int, forall_eq']
      refine callK_ro (k3) ?_ ?_
      · simp only [↓EVP0, EVQ0, EVQ1, EVQ2, EVQ3, EVQ4, EVA, EVK, EVF,EVFT, ↓reduceIte, Nat.reduceEqDiff, Nat.reduceAdd, Nat.reduceSub, Nat.reduceMul, Nat.reduceLT, Nat.reduceLeDiff, reduceCtorEq, Int.reduceToNat, Int.reduceLT, Int.reduceLE, Int.reduceAdd, Int.reduceSub, Int.reduceMul, Int.reduceNeg, Int.reduceEq, Nat.reduceMod, forall_eq_or_imp, forall_eq, forall_const, cond_true, cond_false, decide_true, decide_false, true_imp_iff, implies_true, Int.cast_ofNat_Int, forall_eq']
      simp only [↓EVP0, EVQ0, EVQ1, EVQ2, EVQ3, EVQ4, EVA, EVK, EVF,EVFT, ↓reduceIte, Nat.reduceEqDiff, Nat.reduceAdd, Nat.reduceSub, Nat.reduceMul, Nat.reduceLT, Nat.reduceLeDiff, reduceCtorEq, Int.reduceToNat, Int.reduceLT, Int.reduceLE, Int.reduceAdd, Int.reduceSub, Int.reduceMul, Int.reduceNeg, Int.reduceEq, Nat.reduceMod, forall_eq_or_imp, forall_eq, forall_const, cond_true, cond_false, decide_true, decide_false, true_imp_iff, implies_true, Int.cast_ofNat_Int, forall_eq']
      refine callK_ro (k4) ?_ ?_
      · simp only [↓EVP0, EVQ0, EVQ1, EVQ2, EVQ3, EVQ4, EVA, EVK, EVF,EVFT, ↓reduceIte, Nat.reduceEqDiff, Nat.reduceAdd, Nat.reduceSub, Nat.reduceMul, Nat.reduceLT, Nat.reduceLeDiff, reduceCtorEq, Int.reduceToNat, Int.reduceLT, Int.reduceLE, Int.reduceAdd, Int.reduceSub, Int.reduceMul, Int.reduceNeg, Int.reduceEq, Nat.reduceMod, forall_eq_or_imp, forall_eq, forall_const, cond_true, cond_false, decide_true, decide_false, true_imp_iff, implies_true, Int.cast_ofNat_Int, forall_eq']
      simp only [↓EVP0, EVQ0, EVQ1, EVQ2, EVQ3, EVQ4, EVA, EVK, EVF,EVFT, ↓reduceIte, Nat.reduceEqDiff, Nat.reduceAdd, Nat.reduceSub, Nat.reduceMul, Nat.reduceLT, Nat.reduceLeDiff, reduceCtorEq, Int.reduceToNat, Int.reduceLT, Int.reduceLE, Int.reduceAdd, Int.reduceSub, Int.reduceMul, Int.reduceNeg, Int.reduceEq, Nat.reduceMod, forall_eq_or_imp, forall_eq, forall_const, cond_true, cond_false, decide_true, decide_false, true_imp_iff, implies_true, Int.cast_ofNat_Int, forall_eq']
      refine ⟨fun hg2 => ?_, fun hg2 => ⟨fun hg3 => ?_, fun hg3 => ?_⟩⟩
      · exfalso
        revert hg2
        cases ended <;> cases b1 <;> simp <;> omega
      · have hnb : ¬ ((bif ended then b1 else false) = true ∧ (c0 :: cs) = []) := fun h => by simp at h
        have hos : oc.isSome = true := by revert hg3; cases ended <;> simp
        have hn1 := hx.2 hos
        obtain ⟨q, hq⟩ := Option.isSome_iff_exists.1 hos
        have o2' := o2 hnb hg3 q hq
        rw [hq] at hce
        obtain rfl : (c1, q1, q2) = q := hce
        subst hn1
        try rw [List.cons_append, List.cons_append] at o2'
        refine ⟨bsG_len rfl, ?_⟩
        have hl' : nm.length = cs.length := by simpa using hl
        simp at hn
        refine ⟨⟨Nat.le_refl _, leC _ _⟩, by unfold appRoom; omega, bsG_len rfl, ⟨Nat.le_refl _, leM _ _⟩, by unfold appRoom; omega, by unfold In64; omega, ⟨rest, [], c0 :: (cs ++ [c1]), m0 :: (nm ++ [(q1, q2)]), i + 1⟩, ⟨o2', by simp [hl'], by simp; omega, by simp only; omega⟩, ?_⟩
        simp only [hoN_nil, hoC_cons, slN_nil, slC_c0, slM_c0, List.nil_append, List.append_nil, List.length_append, List.length_singleton]
        simp only [↓EVP0, EVQ0, EVQ1, EVQ2, EVQ3, EVQ4, EVA, EVK, EVF,EVFT, ↓reduceIte, Nat.reduceEqDiff, Nat.reduceAdd, Nat.reduceSub, Nat.reduceMul, Nat.reduceLT, Nat.reduceLeDiff, reduceCtorEq, Int.reduceToNat, Int.reduceLT, Int.reduceLE, Int.reduceAdd, Int.reduceSub, Int.reduceMul, Int.reduceNeg, Int.reduceEq, Nat.reduceMod, forall_eq_or_imp, forall_eq, forall_const, cond_true, cond_false, decide_true, decide_false, true_imp_iff, implies_true, Int.cast_ofNat_Int, forall_eq']
        exact ⟨⟨alN _ _, alC _ _, alM _ _, bsG_all rfl (alC _ _), congrArg (LO.row 6 _) (apG_snoc cbL default (c0 :: cs) c1), apC _ _ _, bsG_all rfl (alM _ _), congrArg (LO.row 2 _) (apG_snoc nmL ([], []) (m0 :: nm) (q1, q2)), apM _ _ _⟩, hlt'⟩
      · have hnb : ¬ ((bif ended then b1 else false) = true ∧ (c0 :: cs) = []) := fun h => by simp at h
        rw [o3 hnb hg3, rlV_bad hi.1, rlH_bad hi.1]
        unfold fin2
        simp only [↓EVP0, EVQ0, EVQ1, EVQ2, EVQ3, EVQ4, EVA, EVK, EVF,EVFT, ↓reduceIte, Nat.reduceEqDiff, Nat.reduceAdd, Nat.reduceSub, Nat.reduceMul, Nat.reduceLT, Nat.reduceLeDiff, reduceCtorEq, Int.reduceToNat, Int.reduceLT, Int.reduceLE, Int.reduceAdd, Int.reduceSub, Int.reduceMul, Int.reduceNeg, Int.reduceEq, Nat.reduceMod, forall_eq_or_imp, forall_eq, forall_const, cond_true, cond_false, decide_true, decide_false, true_imp_iff, implies_true, Int.cast_ofNat_Int, forall_eq']
  · rcases cs with _ | ⟨c0, cs⟩
    · have hnm : nm = [] := by simpa using hl
      subst hnm
      simp only [hoN_cons, hoC_nil, slN_cons, slC_nil, slM_nil, List.cons_append, List.nil_append, List.append_nil]
      simp only [↓EVP0, EVQ0, EVQ1, EVQ2, EVQ3, EVQ4, EVA, EVK, EVF,EVFT, ↓reduceIte, Nat.reduceEqDiff, Nat.reduceAdd, Nat.reduceSub, Nat.reduceMul, Nat.reduceLT, Nat.reduceLeDiff, reduceCtorEq, Int.reduceToNat, Int.reduceLT, Int.reduceLE, Int.reduceAdd, Int.reduceSub, Int.reduceMul, Int.reduceNeg, Int.reduceEq, Nat.reduceMod, forall_eq_or_imp, forall_eq, forall_const, cond_true, cond_false, decide_true, decide_false, true_imp_iff, implies_true, Int.cast_ofNat_Int, forall_eq']
      rw [hdec]
      refine ⟨fun hg => ?_, fun hg => ?_⟩
      rotate_left
      · have he : r = [] := by simpa using hg
        rw [dif_pos he] at hr
        subst hr
        unfold fin2
        simp only [rlV_ok, rlH_ok, hoN_cons, hoC_nil, slN_cons, slC_nil, slM_nil, List.cons_append, List.nil_append, List.append_nil]
        simp only [↓EVP0, EVQ0, EVQ1, EVQ2, EVQ3, EVQ4, EVA, EVK, EVF,EVFT, ↓reduceIte, Nat.reduceEqDiff, Nat.reduceAdd, Nat.reduceSub, Nat.reduceMul, Nat.reduceLT, Nat.reduceLeDiff, reduceCtorEq, Int.reduceToNat, Int.reduceLT, Int.reduceLE, Int.reduceAdd, Int.reduceSub, Int.reduceMul, Int.reduceNeg, Int.reduceEq, Nat.reduceMod, forall_eq_or_imp, forall_eq, forall_const, cond_true, cond_false, decide_true, decide_false, true_imp_iff, implies_true, Int.cast_ofNat_Int, forall_eq']
        exact ⟨alN _ _, al6 _, al2 _, bsG_all rfl (alN _ _), apN _ _ _⟩
      have he : ¬ r = [] := by simpa using hg
      have hlt' := hlt he
      obtain ⟨o1, o2, o3⟩ := rd_one he hr
      refine callK_ro (k1) ?_ ?_
      · simp only [↓EVP0, EVQ0, EVQ1, EVQ2, EVQ3, EVQ4, EVA, EVK, EVF,EVFT, ↓reduceIte, Nat.reduceEqDiff, Nat.reduceAdd, Nat.reduceSub, Nat.reduceMul, Nat.reduceLT, Nat.reduceLeDiff, reduceCtorEq, Int.reduceToNat, Int.reduceLT, Int.reduceLE, Int.reduceAdd, Int.reduceSub, Int.reduceMul, Int.reduceNeg, Int.reduceEq, Nat.reduceMod, forall_eq_or_imp, forall_eq, forall_const, cond_true, cond_false, decide_true, decide_false, true_imp_iff, implies_true, Int.cast_ofNat_Int, forall_eq']
      simp only [↓EVP0, EVQ0, EVQ1, EVQ2, EVQ3, EVQ4, EVA, EVK, EVF,EVFT, ↓reduceIte, Nat.reduceEqDiff, Nat.reduceAdd, Nat.reduceSub, Nat.reduceMul, Nat.reduceLT, Nat.reduceLeDiff, reduceCtorEq, Int.reduceToNat, Int.reduceLT, Int.reduceLE, Int.reduceAdd, Int.reduceSub, Int.reduceMul, Int.reduceNeg, Int.reduceEq, Nat.reduceMod, forall_eq_or_imp, forall_eq, forall_const, cond_true, cond_false, decide_true, decide_false, true_imp_iff, implies_true, Int.cast_ofNat_Int, forall_eq']
      refine callK_ro (k2) ?_ ?_
      · simp only [↓EVP0, EVQ0, EVQ1, EVQ2, EVQ3, EVQ4, EVA, EVK, EVF,EVFT, ↓reduceIte, Nat.reduceEqDiff, Nat.reduceAdd, Nat.reduceSub, Nat.reduceMul, Nat.reduceLT, Nat.reduceLeDiff, reduceCtorEq, Int.reduceToNat, Int.reduceLT, Int.reduceLE, Int.reduceAdd, Int.reduceSub, Int.reduceMul, Int.reduceNeg, Int.reduceEq, Nat.reduceMod, forall_eq_or_imp, forall_eq, forall_const, cond_true, cond_false, decide_true, decide_false, true_imp_iff, implies_true, Int.cast_ofNat_Int, forall_eq']
      simp only [↓EVP0, EVQ0, EVQ1, EVQ2, EVQ3, EVQ4, EVA, EVK, EVF,EVFT, ↓reduceIte, Nat.reduceEqDiff, Nat.reduceAdd, Nat.reduceSub, Nat.reduceMul, Nat.reduceLT, Nat.reduceLeDiff, reduceCtorEq, Int.reduceToNat, Int.reduceLT, Int.reduceLE, Int.reduceAdd, Int.reduceSub, Int.reduceMul, Int.reduceNeg, Int.reduceEq, Nat.reduceMod, forall_eq_or_imp, forall_eq, forall_const, cond_true, cond_false, decide_true, decide_false, true_imp_iff, implies_true, Int.cast_ofNat_Int, forall_eq']
      refine callK_ro (k3) ?_ ?_
      · simp only [↓EVP0, EVQ0, EVQ1, EVQ2, EVQ3, EVQ4, EVA, EVK, EVF,EVFT, ↓reduceIte, Nat.reduceEqDiff, Nat.reduceAdd, Nat.reduceSub, Nat.reduceMul, Nat.reduceLT, Nat.reduceLeDiff, reduceCtorEq, Int.reduceToNat, Int.reduceLT, Int.reduceLE, Int.reduceAdd, Int.reduceSub, Int.reduceMul, Int.reduceNeg, Int.reduceEq, Nat.reduceMod, forall_eq_or_imp, forall_eq, forall_const, cond_true, cond_false, decide_true, decide_false, true_imp_iff, implies_true, Int.cast_ofNat_Int, forall_eq']
      simp only [↓EVP0, EVQ0, EVQ1, EVQ2, EVQ3, EVQ4, EVA, EVK, EVF,EVFT, ↓reduceIte, Nat.reduceEqDiff, Nat.reduceAdd, Nat.reduceSub, Nat.reduceMul, Nat.reduceLT, Nat.reduceLeDiff, reduceCtorEq, Int.reduceToNat, Int.reduceLT, Int.reduceLE, Int.reduceAdd, Int.reduceSub, Int.reduceMul, Int.reduceNeg, Int.reduceEq, Nat.reduceMod, forall_eq_or_imp, forall_eq, forall_const, cond_true, cond_false, decide_true, decide_false, true_imp_iff, implies_true, Int.cast_ofNat_Int, forall_eq']
      refine callK_ro (k4) ?_ ?_
      · simp only [↓EVP0, EVQ0, EVQ1, EVQ2, EVQ3, EVQ4, EVA, EVK, EVF,EVFT, ↓reduceIte, Nat.reduceEqDiff, Nat.reduceAdd, Nat.reduceSub, Nat.reduceMul, Nat.reduceLT, Nat.reduceLeDiff, reduceCtorEq, Int.reduceToNat, Int.reduceLT, Int.reduceLE, Int.reduceAdd, Int.reduceSub, Int.reduceMul, Int.reduceNeg, Int.reduceEq, Nat.reduceMod, forall_eq_or_imp, forall_eq, forall_const, cond_true, cond_false, decide_true, decide_false, true_imp_iff, implies_true, Int.cast_ofNat_Int, forall_eq']
      simp only [↓EVP0, EVQ0, EVQ1, EVQ2, EVQ3, EVQ4, EVA, EVK, EVF,EVFT, ↓reduceIte, Nat.reduceEqDiff, Nat.reduceAdd, Nat.reduceSub, Nat.reduceMul, Nat.reduceLT, Nat.reduceLeDiff, reduceCtorEq, Int.reduceToNat, Int.reduceLT, Int.reduceLE, Int.reduceAdd, Int.reduceSub, Int.reduceMul, Int.reduceNeg, Int.reduceEq, Nat.reduceMod, forall_eq_or_imp, forall_eq, forall_const, cond_true, cond_false, decide_true, decide_false, true_imp_iff, implies_true, Int.cast_ofNat_Int, forall_eq']
      refine ⟨fun hg2 => ?_, fun hg2 => ⟨fun hg3 => ?_, fun hg3 => ?_⟩⟩
      · have hb : (bif ended then b1 else false) = true := by revert hg2; cases ended <;> cases b1 <;> simp
        have o1' := o1 hb rfl
        rw [List.cons_append] at o1'
        refine ⟨bsG_len rfl, ?_⟩
        simp at hn
        refine ⟨⟨Nat.le_refl _, leN _ _⟩, by unfold appRoom; omega, by unfold In64; omega, ⟨rest, n0 :: (ns ++ [n1]), [], [], i + 1⟩, ⟨o1', rfl, by simp; omega, by simp only; omega⟩, ?_⟩
        simp only [hoN_cons, hoC_nil, slN_cons, slC_nil, slM_nil, List.cons_append, List.nil_append, List.append_nil, List.length_append, List.length_singleton]
        simp only [↓EVP0, EVQ0, EVQ1, EVQ2, EVQ3, EVQ4, EVA, EVK, EVF,EVFT, ↓reduceIte, Nat.reduceEqDiff, Nat.reduceAdd, Nat.reduceSub, Nat.reduceMul, Nat.reduceLT, Nat.reduceLeDiff, reduceCtorEq, Int.reduceToNat, Int.reduceLT, Int.reduceLE, Int.reduceAdd, Int.reduceSub, Int.reduceMul, Int.reduceNeg, Int.reduceEq, Nat.reduceMod, forall_eq_or_imp, forall_eq, forall_const, cond_true, cond_false, decide_true, decide_false, true_imp_iff, implies_true, Int.cast_ofNat_Int, forall_eq']
        exact ⟨⟨alN _ _, al6 _, al2 _, bsG_all rfl (alN _ _), congrArg (LO.row 3 _) (apG_snoc ndL default (n0 :: ns) n1), apN _ _ _⟩, hlt'⟩
      · have hnb : ¬ ((bif ended then b1 else false) = true ∧ ([] : List Cb) = []) := by revert hg2; cases ended <;> cases b1 <;> simp
        have hos : oc.isSome = true := by revert hg3; cases ended <;> simp
        have hn1 := hx.2 hos
        obtain ⟨q, hq⟩ := Option.isSome_iff_exists.1 hos
        have o2' := o2 hnb hg3 q hq
        rw [hq] at hce
        obtain rfl : (c1, q1, q2) = q := hce
        subst hn1
        try rw [List.cons_append, List.cons_append] at o2'
        refine ⟨bsG_len rfl, ?_⟩
        simp at hn
        refine ⟨by unfold appRoom; omega, bsG_len rfl, by unfold appRoom; omega, by unfold In64; omega, ⟨rest, n0 :: ns, [c1], [(q1, q2)], i + 1⟩, ⟨o2', rfl, by simp; omega, by simp only; omega⟩, ?_⟩
        simp only [hoN_cons, hoC_cons, slN_cons, slC_c1, slM_c1, List.cons_append, List.nil_append, List.append_nil, List.length_append, List.length_singleton]
        simp only [↓EVP0, EVQ0, EVQ1, EVQ2, EVQ3, EVQ4, EVA, EVK, EVF,EVFT, ↓reduceIte, Nat.reduceEqDiff, Nat.reduceAdd, Nat.reduceSub, Nat.reduceMul, Nat.reduceLT, Nat.reduceLeDiff, reduceCtorEq, Int.reduceToNat, Int.reduceLT, Int.reduceLE, Int.reduceAdd, Int.reduceSub, Int.reduceMul, Int.reduceNeg, Int.reduceEq, Nat.reduceMod, forall_eq_or_imp, forall_eq, forall_const, cond_true, cond_false, decide_true, decide_false, true_imp_iff, implies_true, Int.cast_ofNat_Int, forall_eq']
        exact ⟨⟨alN _ _, al6 _, al2 _, bsG_all rfl (alN _ _), apN _ _ _, rfl, alN _ _, rfl, alC _ _, rfl, alM _ _, rfl, bsG_all rfl (alC _ _), rfl, apC _ _ _, rfl, bsG_all rfl (alM _ _), rfl, apM _ _ _⟩, hlt'⟩
      · have hnb : ¬ ((bif ended then b1 else false) = true ∧ ([] : List Cb) = []) := by revert hg2; cases ended <;> cases b1 <;> simp
        rw [o3 hnb hg3, rlV_bad hi.1, rlH_bad hi.1]
        unfold fin2
        simp only [↓EVP0, EVQ0, EVQ1, EVQ2, EVQ3, EVQ4, EVA, EVK, EVF,EVFT, ↓reduceIte, Nat.reduceEqDiff, Nat.reduceAdd, Nat.reduceSub, Nat.reduceMul, Nat.reduceLT, Nat.reduceLeDiff, reduceCtorEq, Int.reduceToNat, Int.reduceLT, Int.reduceLE, Int.reduceAdd, Int.reduceSub, Int.reduceMul, Int.reduceNeg, Int.reduceEq, Nat.reduceMod, forall_eq_or_imp, forall_eq, forall_const, cond_true, cond_false, decide_true, decide_false, true_imp_iff, implies_true, Int.cast_ofNat_Int, forall_eq']
    · rcases nm with _ | ⟨m0, nm⟩
      · simp at hl
      simp only [hoN_cons, hoC_cons, slN_cons, slC_c1, slM_c1, List.cons_append, List.nil_append, List.append_nil]
      simp only [↓EVP0, EVQ0, EVQ1, EVQ2, EVQ3, EVQ4, EVA, EVK, EVF,EVFT, ↓reduceIte, Nat.reduceEqDiff, Nat.reduceAdd, Nat.reduceSub, Nat.reduceMul, Nat.reduceLT, Nat.reduceLeDiff, reduceCtorEq, Int.reduceToNat, Int.reduceLT, Int.reduceLE, Int.reduceAdd, Int.reduceSub, Int.reduceMul, Int.reduceNeg, Int.reduceEq, Nat.reduceMod, forall_eq_or_imp, forall_eq, forall_const, cond_true, cond_false, decide_true, decide_false, true_imp_iff, implies_true, Int.cast_ofNat_Int, forall_eq']
      rw [hdec]
      refine ⟨fun hg => ?_, fun hg => ?_⟩
      rotate_left
      · have he : r = [] := by simpa using hg
        rw [dif_pos he] at hr
        subst hr
        unfold fin2
        simp only [rlV_ok, rlH_ok, hoN_cons, hoC_cons, slN_cons, slC_c1, slM_c1, List.cons_append, List.nil_append, List.append_nil]
        simp only [↓EVP0, EVQ0, EVQ1, EVQ2, EVQ3, EVQ4, EVA, EVK, EVF,EVFT, ↓reduceIte, Nat.reduceEqDiff, Nat.reduceAdd, Nat.reduceSub, Nat.reduceMul, Nat.reduceLT, Nat.reduceLeDiff, reduceCtorEq, Int.reduceToNat, Int.reduceLT, Int.reduceLE, Int.reduceAdd, Int.reduceSub, Int.reduceMul, Int.reduceNeg, Int.reduceEq, Nat.reduceMod, forall_eq_or_imp, forall_eq, forall_const, cond_true, cond_false, decide_true, decide_false, true_imp_iff, implies_true, Int.cast_ofNat_Int, forall_eq']
        exact ⟨alN _ _, al6 _, al2 _, bsG_all rfl (alN _ _), apN _ _ _, alN _ _, alC _ _, alM _ _, bsG_all rfl (alC _ _), apC _ _ _, bsG_all rfl (alM _ _), apM _ _ _⟩
      have he : ¬ r = [] := by simpa using hg
      have hlt' := hlt he
      obtain ⟨o1, o2, o3⟩ := rd_one he hr
      refine callK_ro (k1) ?_ ?_
      · simp only [↓EVP0, EVQ0, EVQ1, EVQ2, EVQ3, EVQ4, EVA, EVK, EVF,EVFT, ↓reduceIte, Nat.reduceEqDiff, Nat.reduceAdd, Nat.reduceSub, Nat.reduceMul, Nat.reduceLT, Nat.reduceLeDiff, reduceCtorEq, Int.reduceToNat, Int.reduceLT, Int.reduceLE, Int.reduceAdd, Int.reduceSub, Int.reduceMul, Int.reduceNeg, Int.reduceEq, Nat.reduceMod, forall_eq_or_imp, forall_eq, forall_const, cond_true, cond_false, decide_true, decide_false, true_imp_iff, implies_true, Int.cast_ofNat_Int, forall_eq']
      simp only [↓EVP0, EVQ0, EVQ1, EVQ2, EVQ3, EVQ4, EVA, EVK, EVF,EVFT, ↓reduceIte, Nat.reduceEqDiff, Nat.reduceAdd, Nat.reduceSub, Nat.reduceMul, Nat.reduceLT, Nat.reduceLeDiff, reduceCtorEq, Int.reduceToNat, Int.reduceLT, Int.reduceLE, Int.reduceAdd, Int.reduceSub, Int.reduceMul, Int.reduceNeg, Int.reduceEq, Nat.reduceMod, forall_eq_or_imp, forall_eq, forall_const, cond_true, cond_false, decide_true, decide_false, true_imp_iff, implies_true, Int.cast_ofNat_Int, forall_eq']
      refine callK_ro (k2) ?_ ?_
      · simp only [↓EVP0, EVQ0, EVQ1, EVQ2, EVQ3, EVQ4, EVA, EVK, EVF,EVFT, ↓reduceIte, Nat.reduceEqDiff, Nat.reduceAdd, Nat.reduceSub, Nat.reduceMul, Nat.reduceLT, Nat.reduceLeDiff, reduceCtorEq, Int.reduceToNat, Int.reduceLT, Int.reduceLE, Int.reduceAdd, Int.reduceSub, Int.reduceMul, Int.reduceNeg, Int.reduceEq, Nat.reduceMod, forall_eq_or_imp, forall_eq, forall_const, cond_true, cond_false, decide_true, decide_false, true_imp_iff, implies_true, Int.cast_ofNat_Int, forall_eq']
      simp only [↓EVP0, EVQ0, EVQ1, EVQ2, EVQ3, EVQ4, EVA, EVK, EVF,EVFT, ↓reduceIte, Nat.reduceEqDiff, Nat.reduceAdd, Nat.reduceSub, Nat.reduceMul, Nat.reduceLT, Nat.reduceLeDiff, reduceCtorEq, Int.reduceToNat, Int.reduceLT, Int.reduceLE, Int.reduceAdd, Int.reduceSub, Int.reduceMul, Int.reduceNeg, Int.reduceEq, Nat.reduceMod, forall_eq_or_imp, forall_eq, forall_const, cond_true, cond_false, decide_true, decide_false, true_imp_iff, implies_true, Int.cast_ofNat_Int, forall_eq']
      refine callK_ro (k3) ?_ ?_
      · simp only [↓EVP0, EVQ0, EVQ1, EVQ2, EVQ3, EVQ4, EVA, EVK, EVF,EVFT, ↓reduceIte, Nat.reduceEqDiff, Nat.reduceAdd, Nat.reduceSub, Nat.reduceMul, Nat.reduceLT, Nat.reduceLeDiff, reduceCtorEq, Int.reduceToNat, Int.reduceLT, Int.reduceLE, Int.reduceAdd, Int.reduceSub, Int.reduceMul, Int.reduceNeg, Int.reduceEq, Nat.reduceMod, forall_eq_or_imp, forall_eq, forall_const, cond_true, cond_false, decide_true, decide_false, true_imp_iff, implies_true, Int.cast_ofNat_Int, forall_eq']
      simp only [↓EVP0, EVQ0, EVQ1, EVQ2, EVQ3, EVQ4, EVA, EVK, EVF,EVFT, ↓reduceIte, Nat.reduceEqDiff, Nat.reduceAdd, Nat.reduceSub, Nat.reduceMul, Nat.reduceLT, Nat.reduceLeDiff, reduceCtorEq, Int.reduceToNat, Int.reduceLT, Int.reduceLE, Int.reduceAdd, Int.reduceSub, Int.reduceMul, Int.reduceNeg, Int.reduceEq, Nat.reduceMod, forall_eq_or_imp, forall_eq, forall_const, cond_true, cond_false, decide_true, decide_false, true_imp_iff, implies_true, Int.cast_ofNat_Int, forall_eq']
      refine callK_ro (k4) ?_ ?_
      · simp only [↓EVP0, EVQ0, EVQ1, EVQ2, EVQ3, EVQ4, EVA, EVK, EVF,EVFT, ↓reduceIte, Nat.reduceEqDiff, Nat.reduceAdd, Nat.reduceSub, Nat.reduceMul, Nat.reduceLT, Nat.reduceLeDiff, reduceCtorEq, Int.reduceToNat, Int.reduceLT, Int.reduceLE, Int.reduceAdd, Int.reduceSub, Int.reduceMul, Int.reduceNeg, Int.reduceEq, Nat.reduceMod, forall_eq_or_imp, forall_eq, forall_const, cond_true, cond_false, decide_true, decide_false, true_imp_iff, implies_true, Int.cast_ofNat_Int, forall_eq']
      simp only [↓EVP0, EVQ0, EVQ1, EVQ2, EVQ3, EVQ4, EVA, EVK, EVF,EVFT, ↓reduceIte, Nat.reduceEqDiff, Nat.reduceAdd, Nat.reduceSub, Nat.reduceMul, Nat.reduceLT, Nat.reduceLeDiff, reduceCtorEq, Int.reduceToNat, Int.reduceLT, Int.reduceLE, Int.reduceAdd, Int.reduceSub, Int.reduceMul, Int.reduceNeg, Int.reduceEq, Nat.reduceMod, forall_eq_or_imp, forall_eq, forall_const, cond_true, cond_false, decide_true, decide_false, true_imp_iff, implies_true, Int.cast_ofNat_Int, forall_eq']
      refine ⟨fun hg2 => ?_, fun hg2 => ⟨fun hg3 => ?_, fun hg3 => ?_⟩⟩
      · exfalso
        revert hg2
        cases ended <;> cases b1 <;> simp <;> omega
      · have hnb : ¬ ((bif ended then b1 else false) = true ∧ (c0 :: cs) = []) := fun h => by simp at h
        have hos : oc.isSome = true := by revert hg3; cases ended <;> simp
        have hn1 := hx.2 hos
        obtain ⟨q, hq⟩ := Option.isSome_iff_exists.1 hos
        have o2' := o2 hnb hg3 q hq
        rw [hq] at hce
        obtain rfl : (c1, q1, q2) = q := hce
        subst hn1
        try rw [List.cons_append, List.cons_append] at o2'
        refine ⟨bsG_len rfl, ?_⟩
        have hl' : nm.length = cs.length := by simpa using hl
        simp at hn
        refine ⟨⟨Nat.le_refl _, leC _ _⟩, by unfold appRoom; omega, bsG_len rfl, ⟨Nat.le_refl _, leM _ _⟩, by unfold appRoom; omega, by unfold In64; omega, ⟨rest, n0 :: ns, c0 :: (cs ++ [c1]), m0 :: (nm ++ [(q1, q2)]), i + 1⟩, ⟨o2', by simp [hl'], by simp; omega, by simp only; omega⟩, ?_⟩
        simp only [hoN_cons, hoC_cons, slN_cons, slC_c1, slM_c1, List.cons_append, List.nil_append, List.append_nil, List.length_append, List.length_singleton]
        simp only [↓EVP0, EVQ0, EVQ1, EVQ2, EVQ3, EVQ4, EVA, EVK, EVF,EVFT, ↓reduceIte, Nat.reduceEqDiff, Nat.reduceAdd, Nat.reduceSub, Nat.reduceMul, Nat.reduceLT, Nat.reduceLeDiff, reduceCtorEq, Int.reduceToNat, Int.reduceLT, Int.reduceLE, Int.reduceAdd, Int.reduceSub, Int.reduceMul, Int.reduceNeg, Int.reduceEq, Nat.reduceMod, forall_eq_or_imp, forall_eq, forall_const, cond_true, cond_false, decide_true, decide_false, true_imp_iff, implies_true, Int.cast_ofNat_Int, forall_eq']
        exact ⟨⟨alN _ _, al6 _, al2 _, bsG_all rfl (alN _ _), apN _ _ _, alN _ _, alC _ _, alM _ _, bsG_all rfl (alC _ _), congrArg (LO.row 6 _) (apG_snoc cbL default (c0 :: cs) c1), apC _ _ _, bsG_all rfl (alM _ _), congrArg (LO.row 2 _) (apG_snoc nmL ([], []) (m0 :: nm) (q1, q2)), apM _ _ _⟩, hlt'⟩
      · have hnb : ¬ ((bif ended then b1 else false) = true ∧ (c0 :: cs) = []) := fun h => by simp at h
        rw [o3 hnb hg3, rlV_bad hi.1, rlH_bad hi.1]
        unfold fin2
        simp only [↓EVP0, EVQ0, EVQ1, EVQ2, EVQ3, EVQ4, EVA, EVK, EVF,EVFT, ↓reduceIte, Nat.reduceEqDiff, Nat.reduceAdd, Nat.reduceSub, Nat.reduceMul, Nat.reduceLT, Nat.reduceLeDiff, reduceCtorEq, Int.reduceToNat, Int.reduceLT, Int.reduceLE, Int.reduceAdd, Int.reduceSub, Int.reduceMul, Int.reduceNeg, Int.reduceEq, Nat.reduceMod, forall_eq_or_imp, forall_eq, forall_const, cond_true, cond_false, decide_true, decide_false, true_imp_iff, implies_true, Int.cast_ofNat_Int, forall_eq']
end Go.Proofs.YtchpncmmlhfemaaDoor
namespace Go.Proofs.YtchpncmmlhfemaaDoor
set_option linter.unusedSimpArgs false
set_option linter.unusedVariables false
open Go.RowKit
set_option maxRecDepth 20000

structure RdI (L : Nat) (ns : List Nd) (cs : List Cb) (nm : List (By × By)) : Prop where
  l : nm.length = cs.length
  n : ns.length + cs.length ≤ L
  nd : ∀ n, n ∈ ns → nameOk n.name = true ∧ In64 n.ports
  cb : ∀ c, c ∈ cs → In64 c.a ∧ In64 c.ap ∧ In64 c.b ∧ In64 c.bp ∧ In64 c.dl ∧ In64 c.cp
  nq : ∀ q, q ∈ nm → nameOk (strB q.1) = true ∧ nameOk (strB q.2) = true
theorem nm64 {w : By} : In64 ((nmE w).getD 0 : Nat) := by
  cases h : nmE w with
  | none => show In64 ((0 : Nat) : Int); unfold In64; omega
  | some u =>
    have := (nmE_inv h).2
    show In64 (u : Int)
    unfold In64; omega
theorem rdN_nd {ws : List By} (h : (rdN ws).2 = true) : nameOk (rdN ws).1.name = true ∧ In64 (rdN ws).1.ports := by
  match ws, h with
  | [a, b, c], h =>
    by_cases e : a = wSw
    · have e2 : rdN [a, b, c] = (⟨strB b, true, ((nmE c).getD 0 : Nat)⟩, (nmE c).isSome && nameOk (strB b)) := if_pos e
      rw [e2] at h ⊢
      simp only [Bool.and_eq_true] at h
      exact ⟨h.2, nm64⟩
    · have e2 : rdN [a, b, c] = (default, false) := if_neg e
      rw [e2] at h; simp at h
  | [a, b], h =>
    by_cases e : a = wEn
    · have e2 : rdN [a, b] = (⟨strB b, false, 1⟩, nameOk (strB b)) := if_pos e
      rw [e2] at h ⊢
      exact ⟨h, by show In64 (1 : Int); unfold In64; omega⟩
    · have e2 : rdN [a, b] = (default, false) := if_neg e
      rw [e2] at h; simp at h
  | [], h => simp [rdN] at h
  | [_], h => simp [rdN] at h
  | _ :: _ :: _ :: _ :: _, h => simp [rdN] at h
theorem rdC_cb {ws : List By} {q : Cb × By × By} (h : rdC ws = some q) : (∃ x y z u : Nat, q.1 = ⟨0, x, 0, y, z, u⟩ ∧ x < 1000000000 ∧ y < 1000000000 ∧ z < 1000000000 ∧ u < 1000000000) ∧ nameOk (strB q.2.1) = true ∧ nameOk (strB q.2.2) = true := by
  by_cases hC : ws.length = 7 ∧ ws.getD 0 [] = wCa ∧ nameOk (strB (ws.getD 1 [])) = true ∧ nameOk (strB (ws.getD 3 [])) = true
  · obtain ⟨h7, hw, hb, hd⟩ := hC
    match ws, h7 with
    | [a, b, c, d, e, f, g], _ =>
      obtain rfl : a = wCa := hw
      cases h1 : nmE c with
      | none => rw [rdC7_none (.inl h1)] at h; simp at h
      | some x =>
        cases h2 : nmE e with
        | none => rw [rdC7_none (.inr (.inl h2))] at h; simp at h
        | some y =>
          cases h3 : nmE f with
          | none => rw [rdC7_none (.inr (.inr (.inl h3)))] at h; simp at h
          | some z =>
            cases h4 : nmE g with
            | none => rw [rdC7_none (.inr (.inr (.inr h4)))] at h; simp at h
            | some u =>
              rw [rdC7_some (b := b) (d := d) hb hd h1 h2 h3 h4] at h
              injection h with h
              subst h
              exact ⟨⟨x, y, z, u, rfl, (nmE_inv h1).2, (nmE_inv h2).2, (nmE_inv h3).2, (nmE_inv h4).2⟩, hb, hd⟩
  · rw [rdC_no hC] at h; simp at h
theorem rdL_inv : ∀ (k : Nat) (s : By) (ns : List Nd) (cs : List Cb) (nm : List (By × By)) (i L : Nat), s.length = k → 1 ≤ i → RdI L ns cs nm → s.length + ns.length + cs.length ≤ L → ∀ R, rdL s ns cs nm i = R → R.2.2.2 = 0 → RdI L R.1 R.2.1 R.2.2.1 := by
  intro k
  induction k using Nat.strongRecOn with
  | ind k ih =>
    intro s ns cs nm i L hk hi hI hL R hR h0
    rw [rdL] at hR
    by_cases he : s = []
    · rw [dif_pos he] at hR
      subst hR
      exact hI
    · rw [dif_neg he] at hR
      have hlt := cut_lt (c := 10) he
      have hN := rdN_nd (ws := splE 32 (cutE 10 s).1)
      have hC := fun q => rdC_cb (ws := splE 32 (cutE 10 s).1) (q := q)
      generalize cutE 10 s = c at *
      generalize splE 32 c.1 = ws at *
      split at hR
      · rename_i hc
        have hn1 := hN hc.2.1
        refine ih _ (by omega) c.2.1 _ _ _ (i + 1) L rfl (by omega) ⟨hI.l, ?_, ?_, hI.cb, hI.nq⟩ ?_ R hR h0
        · rw [List.length_append, List.length_singleton]; omega
        · intro n hn
          rcases List.mem_append.1 hn with hn | hn
          · exact hI.nd n hn
          · obtain rfl : n = _ := List.mem_singleton.1 hn
            exact hn1
        · rw [List.length_append, List.length_singleton]; omega
      · split at hR
        · cases hq : rdC ws with
          | none => rw [hq] at hR; subst hR; simp at h0; omega
          | some q =>
            rw [hq] at hR
            obtain ⟨⟨x, y, z, u, hx, hx1, hx2, hx3, hx4⟩, hq1, hq2⟩ := hC q hq
            refine ih _ (by omega) c.2.1 _ _ _ (i + 1) L rfl (by omega) ⟨?_, ?_, hI.nd, ?_, ?_⟩ ?_ R hR h0
            · rw [List.length_append, List.length_append, hI.l]; rfl
            · rw [List.length_append, List.length_singleton]; omega
            · intro d hd
              rcases List.mem_append.1 hd with hd | hd
              · exact hI.cb d hd
              · obtain rfl : d = _ := List.mem_singleton.1 hd
                rw [hx]; unfold In64; simp only; omega
            · intro d hd
              rcases List.mem_append.1 hd with hd | hd
              · exact hI.nq d hd
              · obtain rfl : d = _ := List.mem_singleton.1 hd
                exact ⟨hq1, hq2⟩
            · rw [List.length_append, List.length_singleton]; omega
        · subst hR; simp at h0; omega
open Classical in
theorem mf_put {es : List (Value × LV)} {k k' : Value} {v : LV} : mfind (mput es k v) k' = if k = k' then some v else mfind es k' := by
  induction es with
  | nil => simp only [mput, mfind]
  | cons p r ih =>
    obtain ⟨a, b⟩ := p
    simp only [mput]
    by_cases e : a = k
    · rw [if_pos e]
      simp only [mfind]
      subst e
      by_cases e2 : a = k'
      · rw [if_pos e2, if_pos e2]
      · rw [if_neg e2, if_neg e2, if_neg e2]
    · rw [if_neg e]
      simp only [mfind]
      rw [ih]
      by_cases e2 : a = k'
      · rw [if_pos e2, if_neg (fun h => e (by rw [e2, h])), if_pos e2]
      · rw [if_neg e2, if_neg e2]
structure MpI (ns : List Nd) (i : Nat) (es : List (Value × LV)) : Prop where
  f : ∀ w : By, mfind es (.string (strB w)) = (fdN (ns.take i) w 0).map fun k => LV.sc (.int .i64 (k : Nat))
  k : ∀ kv, kv ∈ es → (∃ w : ByteArray, kv.1 = .string w ∧ w.size ≤ 20) ∧ ∃ x, kv.2 = LV.sc x
theorem fdN_app : ∀ (ns : List Nd) (n : Nd) (w : By) (i : Nat), fdN (ns ++ [n]) w i = match fdN ns w i with
    | some k => some k
    | none => if n.name = strB w then some (i + ns.length) else none
  | [], n, w, i => rfl
  | m :: r, n, w, i => by
    show (if m.name = strB w then some i else fdN (r ++ [n]) w (i + 1)) = match (if m.name = strB w then some i else fdN r w (i + 1)) with
      | some k => some k
      | none => if n.name = strB w then some (i + (r.length + 1)) else none
    by_cases e : m.name = strB w
    · rw [if_pos e, if_pos e]
    · rw [if_neg e, if_neg e, fdN_app r n w (i + 1), show i + 1 + r.length = i + (r.length + 1) by omega]
theorem mp_nil (ns : List Nd) : MpI ns 0 [] := ⟨fun w => rfl, fun kv h => by simp at h⟩
theorem take_snoc {α : Type} (d : α) {l : List α} {i : Nat} (h : i < l.length) : l.take (i + 1) = l.take i ++ [l.getD i d] := by
  rw [List.take_succ_eq_append_getElem h, List.getD_eq_getElem?_getD, List.getElem?_eq_getElem h]; rfl
theorem mput_mem {es : List (Value × LV)} {k : Value} {v : LV} {kv : Value × LV} (h : kv ∈ mput es k v) : kv ∈ es ∨ kv = (k, v) ∨ (kv.1 = k ∧ kv.2 = v) := by
  induction es with
  | nil => simp only [mput, List.mem_singleton] at h; exact .inr (.inl h)
  | cons p r ih =>
    obtain ⟨a, b⟩ := p
    simp only [mput] at h
    by_cases e : a = k
    · rw [if_pos e] at h
      rcases List.mem_cons.1 h with rfl | h
      · exact .inr (.inr ⟨by first | rfl | exact e, rfl⟩)
      · exact .inl (List.mem_cons_of_mem _ h)
    · rw [if_neg e] at h
      rcases List.mem_cons.1 h with rfl | h
      · exact .inl (by simp)
      · rcases ih h with h | h
        · exact .inl (List.mem_cons_of_mem _ h)
        · exact .inr h
theorem mp_old {ns : List Nd} {i : Nat} {es : List (Value × LV)} (h : MpI ns i es) (hi : i < ns.length) (hs : (mfind es (.string (ns.getD i default).name)).isSome = true) : MpI ns (i + 1) es := by
  refine ⟨fun w => ?_, h.k⟩
  rw [h.f w, take_snoc default hi, fdN_app]
  cases hf : fdN (ns.take i) w 0 with
  | some k => rfl
  | none =>
    simp only
    rw [if_neg]
    intro e
    rw [e, h.f w, hf] at hs
    simp at hs
theorem mp_new {ns : List Nd} {i : Nat} {es : List (Value × LV)} (h : MpI ns i es) (hi : i < ns.length) (hn : nameOk (ns.getD i default).name = true) (hs : (mfind es (.string (ns.getD i default).name)).isSome = false) : MpI ns (i + 1) (mput es (.string (ns.getD i default).name) (.sc (.int .i64 (i : Nat)))) := by
  refine ⟨fun w => ?_, fun kv hkv => ?_⟩
  · rw [mf_put, h.f w, take_snoc default hi, fdN_app]
    by_cases e : (ns.getD i default).name = strB w
    · have hf : fdN (ns.take i) w 0 = none := by
        rw [e, h.f w] at hs
        cases hf : fdN (ns.take i) w 0 with
        | none => rfl
        | some k => rw [hf] at hs; simp at hs
      rw [hf, if_pos (by rw [e])]
      simp only
      rw [if_pos e, List.length_take, Nat.min_eq_left (by omega), Nat.zero_add]; rfl
    · rw [if_neg (fun hh => e (by injection hh))]
      cases hf : fdN (ns.take i) w 0 with
      | none => simp only; rw [if_neg e]
      | some k => rfl
  · unfold nameOk at hn
    simp only [Bool.and_eq_true, decide_eq_true_eq] at hn
    rcases mput_mem hkv with hkv | rfl | ⟨h1, h2⟩
    · exact h.k kv hkv
    · exact ⟨⟨_, rfl, hn.2.1⟩, _, rfl⟩
    · exact ⟨⟨_, h1, hn.2.1⟩, _, h2⟩
end Go.Proofs.YtchpncmmlhfemaaDoor
namespace Go.Proofs.YtchpncmmlhfemaaDoor
set_option linter.unusedSimpArgs false
set_option linter.unusedVariables false
open Go.RowKit
set_option maxRecDepth 20000

def afG (R : RdR) : Pl × Int × Int := if 0 < R.2.2.2 then (⟨[], []⟩, (R.2.2.2 : Nat), 3)
    else if 0 < (rsC R.1 R.2.1 R.2.2.1 (R.1.length + 1) []).2 then (⟨[], []⟩, ((rsC R.1 R.2.1 R.2.2.1 (R.1.length + 1) []).2 : Nat), 7)
    else if validE ⟨R.1, (rsC R.1 R.2.1 R.2.2.1 (R.1.length + 1) []).1⟩ = 0 then (⟨R.1, (rsC R.1 R.2.1 R.2.2.1 (R.1.length + 1) []).1⟩, 0, 0)
    else (⟨[], []⟩, 0, validE ⟨R.1, (rsC R.1 R.2.1 R.2.2.1 (R.1.length + 1) []).1⟩)
theorem mp_get {ns : List Nd} {i : Nat} {es : List (Value × LV)} (h : MpI ns i es) (u : ByteArray) : mfind es (.string u) = (fdN (ns.take i) u.data.toList 0).map fun k => LV.sc (.int .i64 (k : Nat)) := by
  have := h.f u.data.toList
  rw [strB_of] at this
  exact this
theorem mp_all {ns : List Nd} {i n : Nat} {es : List (Value × LV)} (h : MpI ns i es) : allC n (es.map (·.2)) := by
  have : ∀ l : List (Value × LV), (∀ kv, kv ∈ l → ∃ x, kv.2 = LV.sc x) → allC n (l.map (·.2)) := by
    intro l
    induction l with
    | nil => intro _; trivial
    | cons a r ih =>
      intro h
      obtain ⟨x, hx⟩ := h a (by simp)
      exact ⟨by show belowC n a.2; rw [hx]; trivial, ih fun kv hkv => h kv (by simp [hkv])⟩
  exact this es fun kv hkv => (h.k kv hkv).2
theorem rsC_at {ns : List Nd} {cs : List Cb} {nm : List (By × By)} {i k : Nat} {acc : List Cb} {T : List Cb × Nat} (hr : rsC ns (cs.drop i) (nm.drop i) k acc = T) (h1 : i < cs.length) (h2 : i < nm.length) :
    (∀ x y, fdN ns (nm.getD i ([], [])).1 0 = some x → fdN ns (nm.getD i ([], [])).2 0 = some y → rsC ns (cs.drop (i + 1)) (nm.drop (i + 1)) (k + 1) (acc ++ [⟨x, (cs.getD i default).ap, y, (cs.getD i default).bp, (cs.getD i default).dl, (cs.getD i default).cp⟩]) = T) ∧
    (fdN ns (nm.getD i ([], [])).1 0 = none ∨ fdN ns (nm.getD i ([], [])).2 0 = none → T = ([], k)) := by
  rw [List.drop_eq_getElem_cons h1, List.drop_eq_getElem_cons h2] at hr
  rw [List.getD_eq_getElem?_getD, List.getElem?_eq_getElem h2, List.getD_eq_getElem?_getD, List.getElem?_eq_getElem h1]
  simp only [Option.getD_some]
  generalize nm[i] = q at *
  generalize cs[i] = c at *
  unfold rsC at hr
  constructor
  · intro x y hx hy
    rw [hx, hy] at hr
    exact hr
  · rintro (h | h)
    · rw [h] at hr
      cases hy : fdN ns q.2 0 <;> rw [hy] at hr <;> exact hr.symm
    · rw [h] at hr
      cases hx : fdN ns q.1 0 <;> rw [hx] at hr <;> exact hr.symm
theorem cur_step {α : Type} {acc l : List α} {x d : α} {i j : Nat} (ha : acc.length = i) (hj : j ≠ i) : ((acc ++ [x]) ++ l.drop (i + 1)).getD j d = (acc ++ l.drop i).getD j d := by
  rw [List.getD_eq_getElem?_getD, List.getD_eq_getElem?_getD]
  by_cases h : j < i
  · rw [List.append_assoc, List.getElem?_append_left (by omega), List.getElem?_append_left (by omega)]
  · rw [List.getElem?_append_right (by rw [List.length_append, List.length_singleton]; omega), List.getElem?_append_right (by omega), List.length_append, List.length_singleton, List.getElem?_drop, List.getElem?_drop, ha, show i + 1 + (j - (i + 1)) = i + (j - i) by omega]
theorem cur_new {α : Type} {acc l : List α} {x d : α} {i : Nat} (ha : acc.length = i) : ((acc ++ [x]) ++ l).getD i d = x := by
  rw [List.getD_eq_getElem?_getD, List.append_assoc, List.getElem?_append_right (by omega), ha, Nat.sub_self]; rfl
def CbIn (c : Cb) : Prop := In64 c.a ∧ In64 c.ap ∧ In64 c.b ∧ In64 c.bp ∧ In64 c.dl ∧ In64 c.cp
theorem fdN_lt : ∀ {ns : List Nd} {w : By} {i k : Nat}, fdN ns w i = some k → k < i + ns.length
  | [], w, i, k, h => by simp [fdN] at h
  | n :: r, w, i, k, h => by
    change (if n.name = strB w then some i else fdN r w (i + 1)) = some k at h
    split at h
    · injection h with h; simp; omega
    · have := fdN_lt h
      simp; omega
theorem ev_parseG (s : By) (hs : s.length ≤ 100000) : Ev Tryd.prog 29 [.sc (.string (strB s))] (.tup [plV (prG s).1, .sc (.int .i64 (prG s).2.1), .sc (.int .i64 (prG s).2.2)]) := by
  have h1 := lc_readLines s hs
  have h2 := fun p hp => ev_valid p hp
  have hE : prG s = if 65536 < s.length then (⟨[], []⟩, 0, 5) else prG s := by
    unfold prG
    split <;> rfl
  have hI := fun R hR => rdL_inv s.length s [] [] [] 1 s.length rfl (Nat.le_refl _) ⟨rfl, by simp, fun n hn => by simp at hn, fun n hn => by simp at hn, fun n hn => by simp at hn⟩ (by simp) R hR
  unfold plV at *
  refine ev_fn Tryd.func29 comp29 (show 1 ≤ Tryd.f29.ntmps by decide) ?_; unfold cf29 rf29; simp only [↓EVP0, EVQ0, EVQ1, EVQ2, EVQ3, EVQ4, EVA, EVK, EVF,EVFT, ↓reduceIte, Nat.reduceEqDiff, Nat.reduceAdd, Nat.reduceSub, Nat.reduceMul, Nat.reduceLT, Nat.reduceLeDiff, reduceCtorEq, Int.reduceToNat, Int.reduceLT, Int.reduceLE, Int.reduceAdd, Int.reduceSub, Int.reduceMul, Int.reduceNeg, Int.reduceEq, Nat.reduceMod, forall_eq_or_imp, forall_eq, forall_const, cond_true, cond_false, decide_true, decide_false, true_imp_iff, implies_true, Int.cast_ofNat_Int, forall_eq']
  rw [strB_size]
  refine ⟨fun hg => ?_, fun hg => ?_⟩
  · rw [if_pos (by have := of_decide_eq_true hg; omega)] at hE
    rw [hE]
    exact ⟨⟨rfl, rfl⟩, rfl, rfl⟩
  refine callK_mut h1 ?_
  clear hE
  have hP : prG s = prG s := rfl
  have hE : ∀ R, rdL s [] [] [] 1 = R → prG s = afG R := by
    intro R hR
    unfold prG
    rw [if_neg (by have := of_decide_eq_false hg; omega), hR]
    rfl
  have hR := hE _ rfl
  have hI2 := hI _ rfl
  generalize prG s = G at *
  generalize rdL s [] [] [] 1 = R at *
  obtain ⟨ns, cs, nm, w⟩ := R
  simp only at hR hI2
  by_cases hw : 0 < w
  · have e0 : afG (ns, cs, nm, w) = ((⟨[], []⟩, ((w : Nat) : Int), 3) : Pl × Int × Int) := if_pos hw
    rw [e0] at hR
    subst hR
    have e1 : rlV (ns, cs, nm, w) = .tup [.agg [.nsl, .nsl], .nsl, .sc (.int .i64 (w : Nat))] := if_pos hw
    have e2 : rlH (ns, cs, nm, w) = [(0, .box [.nsl, .nsl])] := if_pos hw
    rw [e1, e2]
    simp only [↓EVP0, EVQ0, EVQ1, EVQ2, EVQ3, EVQ4, EVA, EVK, EVF,EVFT, ↓reduceIte, Nat.reduceEqDiff, Nat.reduceAdd, Nat.reduceSub, Nat.reduceMul, Nat.reduceLT, Nat.reduceLeDiff, reduceCtorEq, Int.reduceToNat, Int.reduceLT, Int.reduceLE, Int.reduceAdd, Int.reduceSub, Int.reduceMul, Int.reduceNeg, Int.reduceEq, Nat.reduceMod, forall_eq_or_imp, forall_eq, forall_const, cond_true, cond_false, decide_true, decide_false, true_imp_iff, implies_true, Int.cast_ofNat_Int, forall_eq']
    exact ⟨fun _ => trivial, fun h => by have := of_decide_eq_false h; omega⟩
  have hw0 : w = 0 := by omega
  subst hw0
  have hI3 := hI2 rfl
  obtain ⟨il, iN, inn, icb, inq⟩ := hI3
  rw [rlV_ok, rlH_ok]
  rcases ns with _ | ⟨n0, ns⟩
  · rcases cs with _ | ⟨c0, cs⟩
    · have hnm : nm = [] := by simpa using il
      subst hnm
      simp only [hoN_nil, hoC_nil, slN_nil, slC_nil, slM_nil, List.append_nil]
      simp only [↓EVP0, EVQ0, EVQ1, EVQ2, EVQ3, EVQ4, EVA, EVK, EVF,EVFT, ↓reduceIte, Nat.reduceEqDiff, Nat.reduceAdd, Nat.reduceSub, Nat.reduceMul, Nat.reduceLT, Nat.reduceLeDiff, reduceCtorEq, Int.reduceToNat, Int.reduceLT, Int.reduceLE, Int.reduceAdd, Int.reduceSub, Int.reduceMul, Int.reduceNeg, Int.reduceEq, Nat.reduceMod, forall_eq_or_imp, forall_eq, forall_const, cond_true, cond_false, decide_true, decide_false, true_imp_iff, implies_true, Int.cast_ofNat_Int, forall_eq']
      refine lwp_for (α := Unit) 0 (fun _ _ => True) (fun i _ => [(2, .ptr 0 0 0 0 0), (5, .ptr 3 0 0 0 0), (6, .nsl), (8, .mp 4 0), (36, .nsl), (37, .sc (.int .i64 0)), (38, .sc (.int .i64 i))])
        (fun _ _ => [(0, .box [.nsl, .nsl]), (0, .box [.nsl, .nsl]), (0, .box [.nsl, .nsl]), (0, .box [.nsl, .nsl]), (0, .map [])]) () trivial ?_ (fun _ _ => Nat.zero_le _) ?_
      · simp only [↓EVP0, EVQ0, EVQ1, EVQ2, EVQ3, EVQ4, EVA, EVK, EVF,EVFT, ↓reduceIte, Nat.reduceEqDiff, Nat.reduceAdd, Nat.reduceSub, Nat.reduceMul, Nat.reduceLT, Nat.reduceLeDiff, reduceCtorEq, Int.reduceToNat, Int.reduceLT, Int.reduceLE, Int.reduceAdd, Int.reduceSub, Int.reduceMul, Int.reduceNeg, Int.reduceEq, Nat.reduceMod, forall_eq_or_imp, forall_eq, forall_const, cond_true, cond_false, decide_true, decide_false, true_imp_iff, implies_true, Int.cast_ofNat_Int, forall_eq']
      intro i _ hi _
      obtain rfl : i = 0 := by omega
      unfold lb29_1
      simp only [↓EVP0, EVQ0, EVQ1, EVQ2, EVQ3, EVQ4, EVA, EVK, EVF,EVFT, ↓reduceIte, Nat.reduceEqDiff, Nat.reduceAdd, Nat.reduceSub, Nat.reduceMul, Nat.reduceLT, Nat.reduceLeDiff, reduceCtorEq, Int.reduceToNat, Int.reduceLT, Int.reduceLE, Int.reduceAdd, Int.reduceSub, Int.reduceMul, Int.reduceNeg, Int.reduceEq, Nat.reduceMod, forall_eq_or_imp, forall_eq, forall_const, cond_true, cond_false, decide_true, decide_false, true_imp_iff, implies_true, Int.cast_ofNat_Int, forall_eq']
      refine lwp_for (α := Unit) 0 (fun _ _ => True) (fun i _ => [(2, .ptr 0 0 0 0 0), (5, .ptr 3 0 0 0 0), (8, .mp 4 0), (57, .nsl), (58, .sc (.int .i64 0)), (59, .sc (.int .i64 i))])
        (fun _ _ => [(0, .box [.nsl, .nsl]), (0, .box [.nsl, .nsl]), (0, .box [.nsl, .nsl]), (0, .box [.nsl, .nsl]), (0, .map [])]) () trivial ?_ (fun _ _ => Nat.zero_le _) ?_
      · simp only [↓EVP0, EVQ0, EVQ1, EVQ2, EVQ3, EVQ4, EVA, EVK, EVF,EVFT, ↓reduceIte, Nat.reduceEqDiff, Nat.reduceAdd, Nat.reduceSub, Nat.reduceMul, Nat.reduceLT, Nat.reduceLeDiff, reduceCtorEq, Int.reduceToNat, Int.reduceLT, Int.reduceLE, Int.reduceAdd, Int.reduceSub, Int.reduceMul, Int.reduceNeg, Int.reduceEq, Nat.reduceMod, forall_eq_or_imp, forall_eq, forall_const, cond_true, cond_false, decide_true, decide_false, true_imp_iff, implies_true, Int.cast_ofNat_Int, forall_eq']
      intro i _ hi _
      obtain rfl : i = 0 := by omega
      unfold lb29_0
      simp only [↓EVP0, EVQ0, EVQ1, EVQ2, EVQ3, EVQ4, EVA, EVK, EVF,EVFT, ↓reduceIte, Nat.reduceEqDiff, Nat.reduceAdd, Nat.reduceSub, Nat.reduceMul, Nat.reduceLT, Nat.reduceLeDiff, reduceCtorEq, Int.reduceToNat, Int.reduceLT, Int.reduceLE, Int.reduceAdd, Int.reduceSub, Int.reduceMul, Int.reduceNeg, Int.reduceEq, Nat.reduceMod, forall_eq_or_imp, forall_eq, forall_const, cond_true, cond_false, decide_true, decide_false, true_imp_iff, implies_true, Int.cast_ofNat_Int, forall_eq']
      have hG : G = if validE ⟨[], []⟩ = 0 then ((⟨[], []⟩, 0, 0) : Pl × Int × Int) else (⟨[], []⟩, 0, validE ⟨[], []⟩) := hR
      refine callK_frz (h2 ⟨[], []⟩ ⟨fun n hn => by simp at hn, fun n hn => by simp at hn⟩) ?_ trivial ?_
      · simp only [↓EVP0, EVQ0, EVQ1, EVQ2, EVQ3, EVQ4, EVA, EVK, EVF,EVFT, ↓reduceIte, Nat.reduceEqDiff, Nat.reduceAdd, Nat.reduceSub, Nat.reduceMul, Nat.reduceLT, Nat.reduceLeDiff, reduceCtorEq, Int.reduceToNat, Int.reduceLT, Int.reduceLE, Int.reduceAdd, Int.reduceSub, Int.reduceMul, Int.reduceNeg, Int.reduceEq, Nat.reduceMod, forall_eq_or_imp, forall_eq, forall_const, cond_true, cond_false, decide_true, decide_false, true_imp_iff, implies_true, Int.cast_ofNat_Int, forall_eq']
      simp only [↓EVP0, EVQ0, EVQ1, EVQ2, EVQ3, EVQ4, EVA, EVK, EVF,EVFT, ↓reduceIte, Nat.reduceEqDiff, Nat.reduceAdd, Nat.reduceSub, Nat.reduceMul, Nat.reduceLT, Nat.reduceLeDiff, reduceCtorEq, Int.reduceToNat, Int.reduceLT, Int.reduceLE, Int.reduceAdd, Int.reduceSub, Int.reduceMul, Int.reduceNeg, Int.reduceEq, Nat.reduceMod, forall_eq_or_imp, forall_eq, forall_const, cond_true, cond_false, decide_true, decide_false, true_imp_iff, implies_true, Int.cast_ofNat_Int, forall_eq']
      refine ⟨fun hv => ?_, fun hv => ?_⟩
      · rw [if_neg (by simpa using hv)] at hG
        rw [hG]
        exact ⟨⟨rfl, rfl⟩, rfl, rfl⟩
      · rw [if_pos (by simpa using hv)] at hG
        rw [hG]
        exact ⟨⟨rfl, rfl⟩, rfl, rfl⟩
    · rcases nm with _ | ⟨m0, nm⟩
      · simp at il
      simp only [hoN_nil, hoC_cons, slN_nil, slC_c0, slM_c0, List.cons_append, List.nil_append, List.append_nil]
      simp only [↓EVP0, EVQ0, EVQ1, EVQ2, EVQ3, EVQ4, EVA, EVK, EVF,EVFT, ↓reduceIte, Nat.reduceEqDiff, Nat.reduceAdd, Nat.reduceSub, Nat.reduceMul, Nat.reduceLT, Nat.reduceLeDiff, reduceCtorEq, Int.reduceToNat, Int.reduceLT, Int.reduceLE, Int.reduceAdd, Int.reduceSub, Int.reduceMul, Int.reduceNeg, Int.reduceEq, Nat.reduceMod, forall_eq_or_imp, forall_eq, forall_const, cond_true, cond_false, decide_true, decide_false, true_imp_iff, implies_true, Int.cast_ofNat_Int, forall_eq']
      refine lwp_for (α := Unit) 0 (fun _ _ => True) (fun i _ => [(2, .ptr 0 0 0 0 0), (5, .ptr 10 0 0 0 0), (6, .sl 9 nm.length 2 0 (nm.length + 1)), (8, .mp 11 0), (36, .nsl), (37, .sc (.int .i64 0)), (38, .sc (.int .i64 i))])
        (fun _ _ => [(0, .box [.nsl, .nsl]), (0, .box [.nsl, .sl 7 cs.length 6 0 (cs.length + 1)]), (0, .box [.nsl, .sl 7 cs.length 6 0 (cs.length + 1)]), (0, .box (ndL default)), (0, .box (cbL c0)), (0, .box (nmL m0)), (0, .row 6 1 (bsG 6 (cbL c0))),
          (cs.length, .row 6 (cs.length + 1) (apG 6 (cbsF (c0 :: cs)) (cs.length + 1))), (0, .row 2 1 (bsG 2 (nmL m0))), (nm.length, .row 2 (nm.length + 1) (apG 2 (nmsF (m0 :: nm)) (nm.length + 1))), (0, .box [.nsl, .sl 7 cs.length 6 0 (cs.length + 1)]), (0, .map [])]) () trivial ?_ (fun _ _ => Nat.zero_le _) ?_
      · simp only [↓EVP0, EVQ0, EVQ1, EVQ2, EVQ3, EVQ4, EVA, EVK, EVF,EVFT, ↓reduceIte, Nat.reduceEqDiff, Nat.reduceAdd, Nat.reduceSub, Nat.reduceMul, Nat.reduceLT, Nat.reduceLeDiff, reduceCtorEq, Int.reduceToNat, Int.reduceLT, Int.reduceLE, Int.reduceAdd, Int.reduceSub, Int.reduceMul, Int.reduceNeg, Int.reduceEq, Nat.reduceMod, forall_eq_or_imp, forall_eq, forall_const, cond_true, cond_false, decide_true, decide_false, true_imp_iff, implies_true, Int.cast_ofNat_Int, forall_eq']
        exact ⟨alN _ _, alC _ _, alM _ _, bsG_all rfl (alC _ _), apC _ _ _, bsG_all rfl (alM _ _), apM _ _ _⟩
      intro i _ hi _
      obtain rfl : i = 0 := by omega
      unfold lb29_1
      simp only [↓EVP0, EVQ0, EVQ1, EVQ2, EVQ3, EVQ4, EVA, EVK, EVF,EVFT, ↓reduceIte, Nat.reduceEqDiff, Nat.reduceAdd, Nat.reduceSub, Nat.reduceMul, Nat.reduceLT, Nat.reduceLeDiff, reduceCtorEq, Int.reduceToNat, Int.reduceLT, Int.reduceLE, Int.reduceAdd, Int.reduceSub, Int.reduceMul, Int.reduceNeg, Int.reduceEq, Nat.reduceMod, forall_eq_or_imp, forall_eq, forall_const, cond_true, cond_false, decide_true, decide_false, true_imp_iff, implies_true, Int.cast_ofNat_Int, forall_eq']
      intro _
      refine lwp_for (α := Unit) (nm.length + 1) (fun i _ => i = 0) (fun i _ => [(2, .ptr 0 0 0 0 0), (5, .ptr 10 0 0 0 0), (8, .mp 11 0), (57, .sl 9 nm.length 2 0 (nm.length + 1)), (58, .sc (.int .i64 ((nm.length + 1 : Nat) : Int))), (59, .sc (.int .i64 i))])
        (fun _ _ => [(0, .box [.nsl, .nsl]), (0, .box [.nsl, .sl 7 cs.length 6 0 (cs.length + 1)]), (0, .box [.nsl, .sl 7 cs.length 6 0 (cs.length + 1)]), (0, .box (ndL default)), (0, .box (cbL c0)), (0, .box (nmL m0)), (0, .row 6 1 (bsG 6 (cbL c0))),
          (cs.length, .row 6 (cs.length + 1) (apG 6 (cbsF (c0 :: cs)) (cs.length + 1))), (0, .row 2 1 (bsG 2 (nmL m0))), (nm.length, .row 2 (nm.length + 1) (apG 2 (nmsF (m0 :: nm)) (nm.length + 1))), (0, .box [.nsl, .sl 7 cs.length 6 0 (cs.length + 1)]), (0, .map [])]) () rfl ?_ (fun _ _ => Nat.zero_le _) ?_
      · simp only [↓EVP0, EVQ0, EVQ1, EVQ2, EVQ3, EVQ4, EVA, EVK, EVF,EVFT, ↓reduceIte, Nat.reduceEqDiff, Nat.reduceAdd, Nat.reduceSub, Nat.reduceMul, Nat.reduceLT, Nat.reduceLeDiff, reduceCtorEq, Int.reduceToNat, Int.reduceLT, Int.reduceLE, Int.reduceAdd, Int.reduceSub, Int.reduceMul, Int.reduceNeg, Int.reduceEq, Nat.reduceMod, forall_eq_or_imp, forall_eq, forall_const, cond_true, cond_false, decide_true, decide_false, true_imp_iff, implies_true, Int.cast_ofNat_Int, forall_eq']
        exact ⟨alN _ _, alC _ _, alM _ _, bsG_all rfl (alC _ _), apC _ _ _, bsG_all rfl (alM _ _), apM _ _ _⟩
      rintro i _ hi rfl
      unfold lb29_0
      have e3 : apG 2 (nmsF (m0 :: nm)) (nm.length + 1) 0 = nmL m0 := apG_get (g := nmsF (m0 :: nm)) (fun _ => rfl) (by omega)
      have hq := inq m0 (by simp)
      simp only [↓EVP0, EVQ0, EVQ1, EVQ2, EVQ3, EVQ4, EVA, EVK, EVF,EVFT, ↓reduceIte, Nat.reduceEqDiff, Nat.reduceAdd, Nat.reduceSub, Nat.reduceMul, Nat.reduceLT, Nat.reduceLeDiff, reduceCtorEq, Int.reduceToNat, Int.reduceLT, Int.reduceLE, Int.reduceAdd, Int.reduceSub, Int.reduceMul, Int.reduceNeg, Int.reduceEq, Nat.reduceMod, forall_eq_or_imp, forall_eq, forall_const, cond_true, cond_false, decide_true, decide_false, true_imp_iff, implies_true, Int.cast_ofNat_Int, forall_eq']
      rw [e3]
      unfold nmL
      simp only [↓EVP0, EVQ0, EVQ1, EVQ2, EVQ3, EVQ4, EVA, EVK, EVF,EVFT, ↓reduceIte, Nat.reduceEqDiff, Nat.reduceAdd, Nat.reduceSub, Nat.reduceMul, Nat.reduceLT, Nat.reduceLeDiff, reduceCtorEq, Int.reduceToNat, Int.reduceLT, Int.reduceLE, Int.reduceAdd, Int.reduceSub, Int.reduceMul, Int.reduceNeg, Int.reduceEq, Nat.reduceMod, forall_eq_or_imp, forall_eq, forall_const, cond_true, cond_false, decide_true, decide_false, true_imp_iff, implies_true, Int.cast_ofNat_Int, forall_eq']
      have hks : ∀ w : By, nameOk (strB w) = true → keysOk Tryd.prog 9 [] (.string (strB w)) := by
        intro w hw
        refine ⟨key_str Tryd.underlying9 ?_, fun kv hkv => by simp at hkv⟩
        unfold nameOk at hw
        simp only [Bool.and_eq_true, decide_eq_true_eq] at hw
        omega
      have hmf : ∀ v, mfind [] v = none := fun _ => rfl
      have hG : G = ((⟨[], []⟩, 1, 7) : Pl × Int × Int) := hR
      rw [hmf, hmf, hG]
      simp only [Option.getD_none, Option.isSome_none, ↓EVP0, EVQ0, EVQ1, EVQ2, EVQ3, EVQ4, EVA, EVK, EVF,EVFT, ↓reduceIte, Nat.reduceEqDiff, Nat.reduceAdd, Nat.reduceSub, Nat.reduceMul, Nat.reduceLT, Nat.reduceLeDiff, reduceCtorEq, Int.reduceToNat, Int.reduceLT, Int.reduceLE, Int.reduceAdd, Int.reduceSub, Int.reduceMul, Int.reduceNeg, Int.reduceEq, Nat.reduceMod, forall_eq_or_imp, forall_eq, forall_const, cond_true, cond_false, decide_true, decide_false, true_imp_iff, implies_true, Int.cast_ofNat_Int, forall_eq']
      refine ⟨fun _ => ⟨by omega, ⟨by decide, by omega⟩, hks _ hq.1, hks _ hq.2, ?_⟩, fun h => by have := of_decide_eq_false h; omega⟩
      exact ⟨by unfold In64; omega, by unfold In64; omega⟩
  · rcases cs with _ | ⟨c0, cs⟩
    · have hnm : nm = [] := by simpa using il
      subst hnm
      simp only [hoN_cons, hoC_nil, slN_cons, slC_nil, slM_nil, List.cons_append, List.nil_append, List.append_nil]
      simp only [↓EVP0, EVQ0, EVQ1, EVQ2, EVQ3, EVQ4, EVA, EVK, EVF,EVFT, ↓reduceIte, Nat.reduceEqDiff, Nat.reduceAdd, Nat.reduceSub, Nat.reduceMul, Nat.reduceLT, Nat.reduceLeDiff, reduceCtorEq, Int.reduceToNat, Int.reduceLT, Int.reduceLE, Int.reduceAdd, Int.reduceSub, Int.reduceMul, Int.reduceNeg, Int.reduceEq, Nat.reduceMod, forall_eq_or_imp, forall_eq, forall_const, cond_true, cond_false, decide_true, decide_false, true_imp_iff, implies_true, Int.cast_ofNat_Int, forall_eq']
      intro _
      simp only [List.length_cons] at iN
      have hmt : ∀ (i : Nat) (es : List (Value × LV)), MpI (n0 :: ns) i es → ∀ w : ByteArray, w.size ≤ 20 → keysOk Tryd.prog 9 es (.string w) := by
        intro i es hM w hw
        refine ⟨key_str Tryd.underlying9 (by omega), fun kv hkv => ?_⟩
        obtain ⟨⟨u, hu, hu2⟩, _⟩ := hM.k kv hkv
        rw [hu]; exact key_str Tryd.underlying9 (by omega)
      refine lwp_for (α := List (Value × LV)) (ns.length + 1) (fun i es => MpI (n0 :: ns) i es) (fun i _ => [(2, .ptr 0 0 0 0 0), (5, .ptr 8 0 0 0 0), (6, .nsl), (8, .mp 9 0), (36, .sl 7 ns.length 3 0 (ns.length + 1)), (37, .sc (.int .i64 ((ns.length + 1 : Nat) : Int))), (38, .sc (.int .i64 i))])
        (fun _ es => [(0, .box [.nsl, .nsl]), (0, .box [.sl 7 ns.length 3 0 (ns.length + 1), .nsl]), (0, .box [.sl 7 ns.length 3 0 (ns.length + 1), .nsl]),
          (0, .box (ndL n0)), (0, .box zr6), (0, .box zr2), (0, .row 3 1 (bsG 3 (ndL n0))), (ns.length, .row 3 (ns.length + 1) (apG 3 (ndsF (n0 :: ns)) (ns.length + 1))), (0, .box [.sl 7 ns.length 3 0 (ns.length + 1), .nsl]), (0, .map es)]) [] (mp_nil _) ?_ (fun _ _ => Nat.zero_le _) ?_
      · simp only [↓EVP0, EVQ0, EVQ1, EVQ2, EVQ3, EVQ4, EVA, EVK, EVF,EVFT, ↓reduceIte, Nat.reduceEqDiff, Nat.reduceAdd, Nat.reduceSub, Nat.reduceMul, Nat.reduceLT, Nat.reduceLeDiff, reduceCtorEq, Int.reduceToNat, Int.reduceLT, Int.reduceLE, Int.reduceAdd, Int.reduceSub, Int.reduceMul, Int.reduceNeg, Int.reduceEq, Nat.reduceMod, forall_eq_or_imp, forall_eq, forall_const, cond_true, cond_false, decide_true, decide_false, true_imp_iff, implies_true, Int.cast_ofNat_Int, forall_eq']
        exact ⟨alN _ _, al6 _, al2 _, bsG_all rfl (alN _ _), apN _ _ _⟩
      intro i es hi hM
      unfold lb29_1
      simp only [↓EVP0, EVQ0, EVQ1, EVQ2, EVQ3, EVQ4, EVA, EVK, EVF,EVFT, ↓reduceIte, Nat.reduceEqDiff, Nat.reduceAdd, Nat.reduceSub, Nat.reduceMul, Nat.reduceLT, Nat.reduceLeDiff, reduceCtorEq, Int.reduceToNat, Int.reduceLT, Int.reduceLE, Int.reduceAdd, Int.reduceSub, Int.reduceMul, Int.reduceNeg, Int.reduceEq, Nat.reduceMod, forall_eq_or_imp, forall_eq, forall_const, cond_true, cond_false, decide_true, decide_false, true_imp_iff, implies_true, Int.cast_ofNat_Int, forall_eq']
      refine ⟨fun hg1 => ?_, fun hg1 => ?_⟩
      · have hi2 : i < ns.length + 1 := by have := of_decide_eq_true hg1; omega
        have e3 : apG 3 (ndsF (n0 :: ns)) (ns.length + 1) i = ndL ((n0 :: ns).getD i default) := apG_get (g := ndsF (n0 :: ns)) (fun _ => rfl) hi2
        have hnm := (inn _ (getG default (show i < (n0 :: ns).length from hi2))).1
        have hk := hmt i es hM _ (by unfold nameOk at hnm; simp only [Bool.and_eq_true, decide_eq_true_eq] at hnm; exact hnm.2.1)
        have hnew := mp_new hM hi2 hnm
        have hold := mp_old hM hi2
        rw [e3]
        generalize (n0 :: ns).getD i default = nd at *
        unfold ndL
        simp only [↓EVP0, EVQ0, EVQ1, EVQ2, EVQ3, EVQ4, EVA, EVK, EVF,EVFT, ↓reduceIte, Nat.reduceEqDiff, Nat.reduceAdd, Nat.reduceSub, Nat.reduceMul, Nat.reduceLT, Nat.reduceLeDiff, reduceCtorEq, Int.reduceToNat, Int.reduceLT, Int.reduceLE, Int.reduceAdd, Int.reduceSub, Int.reduceMul, Int.reduceNeg, Int.reduceEq, Nat.reduceMod, forall_eq_or_imp, forall_eq, forall_const, cond_true, cond_false, decide_true, decide_false, true_imp_iff, implies_true, Int.cast_ofNat_Int, forall_eq']
        have hg := mp_get hM nd.name
        cases hf : fdN ((n0 :: ns).take i) nd.name.data.toList 0 with
        | none =>
          rw [hf] at hg
          simp only [Option.map_none] at hg
          rw [hg] at hnew hold ⊢
          have hM2 := hnew rfl
          refine ⟨⟨by omega, by omega⟩, ⟨by decide, hi2⟩, hk, ?_⟩
          simp only [Option.getD_none, Option.isSome_none, ↓EVP0, EVQ0, EVQ1, EVQ2, EVQ3, EVQ4, EVA, EVK, EVF,EVFT, ↓reduceIte, Nat.reduceEqDiff, Nat.reduceAdd, Nat.reduceSub, Nat.reduceMul, Nat.reduceLT, Nat.reduceLeDiff, reduceCtorEq, Int.reduceToNat, Int.reduceLT, Int.reduceLE, Int.reduceAdd, Int.reduceSub, Int.reduceMul, Int.reduceNeg, Int.reduceEq, Nat.reduceMod, forall_eq_or_imp, forall_eq, forall_const, cond_true, cond_false, decide_true, decide_false, true_imp_iff, implies_true, Int.cast_ofNat_Int, forall_eq']
          exact ⟨hk, by unfold In64; omega, hi2, _, hM2, al6 _, al2 _, bsG_all rfl (alN _ n0), apN _ _ _, rfl, mp_all hM2⟩
        | some k =>
          rw [hf] at hg
          simp only [Option.map_some] at hg
          rw [hg] at hnew hold ⊢
          have hM2 := hold rfl
          refine ⟨⟨by omega, by omega⟩, ⟨by decide, hi2⟩, hk, ?_⟩
          simp only [Option.getD_some, Option.isSome_some, ↓EVP0, EVQ0, EVQ1, EVQ2, EVQ3, EVQ4, EVA, EVK, EVF,EVFT, ↓reduceIte, Nat.reduceEqDiff, Nat.reduceAdd, Nat.reduceSub, Nat.reduceMul, Nat.reduceLT, Nat.reduceLeDiff, reduceCtorEq, Int.reduceToNat, Int.reduceLT, Int.reduceLE, Int.reduceAdd, Int.reduceSub, Int.reduceMul, Int.reduceNeg, Int.reduceEq, Nat.reduceMod, forall_eq_or_imp, forall_eq, forall_const, cond_true, cond_false, decide_true, decide_false, true_imp_iff, implies_true, Int.cast_ofNat_Int, forall_eq']
          exact ⟨by unfold In64; omega, hi2, _, hM2, al6 _, al2 _, bsG_all rfl (alN _ n0), apN _ _ _, rfl, mp_all hM2⟩
      · have hG : G = if validE ⟨n0 :: ns, []⟩ = 0 then ((⟨n0 :: ns, []⟩, 0, 0) : Pl × Int × Int) else (⟨[], []⟩, 0, validE ⟨n0 :: ns, []⟩) := hR
        have hok : PlOk ⟨n0 :: ns, []⟩ := ⟨fun n hn => by
          have := inn n hn
          refine ⟨?_, this.2⟩
          have h3 := this.1
          unfold nameOk at h3
          simp only [Bool.and_eq_true, decide_eq_true_eq] at h3
          omega, fun c hc => by simp at hc⟩
        refine lwp_for (α := Unit) 0 (fun _ _ => True) (fun i _ => [(2, .ptr 0 0 0 0 0), (5, .ptr 8 0 0 0 0), (8, .mp 9 0), (57, .nsl), (58, .sc (.int .i64 0)), (59, .sc (.int .i64 i))])
          (fun _ _ => [(0, .box [.nsl, .nsl]), (0, .box [.sl 7 ns.length 3 0 (ns.length + 1), .nsl]), (0, .box [.sl 7 ns.length 3 0 (ns.length + 1), .nsl]),
          (0, .box (ndL n0)), (0, .box zr6), (0, .box zr2), (0, .row 3 1 (bsG 3 (ndL n0))), (ns.length, .row 3 (ns.length + 1) (apG 3 (ndsF (n0 :: ns)) (ns.length + 1))), (0, .box [.sl 7 ns.length 3 0 (ns.length + 1), .nsl]), (0, .map es)]) () trivial ?_ (fun _ _ => Nat.zero_le _) ?_
        · simp only [↓EVP0, EVQ0, EVQ1, EVQ2, EVQ3, EVQ4, EVA, EVK, EVF,EVFT, ↓reduceIte, Nat.reduceEqDiff, Nat.reduceAdd, Nat.reduceSub, Nat.reduceMul, Nat.reduceLT, Nat.reduceLeDiff, reduceCtorEq, Int.reduceToNat, Int.reduceLT, Int.reduceLE, Int.reduceAdd, Int.reduceSub, Int.reduceMul, Int.reduceNeg, Int.reduceEq, Nat.reduceMod, forall_eq_or_imp, forall_eq, forall_const, cond_true, cond_false, decide_true, decide_false, true_imp_iff, implies_true, Int.cast_ofNat_Int, forall_eq']
          exact ⟨alN _ _, al6 _, al2 _, bsG_all rfl (alN _ _), apN _ _ _, mp_all hM⟩
        intro i _ hi _
        obtain rfl : i = 0 := by omega
        unfold lb29_0
        simp only [↓EVP0, EVQ0, EVQ1, EVQ2, EVQ3, EVQ4, EVA, EVK, EVF,EVFT, ↓reduceIte, Nat.reduceEqDiff, Nat.reduceAdd, Nat.reduceSub, Nat.reduceMul, Nat.reduceLT, Nat.reduceLeDiff, reduceCtorEq, Int.reduceToNat, Int.reduceLT, Int.reduceLE, Int.reduceAdd, Int.reduceSub, Int.reduceMul, Int.reduceNeg, Int.reduceEq, Nat.reduceMod, forall_eq_or_imp, forall_eq, forall_const, cond_true, cond_false, decide_true, decide_false, true_imp_iff, implies_true, Int.cast_ofNat_Int, forall_eq']
        refine callK_frz (h2 _ hok) ?_ trivial ?_
        · simp only [↓EVP0, EVQ0, EVQ1, EVQ2, EVQ3, EVQ4, EVA, EVK, EVF,EVFT, ↓reduceIte, Nat.reduceEqDiff, Nat.reduceAdd, Nat.reduceSub, Nat.reduceMul, Nat.reduceLT, Nat.reduceLeDiff, reduceCtorEq, Int.reduceToNat, Int.reduceLT, Int.reduceLE, Int.reduceAdd, Int.reduceSub, Int.reduceMul, Int.reduceNeg, Int.reduceEq, Nat.reduceMod, forall_eq_or_imp, forall_eq, forall_const, cond_true, cond_false, decide_true, decide_false, true_imp_iff, implies_true, Int.cast_ofNat_Int, forall_eq']
          exact ⟨⟨Nat.le_refl _, leN _ _⟩, fun i hi => apG_get (g := ndsF (n0 :: ns)) (fun _ => rfl) hi⟩
        simp only [↓EVP0, EVQ0, EVQ1, EVQ2, EVQ3, EVQ4, EVA, EVK, EVF,EVFT, ↓reduceIte, Nat.reduceEqDiff, Nat.reduceAdd, Nat.reduceSub, Nat.reduceMul, Nat.reduceLT, Nat.reduceLeDiff, reduceCtorEq, Int.reduceToNat, Int.reduceLT, Int.reduceLE, Int.reduceAdd, Int.reduceSub, Int.reduceMul, Int.reduceNeg, Int.reduceEq, Nat.reduceMod, forall_eq_or_imp, forall_eq, forall_const, cond_true, cond_false, decide_true, decide_false, true_imp_iff, implies_true, Int.cast_ofNat_Int, forall_eq']
        refine ⟨fun hv => ?_, fun hv => ?_⟩
        · rw [if_neg (by simpa using hv)] at hG
          rw [hG]
          exact ⟨⟨rfl, rfl⟩, rfl, rfl⟩
        · rw [if_pos (by simpa using hv)] at hG
          rw [hG]
          exact ⟨⟨⟨rfl, ⟨Nat.le_refl _, leN _ _⟩, fun i hi => apG_get (g := ndsF (n0 :: ns)) (fun _ => rfl) hi⟩, rfl⟩, rfl, rfl⟩
    · rcases nm with _ | ⟨m0, nm⟩
      · simp at il
      simp only [hoN_cons, hoC_cons, slN_cons, slC_c1, slM_c1, List.cons_append, List.nil_append, List.append_nil]
      simp only [↓EVP0, EVQ0, EVQ1, EVQ2, EVQ3, EVQ4, EVA, EVK, EVF,EVFT, ↓reduceIte, Nat.reduceEqDiff, Nat.reduceAdd, Nat.reduceSub, Nat.reduceMul, Nat.reduceLT, Nat.reduceLeDiff, reduceCtorEq, Int.reduceToNat, Int.reduceLT, Int.reduceLE, Int.reduceAdd, Int.reduceSub, Int.reduceMul, Int.reduceNeg, Int.reduceEq, Nat.reduceMod, forall_eq_or_imp, forall_eq, forall_const, cond_true, cond_false, decide_true, decide_false, true_imp_iff, implies_true, Int.cast_ofNat_Int, forall_eq']
      intro _
      simp only [List.length_cons] at iN
      have hmt : ∀ (i : Nat) (es : List (Value × LV)), MpI (n0 :: ns) i es → ∀ w : ByteArray, w.size ≤ 20 → keysOk Tryd.prog 9 es (.string w) := by
        intro i es hM w hw
        refine ⟨key_str Tryd.underlying9 (by omega), fun kv hkv => ?_⟩
        obtain ⟨⟨u, hu, hu2⟩, _⟩ := hM.k kv hkv
        rw [hu]; exact key_str Tryd.underlying9 (by omega)
      refine lwp_for (α := List (Value × LV)) (ns.length + 1) (fun i es => MpI (n0 :: ns) i es) (fun i _ => [(2, .ptr 0 0 0 0 0), (5, .ptr 15 0 0 0 0), (6, .sl 14 nm.length 2 0 (nm.length + 1)), (8, .mp 16 0), (36, .sl 7 ns.length 3 0 (ns.length + 1)), (37, .sc (.int .i64 ((ns.length + 1 : Nat) : Int))), (38, .sc (.int .i64 i))])
        (fun _ es => [(0, .box [.nsl, .nsl]), (0, .box [.sl 7 ns.length 3 0 (ns.length + 1), .sl 12 cs.length 6 0 (cs.length + 1)]), (0, .box [.sl 7 ns.length 3 0 (ns.length + 1), .sl 12 cs.length 6 0 (cs.length + 1)]),
          (0, .box (ndL n0)), (0, .box zr6), (0, .box zr2), (0, .row 3 1 (bsG 3 (ndL n0))), (ns.length, .row 3 (ns.length + 1) (apG 3 (ndsF (n0 :: ns)) (ns.length + 1))), (0, .box (ndL default)), (0, .box (cbL c0)), (0, .box (nmL m0)), (0, .row 6 1 (bsG 6 (cbL c0))),
          (cs.length, .row 6 (cs.length + 1) (apG 6 (cbsF (c0 :: cs)) (cs.length + 1))), (0, .row 2 1 (bsG 2 (nmL m0))), (nm.length, .row 2 (nm.length + 1) (apG 2 (nmsF (m0 :: nm)) (nm.length + 1))),
          (0, .box [.sl 7 ns.length 3 0 (ns.length + 1), .sl 12 cs.length 6 0 (cs.length + 1)]), (0, .map es)]) [] (mp_nil _) ?_ (fun _ _ => Nat.zero_le _) ?_
      · simp only [↓EVP0, EVQ0, EVQ1, EVQ2, EVQ3, EVQ4, EVA, EVK, EVF,EVFT, ↓reduceIte, Nat.reduceEqDiff, Nat.reduceAdd, Nat.reduceSub, Nat.reduceMul, Nat.reduceLT, Nat.reduceLeDiff, reduceCtorEq, Int.reduceToNat, Int.reduceLT, Int.reduceLE, Int.reduceAdd, Int.reduceSub, Int.reduceMul, Int.reduceNeg, Int.reduceEq, Nat.reduceMod, forall_eq_or_imp, forall_eq, forall_const, cond_true, cond_false, decide_true, decide_false, true_imp_iff, implies_true, Int.cast_ofNat_Int, forall_eq']
        exact ⟨alN _ _, al6 _, al2 _, bsG_all rfl (alN _ _), apN _ _ _, alN _ _, alC _ _, alM _ _, bsG_all rfl (alC _ _), apC _ _ _, bsG_all rfl (alM _ _), apM _ _ _⟩
      intro i es hi hM
      unfold lb29_1
      simp only [↓EVP0, EVQ0, EVQ1, EVQ2, EVQ3, EVQ4, EVA, EVK, EVF,EVFT, ↓reduceIte, Nat.reduceEqDiff, Nat.reduceAdd, Nat.reduceSub, Nat.reduceMul, Nat.reduceLT, Nat.reduceLeDiff, reduceCtorEq, Int.reduceToNat, Int.reduceLT, Int.reduceLE, Int.reduceAdd, Int.reduceSub, Int.reduceMul, Int.reduceNeg, Int.reduceEq, Nat.reduceMod, forall_eq_or_imp, forall_eq, forall_const, cond_true, cond_false, decide_true, decide_false, true_imp_iff, implies_true, Int.cast_ofNat_Int, forall_eq']
      refine ⟨fun hg1 => ?_, fun hg1 => ?_⟩
      · have hi2 : i < ns.length + 1 := by have := of_decide_eq_true hg1; omega
        have e3 : apG 3 (ndsF (n0 :: ns)) (ns.length + 1) i = ndL ((n0 :: ns).getD i default) := apG_get (g := ndsF (n0 :: ns)) (fun _ => rfl) hi2
        have hnm := (inn _ (getG default (show i < (n0 :: ns).length from hi2))).1
        have hk := hmt i es hM _ (by unfold nameOk at hnm; simp only [Bool.and_eq_true, decide_eq_true_eq] at hnm; exact hnm.2.1)
        have hnew := mp_new hM hi2 hnm
        have hold := mp_old hM hi2
        rw [e3]
        generalize (n0 :: ns).getD i default = nd at *
        unfold ndL
        simp only [↓EVP0, EVQ0, EVQ1, EVQ2, EVQ3, EVQ4, EVA, EVK, EVF,EVFT, ↓reduceIte, Nat.reduceEqDiff, Nat.reduceAdd, Nat.reduceSub, Nat.reduceMul, Nat.reduceLT, Nat.reduceLeDiff, reduceCtorEq, Int.reduceToNat, Int.reduceLT, Int.reduceLE, Int.reduceAdd, Int.reduceSub, Int.reduceMul, Int.reduceNeg, Int.reduceEq, Nat.reduceMod, forall_eq_or_imp, forall_eq, forall_const, cond_true, cond_false, decide_true, decide_false, true_imp_iff, implies_true, Int.cast_ofNat_Int, forall_eq']
        have hg := mp_get hM nd.name
        cases hf : fdN ((n0 :: ns).take i) nd.name.data.toList 0 with
        | none =>
          rw [hf] at hg
          simp only [Option.map_none] at hg
          rw [hg] at hnew hold ⊢
          have hM2 := hnew rfl
          refine ⟨⟨by omega, by omega⟩, ⟨by decide, hi2⟩, hk, ?_⟩
          simp only [Option.getD_none, Option.isSome_none, ↓EVP0, EVQ0, EVQ1, EVQ2, EVQ3, EVQ4, EVA, EVK, EVF,EVFT, ↓reduceIte, Nat.reduceEqDiff, Nat.reduceAdd, Nat.reduceSub, Nat.reduceMul, Nat.reduceLT, Nat.reduceLeDiff, reduceCtorEq, Int.reduceToNat, Int.reduceLT, Int.reduceLE, Int.reduceAdd, Int.reduceSub, Int.reduceMul, Int.reduceNeg, Int.reduceEq, Nat.reduceMod, forall_eq_or_imp, forall_eq, forall_const, cond_true, cond_false, decide_true, decide_false, true_imp_iff, implies_true, Int.cast_ofNat_Int, forall_eq']
          exact ⟨hk, by unfold In64; omega, hi2, _, hM2, al6 _, al2 _, bsG_all rfl (alN _ n0), apN _ _ _, alC _ _, alM _ _, bsG_all rfl (alC _ _), apC _ _ _, bsG_all rfl (alM _ _), apM _ _ _, rfl, mp_all hM2⟩
        | some k =>
          rw [hf] at hg
          simp only [Option.map_some] at hg
          rw [hg] at hnew hold ⊢
          have hM2 := hold rfl
          refine ⟨⟨by omega, by omega⟩, ⟨by decide, hi2⟩, hk, ?_⟩
          simp only [Option.getD_some, Option.isSome_some, ↓EVP0, EVQ0, EVQ1, EVQ2, EVQ3, EVQ4, EVA, EVK, EVF,EVFT, ↓reduceIte, Nat.reduceEqDiff, Nat.reduceAdd, Nat.reduceSub, Nat.reduceMul, Nat.reduceLT, Nat.reduceLeDiff, reduceCtorEq, Int.reduceToNat, Int.reduceLT, Int.reduceLE, Int.reduceAdd, Int.reduceSub, Int.reduceMul, Int.reduceNeg, Int.reduceEq, Nat.reduceMod, forall_eq_or_imp, forall_eq, forall_const, cond_true, cond_false, decide_true, decide_false, true_imp_iff, implies_true, Int.cast_ofNat_Int, forall_eq']
          exact ⟨by unfold In64; omega, hi2, _, hM2, al6 _, al2 _, bsG_all rfl (alN _ n0), apN _ _ _, alC _ _, alM _ _, bsG_all rfl (alC _ _), apC _ _ _, bsG_all rfl (alM _ _), apM _ _ _, rfl, mp_all hM2⟩
      · have hi3 : i = ns.length + 1 := by have := of_decide_eq_false hg1; omega
        subst hi3
        have hnq : nm.length = cs.length := by simpa using il
        intro _
        generalize hT : rsC (n0 :: ns) (c0 :: cs) (m0 :: nm) ((n0 :: ns).length + 1) [] = T
        have hG : G = if 0 < T.2 then ((⟨[], []⟩, (T.2 : Int), 7) : Pl × Int × Int) else if validE ⟨n0 :: ns, T.1⟩ = 0 then (⟨n0 :: ns, T.1⟩, 0, 0) else (⟨[], []⟩, 0, validE ⟨n0 :: ns, T.1⟩) := by
          rw [hR]
          unfold afG
          rw [if_neg (Nat.lt_irrefl _)]
          simp only
          rw [hT]
        clear hR
        have hbad : ∀ k : Nat, T = ([], (n0 :: ns).length + 1 + k) → k ≤ 100000 → (In64 ((ns.length : Int) + 1 + k) ∧ In64 ((ns.length : Int) + 1 + k + 1) ∧ (G.1.ns.length = 0 ∧ G.1.cs.length = 0) ∧ (ns.length : Int) + 1 + k + 1 = G.2.1 ∧ 7 = G.2.2) := by
          intro k hk hk2
          rw [hk, if_pos (by simp only; omega)] at hG
          rw [hG]
          refine ⟨by unfold In64; omega, by unfold In64; omega, ⟨rfl, rfl⟩, ?_, rfl⟩
          simp only [List.length_cons]; omega
        have hmg : ∀ u : ByteArray, mfind es (.string u) = (fdN (n0 :: ns) u.data.toList 0).map fun k => LV.sc (.int .i64 (k : Nat)) := by
          intro u
          rw [mp_get hM u, List.take_of_length_le (by simp)]
        refine lwp_for (α := List Cb × (Nat → List LV)) (nm.length + 1) (fun i x => (x.1.length = i ∧ ∀ c, c ∈ x.1 → CbIn c) ∧ rsC (n0 :: ns) ((c0 :: cs).drop i) ((m0 :: nm).drop i) ((n0 :: ns).length + 1 + i) x.1 = T ∧ ∀ j, j < cs.length + 1 → x.2 j = cbL ((x.1 ++ (c0 :: cs).drop i).getD j default))
          (fun i _ => [(2, .ptr 0 0 0 0 0), (5, .ptr 15 0 0 0 0), (8, .mp 16 0), (57, .sl 14 nm.length 2 0 (nm.length + 1)), (58, .sc (.int .i64 ((nm.length + 1 : Nat) : Int))), (59, .sc (.int .i64 i))])
          (fun _ x => [(0, .box [.nsl, .nsl]), (0, .box [.sl 7 ns.length 3 0 (ns.length + 1), .sl 12 cs.length 6 0 (cs.length + 1)]), (0, .box [.sl 7 ns.length 3 0 (ns.length + 1), .sl 12 cs.length 6 0 (cs.length + 1)]),
          (0, .box (ndL n0)), (0, .box zr6), (0, .box zr2), (0, .row 3 1 (bsG 3 (ndL n0))), (ns.length, .row 3 (ns.length + 1) (apG 3 (ndsF (n0 :: ns)) (ns.length + 1))), (0, .box (ndL default)), (0, .box (cbL c0)), (0, .box (nmL m0)), (0, .row 6 1 (bsG 6 (cbL c0))),
          (cs.length, .row 6 (cs.length + 1) x.2), (0, .row 2 1 (bsG 2 (nmL m0))), (nm.length, .row 2 (nm.length + 1) (apG 2 (nmsF (m0 :: nm)) (nm.length + 1))),
          (0, .box [.sl 7 ns.length 3 0 (ns.length + 1), .sl 12 cs.length 6 0 (cs.length + 1)]), (0, .map es)]) ([], apG 6 (cbsF (c0 :: cs)) (cs.length + 1)) ⟨⟨rfl, fun c hc => by simp at hc⟩, hT, fun j hj => apG_get (g := cbsF (c0 :: cs)) (fun _ => rfl) hj⟩ ?_ (fun _ _ => Nat.zero_le _) ?_
        · simp only [↓EVP0, EVQ0, EVQ1, EVQ2, EVQ3, EVQ4, EVA, EVK, EVF,EVFT, ↓reduceIte, Nat.reduceEqDiff, Nat.reduceAdd, Nat.reduceSub, Nat.reduceMul, Nat.reduceLT, Nat.reduceLeDiff, reduceCtorEq, Int.reduceToNat, Int.reduceLT, Int.reduceLE, Int.reduceAdd, Int.reduceSub, Int.reduceMul, Int.reduceNeg, Int.reduceEq, Nat.reduceMod, forall_eq_or_imp, forall_eq, forall_const, cond_true, cond_false, decide_true, decide_false, true_imp_iff, implies_true, Int.cast_ofNat_Int, forall_eq']
          exact ⟨alN _ _, al6 _, al2 _, bsG_all rfl (alN _ _), apN _ _ _, alN _ _, alC _ _, alM _ _, bsG_all rfl (alC _ _), apC _ _ _, bsG_all rfl (alM _ _), apM _ _ _, mp_all hM⟩
        rintro i ⟨acc, F⟩ hi ⟨⟨ha, hin⟩, hr, hF⟩
        simp only at ha hin hr hF ⊢
        unfold lb29_0
        by_cases hi2 : i < nm.length + 1
        · have e3 : apG 2 (nmsF (m0 :: nm)) (nm.length + 1) i = nmL ((m0 :: nm).getD i ([], [])) := apG_get (g := nmsF (m0 :: nm)) (fun _ => rfl) hi2
          have hq := inq _ (getG ([], []) (show i < (m0 :: nm).length from hi2))
          have hFi := hF i (by omega)
          have e4 : (acc ++ (c0 :: cs).drop i).getD i default = (c0 :: cs).getD i default := by
            rw [List.getD_eq_getElem?_getD, List.getElem?_append_right (by omega), ha, Nat.sub_self, List.getElem?_drop, List.getD_eq_getElem?_getD]; rfl
          rw [e4] at hFi
          simp only [↓EVP0, EVQ0, EVQ1, EVQ2, EVQ3, EVQ4, EVA, EVK, EVF,EVFT, ↓reduceIte, Nat.reduceEqDiff, Nat.reduceAdd, Nat.reduceSub, Nat.reduceMul, Nat.reduceLT, Nat.reduceLeDiff, reduceCtorEq, Int.reduceToNat, Int.reduceLT, Int.reduceLE, Int.reduceAdd, Int.reduceSub, Int.reduceMul, Int.reduceNeg, Int.reduceEq, Nat.reduceMod, forall_eq_or_imp, forall_eq, forall_const, cond_true, cond_false, decide_true, decide_false, true_imp_iff, implies_true, Int.cast_ofNat_Int, forall_eq']
          rw [e3]
          have hst := rsC_at hr (show i < (c0 :: cs).length by simp only [List.length_cons]; omega) (show i < (m0 :: nm).length from hi2)
          generalize (m0 :: nm).getD i ([], []) = q at *
          unfold nmL
          simp only [↓EVP0, EVQ0, EVQ1, EVQ2, EVQ3, EVQ4, EVA, EVK, EVF,EVFT, ↓reduceIte, Nat.reduceEqDiff, Nat.reduceAdd, Nat.reduceSub, Nat.reduceMul, Nat.reduceLT, Nat.reduceLeDiff, reduceCtorEq, Int.reduceToNat, Int.reduceLT, Int.reduceLE, Int.reduceAdd, Int.reduceSub, Int.reduceMul, Int.reduceNeg, Int.reduceEq, Nat.reduceMod, forall_eq_or_imp, forall_eq, forall_const, cond_true, cond_false, decide_true, decide_false, true_imp_iff, implies_true, Int.cast_ofNat_Int, forall_eq']
          rw [hmg, hmg, strB_data, strB_data]
          have hk1 := hmt _ es hM (strB q.1) (by have := hq.1; unfold nameOk at this; simp only [Bool.and_eq_true, decide_eq_true_eq] at this; exact this.2.1)
          have hk2 := hmt _ es hM (strB q.2) (by have := hq.2; unfold nameOk at this; simp only [Bool.and_eq_true, decide_eq_true_eq] at this; exact this.2.1)
          refine ⟨fun _ => ⟨⟨by omega, by omega⟩, ⟨by decide, hi2⟩, hk1, ?_⟩, fun h => by have := of_decide_eq_false h; omega⟩
          cases f1 : fdN (n0 :: ns) q.1 0 with
          | none =>
            have hT2 := hst.2 (.inl f1)
            cases f2 : fdN (n0 :: ns) q.2 0 <;> (simp only [Option.map_none, Option.map_some, Option.getD_none, Option.getD_some, Option.isSome_none, Option.isSome_some, ↓EVP0, EVQ0, EVQ1, EVQ2, EVQ3, EVQ4, EVA, EVK, EVF,EVFT, ↓reduceIte, Nat.reduceEqDiff, Nat.reduceAdd, Nat.reduceSub, Nat.reduceMul, Nat.reduceLT, Nat.reduceLeDiff, reduceCtorEq, Int.reduceToNat, Int.reduceLT, Int.reduceLE, Int.reduceAdd, Int.reduceSub, Int.reduceMul, Int.reduceNeg, Int.reduceEq, Nat.reduceMod, forall_eq_or_imp, forall_eq, forall_const, cond_true, cond_false, decide_true, decide_false, true_imp_iff, implies_true, Int.cast_ofNat_Int, forall_eq']) <;> exact ⟨hk2, hbad i hT2 (by omega)⟩
          | some x =>
            cases f2 : fdN (n0 :: ns) q.2 0 with
            | none =>
              have hT2 := hst.2 (.inr f2)
              simp only [Option.map_none, Option.map_some, Option.getD_none, Option.getD_some, Option.isSome_none, Option.isSome_some, ↓EVP0, EVQ0, EVQ1, EVQ2, EVQ3, EVQ4, EVA, EVK, EVF,EVFT, ↓reduceIte, Nat.reduceEqDiff, Nat.reduceAdd, Nat.reduceSub, Nat.reduceMul, Nat.reduceLT, Nat.reduceLeDiff, reduceCtorEq, Int.reduceToNat, Int.reduceLT, Int.reduceLE, Int.reduceAdd, Int.reduceSub, Int.reduceMul, Int.reduceNeg, Int.reduceEq, Nat.reduceMod, forall_eq_or_imp, forall_eq, forall_const, cond_true, cond_false, decide_true, decide_false, true_imp_iff, implies_true, Int.cast_ofNat_Int, forall_eq']
              exact ⟨hk2, hbad i hT2 (by omega)⟩
            | some y =>
              have hst2 := hst.1 x y f1 f2
              simp only [Option.map_none, Option.map_some, Option.getD_none, Option.getD_some, Option.isSome_none, Option.isSome_some, ↓EVP0, EVQ0, EVQ1, EVQ2, EVQ3, EVQ4, EVA, EVK, EVF,EVFT, ↓reduceIte, Nat.reduceEqDiff, Nat.reduceAdd, Nat.reduceSub, Nat.reduceMul, Nat.reduceLT, Nat.reduceLeDiff, reduceCtorEq, Int.reduceToNat, Int.reduceLT, Int.reduceLE, Int.reduceAdd, Int.reduceSub, Int.reduceMul, Int.reduceNeg, Int.reduceEq, Nat.reduceMod, forall_eq_or_imp, forall_eq, forall_const, cond_true, cond_false, decide_true, decide_false, true_imp_iff, implies_true, Int.cast_ofNat_Int, forall_eq']
              have hcm := icb _ (getG default (show i < (c0 :: cs).length by simp only [List.length_cons]; omega))
              have hx1 := fdN_lt f1
              have hy1 := fdN_lt f2
              simp only [List.length_cons] at hx1 hy1
              rw [hFi]
              generalize (c0 :: cs).getD i default = c at *
              rw [show cbL c = [.sc (.int .i64 c.a), .sc (.int .i64 c.ap), .sc (.int .i64 c.b), .sc (.int .i64 c.bp), .sc (.int .i64 c.dl), .sc (.int .i64 c.cp)] from rfl]
              simp only [↓EVP0, EVQ0, EVQ1, EVQ2, EVQ3, EVQ4, EVA, EVK, EVF,EVFT, ↓reduceIte, Nat.reduceEqDiff, Nat.reduceAdd, Nat.reduceSub, Nat.reduceMul, Nat.reduceLT, Nat.reduceLeDiff, reduceCtorEq, Int.reduceToNat, Int.reduceLT, Int.reduceLE, Int.reduceAdd, Int.reduceSub, Int.reduceMul, Int.reduceNeg, Int.reduceEq, Nat.reduceMod, forall_eq_or_imp, forall_eq, forall_const, cond_true, cond_false, decide_true, decide_false, true_imp_iff, implies_true, Int.cast_ofNat_Int, forall_eq']
              have hF2 : ∀ j, j < cs.length + 1 → (fun j => if j = i then cbL ⟨(x : Int), c.ap, (y : Int), c.bp, c.dl, c.cp⟩ else if j = i then cbL ⟨(x : Int), c.ap, c.b, c.bp, c.dl, c.cp⟩ else F j) j = cbL (((acc ++ [(⟨(x : Int), c.ap, (y : Int), c.bp, c.dl, c.cp⟩ : Cb)]) ++ (c0 :: cs).drop (i + 1)).getD j default) := by
                intro j hj
                by_cases e : j = i
                · subst e
                  simp only [if_true]
                  rw [cur_new ha]
                · simp only [e, if_false]
                  rw [cur_step ha e]
                  exact hF j hj
              exact ⟨hk2, ⟨by omega, by omega⟩, by omega, ⟨by omega, by omega⟩, by omega, by unfold In64; omega, hi2, (acc ++ [(⟨(x : Int), c.ap, (y : Int), c.bp, c.dl, c.cp⟩ : Cb)], fun j => if j = i then cbL ⟨(x : Int), c.ap, (y : Int), c.bp, c.dl, c.cp⟩ else if j = i then cbL ⟨(x : Int), c.ap, c.b, c.bp, c.dl, c.cp⟩ else F j), ⟨⟨by simp [ha], fun d hd => by
                rcases List.mem_append.1 hd with hd | hd
                · exact hin d hd
                · obtain rfl : d = _ := List.mem_singleton.1 hd
                  exact ⟨by unfold In64; simp only; omega, hcm.2.1, by unfold In64; simp only; omega, hcm.2.2.2.1, hcm.2.2.2.2.1, hcm.2.2.2.2.2⟩⟩, hst2, hF2⟩, alN _ _, al6 _, al2 _, bsG_all rfl (alN _ _), apN _ _ _, alN _ _, alC _ _, bsG_all rfl (alC _ _), rfl, fun j hj => by have := hF2 j hj; simp only at this ⊢; rw [this]; exact alC _ _, bsG_all rfl (alM _ m0), apM _ _ _, mp_all hM⟩
        · have hi3 : i = nm.length + 1 := by omega
          subst hi3
          simp only [↓EVP0, EVQ0, EVQ1, EVQ2, EVQ3, EVQ4, EVA, EVK, EVF,EVFT, ↓reduceIte, Nat.reduceEqDiff, Nat.reduceAdd, Nat.reduceSub, Nat.reduceMul, Nat.reduceLT, Nat.reduceLeDiff, reduceCtorEq, Int.reduceToNat, Int.reduceLT, Int.reduceLE, Int.reduceAdd, Int.reduceSub, Int.reduceMul, Int.reduceNeg, Int.reduceEq, Nat.reduceMod, forall_eq_or_imp, forall_eq, forall_const, cond_true, cond_false, decide_true, decide_false, true_imp_iff, implies_true, Int.cast_ofNat_Int, forall_eq']
          refine ⟨fun h => by have := of_decide_eq_true h; omega, fun _ => ?_⟩
          have hTT : T = (acc, 0) := by
            rw [List.drop_eq_nil_of_le (by simp only [List.length_cons]; omega)] at hr
            exact hr.symm
          have hok : PlOk ⟨n0 :: ns, acc⟩ := ⟨fun n hn => by
            have := inn n hn
            refine ⟨?_, this.2⟩
            have h3 := this.1
            unfold nameOk at h3
            simp only [Bool.and_eq_true, decide_eq_true_eq] at h3
            omega, fun c hc => hin c hc⟩
          have hF3 : ∀ j, j < cs.length + 1 → F j = cbL (acc.getD j default) := by
            intro j hj
            rw [hF j hj, List.drop_eq_nil_of_le (by simp only [List.length_cons]; omega), List.append_nil]
          refine callK_frz (h2 _ hok) ?_ trivial ?_
          · simp only [↓EVP0, EVQ0, EVQ1, EVQ2, EVQ3, EVQ4, EVA, EVK, EVF,EVFT, ↓reduceIte, Nat.reduceEqDiff, Nat.reduceAdd, Nat.reduceSub, Nat.reduceMul, Nat.reduceLT, Nat.reduceLeDiff, reduceCtorEq, Int.reduceToNat, Int.reduceLT, Int.reduceLE, Int.reduceAdd, Int.reduceSub, Int.reduceMul, Int.reduceNeg, Int.reduceEq, Nat.reduceMod, forall_eq_or_imp, forall_eq, forall_const, cond_true, cond_false, decide_true, decide_false, true_imp_iff, implies_true, Int.cast_ofNat_Int, forall_eq']
            exact ⟨⟨⟨Nat.le_refl _, leN _ _⟩, fun i hi => apG_get (g := ndsF (n0 :: ns)) (fun _ => rfl) hi⟩, by omega, ⟨Nat.le_refl _, fun j hj => by rw [hF3 j hj]; rfl⟩, fun j hj => hF3 j hj⟩
          simp only [↓EVP0, EVQ0, EVQ1, EVQ2, EVQ3, EVQ4, EVA, EVK, EVF,EVFT, ↓reduceIte, Nat.reduceEqDiff, Nat.reduceAdd, Nat.reduceSub, Nat.reduceMul, Nat.reduceLT, Nat.reduceLeDiff, reduceCtorEq, Int.reduceToNat, Int.reduceLT, Int.reduceLE, Int.reduceAdd, Int.reduceSub, Int.reduceMul, Int.reduceNeg, Int.reduceEq, Nat.reduceMod, forall_eq_or_imp, forall_eq, forall_const, cond_true, cond_false, decide_true, decide_false, true_imp_iff, implies_true, Int.cast_ofNat_Int, forall_eq']
          rw [hTT, if_neg (Nat.lt_irrefl _)] at hG
          refine ⟨fun hv => ?_, fun hv => ?_⟩
          · rw [if_neg (by simpa using hv)] at hG
            rw [hG]
            exact ⟨⟨rfl, rfl⟩, rfl, rfl⟩
          · rw [if_pos (by simpa using hv)] at hG
            rw [hG]
            exact ⟨⟨⟨rfl, ⟨Nat.le_refl _, leN _ _⟩, fun i hi => apG_get (g := ndsF (n0 :: ns)) (fun _ => rfl) hi⟩, by simp only; omega, ⟨Nat.le_refl _, fun j hj => by rw [hF3 j hj]; rfl⟩, fun j hj => hF3 j hj⟩, rfl, rfl⟩
end Go.Proofs.YtchpncmmlhfemaaDoor
namespace Go.Proofs.YtchpncmmlhfemaaDoor
set_option linter.unusedSimpArgs false
set_option linter.unusedVariables false
open Go.RowKit
set_option maxRecDepth 20000

end Go.Proofs.YtchpncmmlhfemaaDoor
namespace Go.Proofs.YtchpncmmlhfemaaDoor
set_option linter.unusedSimpArgs false
set_option linter.unusedVariables false
open Go.RowKit
set_option maxRecDepth 20000

theorem lineN_sw {q : Nd} (h : q.sw = true) : lineB (wdsN q) = wSwitch.data.toList ++ [32] ++ q.name.data.toList ++ [32] ++ Lib.decDigits q.ports.toNat ++ [10] := by
  unfold wdsN lineB
  rw [h, cond_true, lineW_cons, lineW_cons, lineW_one]
  simp [decS]
theorem lineN_en {q : Nd} (h : q.sw = false) : lineB (wdsN q) = wEnd.data.toList ++ [32] ++ q.name.data.toList ++ [10] := by
  unfold wdsN lineB
  rw [h, cond_false, lineW_cons, lineW_one]
  simp
end Go.Proofs.YtchpncmmlhfemaaDoor
namespace Go.Proofs.YtchpncmmlhfemaaDoor
set_option linter.unusedSimpArgs false
set_option linter.unusedVariables false
open Go.RowKit
set_option maxRecDepth 20000

theorem lineN_jn (q : Nd) : lineB (wdsN q) = jnW (lnN q) ++ [10] := by
  cases h : q.sw
  · rw [lineN_en h]
    unfold lnN
    rw [if_neg (by rw [h]; simp)]
    have : wEnd.data.toList = wEn := rfl
    rw [this]
    simp [jnW]
  · rw [lineN_sw h]
    unfold lnN
    rw [if_pos h]
    have : wSwitch.data.toList = wSw := rfl
    rw [this]
    simp [jnW]
theorem lineC_jn (p : Pl) (c : Cb) : lineB (wdsC p c) = jnW (lnC p.ns c) ++ [10] := by
  unfold wdsC lineB lnC
  rw [lineW_cons, lineW_cons, lineW_cons, lineW_cons, lineW_cons, lineW_cons, lineW_one]
  have : wCable.data.toList = wCa := rfl
  rw [this]
  simp [jnW, decS]
theorem txG_eq (p : Pl) : txG p = txtNs p p.ns.length ++ txtCs p p.cs.length := by
  unfold txG txtNs txtCs
  rw [List.take_length, List.take_length]
  simp only [lineN_jn, lineC_jn]
theorem fmt_txG {p : Pl} (hv : validE p = 0) : fmtE p = (strB (txG p), 0) := by
  unfold fmtE
  rw [if_pos hv, txG_eq]; rfl
end Go.Proofs.YtchpncmmlhfemaaDoor
namespace Go.Proofs.YtchpncmmlhfemaaDoor
set_option linter.unusedSimpArgs false
set_option linter.unusedVariables false
open Go.RowKit
set_option maxRecDepth 20000

theorem ev_eqN (l : List Nd) : Ev Tryd.prog 52 [.rsl 3 l.length (ndsF l), .rsl 3 l.length (ndsF l)] (.sc (.bool true)) := by
  refine ev_fn Tryd.func52 comp52 (show 2 ≤ Tryd.f52.ntmps by decide) ?_; unfold cf52 rf52; simp only [↓EVP0, EVQ0, EVQ1, EVQ2, EVQ3, EVQ4, EVA, EVK, EVF,EVFT, ↓reduceIte, Nat.reduceEqDiff, Nat.reduceAdd, Nat.reduceSub, Nat.reduceMul, Nat.reduceLT, Nat.reduceLeDiff, reduceCtorEq, Int.reduceToNat, Int.reduceLT, Int.reduceLE, Int.reduceAdd, Int.reduceSub, Int.reduceMul, Int.reduceNeg, Int.reduceEq, Nat.reduceMod, forall_eq_or_imp, forall_eq, forall_const, cond_true, cond_false, decide_true, decide_false, true_imp_iff, implies_true, Int.cast_ofNat_Int, forall_eq']
  intro hl _ _
  refine lwp_for (α := Unit) l.length (fun _ _ => True) (fun i _ => [(0, .rsl 3 l.length (ndsF l)), (1, .rsl 3 l.length (ndsF l)), (12, .sc (.int .i64 l.length)), (13, .sc (.int .i64 i))]) (fun _ _ => []) () trivial ?_ (fun _ _ => Nat.zero_le _) ?_
  · simp only [↓EVP0, EVQ0, EVQ1, EVQ2, EVQ3, EVQ4, EVA, EVK, EVF,EVFT, ↓reduceIte, Nat.reduceEqDiff, Nat.reduceAdd, Nat.reduceSub, Nat.reduceMul, Nat.reduceLT, Nat.reduceLeDiff, reduceCtorEq, Int.reduceToNat, Int.reduceLT, Int.reduceLE, Int.reduceAdd, Int.reduceSub, Int.reduceMul, Int.reduceNeg, Int.reduceEq, Nat.reduceMod, forall_eq_or_imp, forall_eq, forall_const, cond_true, cond_false, decide_true, decide_false, true_imp_iff, implies_true, Int.cast_ofNat_Int, forall_eq']
  intro i _ hi _
  unfold lb52_0
  simp only [↓EVP0, EVQ0, EVQ1, EVQ2, EVQ3, EVQ4, EVA, EVK, EVF,EVFT, ↓reduceIte, Nat.reduceEqDiff, Nat.reduceAdd, Nat.reduceSub, Nat.reduceMul, Nat.reduceLT, Nat.reduceLeDiff, reduceCtorEq, Int.reduceToNat, Int.reduceLT, Int.reduceLE, Int.reduceAdd, Int.reduceSub, Int.reduceMul, Int.reduceNeg, Int.reduceEq, Nat.reduceMod, forall_eq_or_imp, forall_eq, forall_const, cond_true, cond_false, decide_true, decide_false, true_imp_iff, implies_true, Int.cast_ofNat_Int, forall_eq']
  refine ⟨fun hg => ?_, fun _ => trivial⟩
  have hi2 : i < l.length := by have := of_decide_eq_true hg; omega
  exact ⟨⟨by omega, by omega⟩, ⟨by omega, by omega⟩, by unfold In64; omega, hi2, (), trivial⟩
theorem ev_eqC (l : List Cb) : Ev Tryd.prog 53 [.rsl 6 l.length (cbsF l), .rsl 6 l.length (cbsF l)] (.sc (.bool true)) := by
  refine ev_fn Tryd.func53 comp53 (show 2 ≤ Tryd.f53.ntmps by decide) ?_; unfold cf53 rf53; simp only [↓EVP0, EVQ0, EVQ1, EVQ2, EVQ3, EVQ4, EVA, EVK, EVF,EVFT, ↓reduceIte, Nat.reduceEqDiff, Nat.reduceAdd, Nat.reduceSub, Nat.reduceMul, Nat.reduceLT, Nat.reduceLeDiff, reduceCtorEq, Int.reduceToNat, Int.reduceLT, Int.reduceLE, Int.reduceAdd, Int.reduceSub, Int.reduceMul, Int.reduceNeg, Int.reduceEq, Nat.reduceMod, forall_eq_or_imp, forall_eq, forall_const, cond_true, cond_false, decide_true, decide_false, true_imp_iff, implies_true, Int.cast_ofNat_Int, forall_eq']
  intro hl _ _
  refine lwp_for (α := Unit) l.length (fun _ _ => True) (fun i _ => [(0, .rsl 6 l.length (cbsF l)), (1, .rsl 6 l.length (cbsF l)), (12, .sc (.int .i64 l.length)), (13, .sc (.int .i64 i))]) (fun _ _ => []) () trivial ?_ (fun _ _ => Nat.zero_le _) ?_
  · simp only [↓EVP0, EVQ0, EVQ1, EVQ2, EVQ3, EVQ4, EVA, EVK, EVF,EVFT, ↓reduceIte, Nat.reduceEqDiff, Nat.reduceAdd, Nat.reduceSub, Nat.reduceMul, Nat.reduceLT, Nat.reduceLeDiff, reduceCtorEq, Int.reduceToNat, Int.reduceLT, Int.reduceLE, Int.reduceAdd, Int.reduceSub, Int.reduceMul, Int.reduceNeg, Int.reduceEq, Nat.reduceMod, forall_eq_or_imp, forall_eq, forall_const, cond_true, cond_false, decide_true, decide_false, true_imp_iff, implies_true, Int.cast_ofNat_Int, forall_eq']
  intro i _ hi _
  unfold lb53_0
  simp only [↓EVP0, EVQ0, EVQ1, EVQ2, EVQ3, EVQ4, EVA, EVK, EVF,EVFT, ↓reduceIte, Nat.reduceEqDiff, Nat.reduceAdd, Nat.reduceSub, Nat.reduceMul, Nat.reduceLT, Nat.reduceLeDiff, reduceCtorEq, Int.reduceToNat, Int.reduceLT, Int.reduceLE, Int.reduceAdd, Int.reduceSub, Int.reduceMul, Int.reduceNeg, Int.reduceEq, Nat.reduceMod, forall_eq_or_imp, forall_eq, forall_const, cond_true, cond_false, decide_true, decide_false, true_imp_iff, implies_true, Int.cast_ofNat_Int, forall_eq']
  refine ⟨fun hg => ?_, fun _ => trivial⟩
  have hi2 : i < l.length := by have := of_decide_eq_true hg; omega
  exact ⟨⟨by omega, by omega⟩, ⟨by omega, by omega⟩, by unfold In64; omega, hi2, (), trivial⟩
theorem ev_same (p : Pl) : Ev Tryd.prog 31 [plV p, plV p] (.sc (.bool true)) := by
  have h1 := ev_eqN p.ns
  have h2 := ev_eqC p.cs
  unfold plV
  refine ev_fn Tryd.func31 comp31 (show 2 ≤ Tryd.f31.ntmps by decide) ?_; unfold cf31 rf31; simp only [↓EVP0, EVQ0, EVQ1, EVQ2, EVQ3, EVQ4, EVA, EVK, EVF,EVFT, ↓reduceIte, Nat.reduceEqDiff, Nat.reduceAdd, Nat.reduceSub, Nat.reduceMul, Nat.reduceLT, Nat.reduceLeDiff, reduceCtorEq, Int.reduceToNat, Int.reduceLT, Int.reduceLE, Int.reduceAdd, Int.reduceSub, Int.reduceMul, Int.reduceNeg, Int.reduceEq, Nat.reduceMod, forall_eq_or_imp, forall_eq, forall_const, cond_true, cond_false, decide_true, decide_false, true_imp_iff, implies_true, Int.cast_ofNat_Int, forall_eq']
  refine callK_ro (h1) ?_ ?_
  · simp only [↓EVP0, EVQ0, EVQ1, EVQ2, EVQ3, EVQ4, EVA, EVK, EVF,EVFT, ↓reduceIte, Nat.reduceEqDiff, Nat.reduceAdd, Nat.reduceSub, Nat.reduceMul, Nat.reduceLT, Nat.reduceLeDiff, reduceCtorEq, Int.reduceToNat, Int.reduceLT, Int.reduceLE, Int.reduceAdd, Int.reduceSub, Int.reduceMul, Int.reduceNeg, Int.reduceEq, Nat.reduceMod, forall_eq_or_imp, forall_eq, forall_const, cond_true, cond_false, decide_true, decide_false, true_imp_iff, implies_true, Int.cast_ofNat_Int, forall_eq']
  simp only [↓EVP0, EVQ0, EVQ1, EVQ2, EVQ3, EVQ4, EVA, EVK, EVF,EVFT, ↓reduceIte, Nat.reduceEqDiff, Nat.reduceAdd, Nat.reduceSub, Nat.reduceMul, Nat.reduceLT, Nat.reduceLeDiff, reduceCtorEq, Int.reduceToNat, Int.reduceLT, Int.reduceLE, Int.reduceAdd, Int.reduceSub, Int.reduceMul, Int.reduceNeg, Int.reduceEq, Nat.reduceMod, forall_eq_or_imp, forall_eq, forall_const, cond_true, cond_false, decide_true, decide_false, true_imp_iff, implies_true, Int.cast_ofNat_Int, forall_eq']
  (refine lops_ge_imp ?_; simp only [↓EVP0, EVQ0, EVQ1, EVQ2, EVQ3, EVQ4, EVA, EVK, EVF,EVFT, ↓reduceIte, Nat.reduceEqDiff, Nat.reduceAdd, Nat.reduceSub, Nat.reduceMul, Nat.reduceLT, Nat.reduceLeDiff, reduceCtorEq, Int.reduceToNat, Int.reduceLT, Int.reduceLE, Int.reduceAdd, Int.reduceSub, Int.reduceMul, Int.reduceNeg, Int.reduceEq, Nat.reduceMod, forall_eq_or_imp, forall_eq, forall_const, cond_true, cond_false, decide_true, decide_false, true_imp_iff, implies_true, Int.cast_ofNat_Int, forall_eq'])
  refine gCallK_ro _ (fun _ => h2) (fun _ => ?_) ?_
  · simp only [↓EVP0, EVQ0, EVQ1, EVQ2, EVQ3, EVQ4, EVA, EVK, EVF,EVFT, ↓reduceIte, Nat.reduceEqDiff, Nat.reduceAdd, Nat.reduceSub, Nat.reduceMul, Nat.reduceLT, Nat.reduceLeDiff, reduceCtorEq, Int.reduceToNat, Int.reduceLT, Int.reduceLE, Int.reduceAdd, Int.reduceSub, Int.reduceMul, Int.reduceNeg, Int.reduceEq, Nat.reduceMod, forall_eq_or_imp, forall_eq, forall_const, cond_true, cond_false, decide_true, decide_false, true_imp_iff, implies_true, Int.cast_ofNat_Int, forall_eq']
  simp only [↓EVP0, EVQ0, EVQ1, EVQ2, EVQ3, EVQ4, EVA, EVK, EVF,EVFT, ↓reduceIte, Nat.reduceEqDiff, Nat.reduceAdd, Nat.reduceSub, Nat.reduceMul, Nat.reduceLT, Nat.reduceLeDiff, reduceCtorEq, Int.reduceToNat, Int.reduceLT, Int.reduceLE, Int.reduceAdd, Int.reduceSub, Int.reduceMul, Int.reduceNeg, Int.reduceEq, Nat.reduceMod, forall_eq_or_imp, forall_eq, forall_const, cond_true, cond_false, decide_true, decide_false, true_imp_iff, implies_true, Int.cast_ofNat_Int, forall_eq']
end Go.Proofs.YtchpncmmlhfemaaDoor
namespace Go.Proofs.YtchpncmmlhfemaaDoor
set_option linter.unusedSimpArgs false
set_option linter.unusedVariables false
open Go.RowKit
set_option maxRecDepth 20000

end Go.Proofs.YtchpncmmlhfemaaDoor
namespace Go.Proofs.YtchpncmmlhfemaaDoor
set_option linter.unusedSimpArgs false
set_option linter.unusedVariables false
open Go.RowKit
set_option maxRecDepth 20000

theorem cut_true {c : UInt8} : ∀ {s : By}, (cutE c s).2.2 = true → s = (cutE c s).1 ++ c :: (cutE c s).2.1
  | [], h => by simp [cutE] at h
  | b :: r, h => by
    by_cases e : b = c
    · subst e
      have e2 : cutE b (b :: r) = ([], r, true) := if_pos rfl
      rw [e2]; rfl
    · have e2 : cutE c (b :: r) = (b :: (cutE c r).1, (cutE c r).2.1, (cutE c r).2.2) := if_neg e
      rw [e2] at h ⊢
      have := cut_true (s := r) h
      show b :: r = b :: ((cutE c r).1 ++ c :: (cutE c r).2.1)
      rw [← this]
theorem cut_free {c : UInt8} : ∀ {s : By}, ∀ x, x ∈ (cutE c s).1 → x ≠ c
  | [], x, h => by simp [cutE] at h
  | b :: r, x, h => by
    by_cases e : b = c
    · subst e
      have e2 : cutE b (b :: r) = ([], r, true) := if_pos rfl
      rw [e2] at h; simp at h
    · have e2 : cutE c (b :: r) = (b :: (cutE c r).1, (cutE c r).2.1, (cutE c r).2.2) := if_neg e
      rw [e2] at h
      rcases List.mem_cons.1 h with rfl | h
      · exact e
      · exact cut_free x h
theorem cut_false {c : UInt8} : ∀ {s : By}, (cutE c s).2.2 = false → (cutE c s).1 = s
  | [], _ => rfl
  | b :: r, h => by
    by_cases e : b = c
    · subst e
      have e2 : cutE b (b :: r) = ([], r, true) := if_pos rfl
      rw [e2] at h; simp at h
    · have e2 : cutE c (b :: r) = (b :: (cutE c r).1, (cutE c r).2.1, (cutE c r).2.2) := if_neg e
      rw [e2] at h ⊢
      have := cut_false (s := r) h
      show b :: (cutE c r).1 = b :: r
      rw [this]
theorem rdN_inv {ws : List By} (h : (rdN ws).2 = true) : ws = lnN (rdN ws).1 := by
  match ws, h with
  | [a, b, c], h =>
    by_cases e : a = wSw
    · have e2 : rdN [a, b, c] = (⟨strB b, true, ((nmE c).getD 0 : Nat)⟩, (nmE c).isSome && nameOk (strB b)) := if_pos e
      rw [e2] at h ⊢
      simp only [Bool.and_eq_true] at h
      cases hn : nmE c with
      | none => rw [hn] at h; simp at h
      | some u =>
        have := (nmE_inv hn).1
        show [a, b, c] = [wSw, (strB b).data.toList, Lib.decDigits ((u : Nat) : Int).toNat]
        rw [strB_data, Int.toNat_natCast, ← this, e]
    · have e2 : rdN [a, b, c] = (default, false) := if_neg e
      rw [e2] at h; simp at h
  | [a, b], h =>
    by_cases e : a = wEn
    · have e2 : rdN [a, b] = (⟨strB b, false, 1⟩, nameOk (strB b)) := if_pos e
      rw [e2]
      show [a, b] = [wEn, (strB b).data.toList]
      rw [strB_data, e]
    · have e2 : rdN [a, b] = (default, false) := if_neg e
      rw [e2] at h; simp at h
  | [], h => simp [rdN] at h
  | [_], h => simp [rdN] at h
  | _ :: _ :: _ :: _ :: _, h => simp [rdN] at h
def lnQ (q : Cb × By × By) : List By := [wCa, q.2.1, Lib.decDigits q.1.ap.toNat, q.2.2, Lib.decDigits q.1.bp.toNat, Lib.decDigits q.1.dl.toNat, Lib.decDigits q.1.cp.toNat]
theorem rdC_inv {ws : List By} {q : Cb × By × By} (h : rdC ws = some q) : ws = lnQ q := by
  by_cases hC : ws.length = 7 ∧ ws.getD 0 [] = wCa ∧ nameOk (strB (ws.getD 1 [])) = true ∧ nameOk (strB (ws.getD 3 [])) = true
  · obtain ⟨h7, hw, hb, hd⟩ := hC
    match ws, h7 with
    | [a, b, c, d, e, f, g], _ =>
      obtain rfl : a = wCa := hw
      cases h1 : nmE c with
      | none => rw [rdC7_none (.inl h1)] at h; simp at h
      | some x =>
        cases h2 : nmE e with
        | none => rw [rdC7_none (.inr (.inl h2))] at h; simp at h
        | some y =>
          cases h3 : nmE f with
          | none => rw [rdC7_none (.inr (.inr (.inl h3)))] at h; simp at h
          | some z =>
            cases h4 : nmE g with
            | none => rw [rdC7_none (.inr (.inr (.inr h4)))] at h; simp at h
            | some u =>
              rw [rdC7_some (b := b) (d := d) hb hd h1 h2 h3 h4] at h
              injection h with h
              subst h
              show [wCa, b, c, d, e, f, g] = [wCa, b, Lib.decDigits ((x : Nat) : Int).toNat, d, Lib.decDigits ((y : Nat) : Int).toNat, Lib.decDigits ((z : Nat) : Int).toNat, Lib.decDigits ((u : Nat) : Int).toNat]
              rw [Int.toNat_natCast, Int.toNat_natCast, Int.toNat_natCast, Int.toNat_natCast, ← (nmE_inv h1).1, ← (nmE_inv h2).1, ← (nmE_inv h3).1, ← (nmE_inv h4).1]
  · rw [rdC_no hC] at h; simp at h
def tN (l : List Nd) : By := (l.map fun n => jnW (lnN n) ++ [10]).flatten
def tQ (l : List (Cb × By × By)) : By := (l.map fun q => jnW (lnQ q) ++ [10]).flatten
theorem tN_cons (n : Nd) (l : List Nd) : tN (n :: l) = jnW (lnN n) ++ 10 :: tN l := by simp [tN]
theorem tQ_cons (q : Cb × By × By) (l : List (Cb × By × By)) : tQ (q :: l) = jnW (lnQ q) ++ 10 :: tQ l := by simp [tQ]
theorem rdL_text : ∀ (k : Nat) (s : By) (ns : List Nd) (cs : List Cb) (nm : List (By × By)) (i : Nat), s.length = k → 1 ≤ i → cs.length = nm.length → ∀ R, rdL s ns cs nm i = R → R.2.2.2 = 0 →
    ∃ (nx : List Nd) (qx : List (Cb × By × By)), R.1 = ns ++ nx ∧ R.2.1 = cs ++ qx.map (·.1) ∧ R.2.2.1 = nm ++ qx.map (·.2) ∧ s = tN nx ++ tQ qx ∧ (cs ≠ [] → nx = []) := by
  intro k
  induction k using Nat.strongRecOn with
  | ind k ih =>
    intro s ns cs nm i hk hi hl R hR h0
    rw [rdL] at hR
    by_cases he : s = []
    · rw [dif_pos he] at hR
      subst hR
      exact ⟨[], [], by simp, by simp, by simp, by rw [he]; rfl, fun _ => rfl⟩
    · rw [dif_neg he] at hR
      have hlt := cut_lt (c := 10) he
      have hct := cut_true (c := 10) (s := s)
      have hN := rdN_inv (ws := splE 32 (cutE 10 s).1)
      have hC := fun q => rdC_inv (ws := splE 32 (cutE 10 s).1) (q := q)
      have hj := jn_spl (cutE 10 s).1
      generalize cutE 10 s = c at *
      generalize splE 32 c.1 = ws at *
      split at hR
      · rename_i hc
        have hn1 := hN hc.2.1
        obtain ⟨nx, qx, e1, e2, e3, e4, e5⟩ := ih _ (by omega) c.2.1 _ _ _ (i + 1) rfl (by omega) hl R hR h0
        refine ⟨(rdN ws).1 :: nx, qx, by rw [e1]; simp, e2, e3, ?_, fun h => absurd hc.2.2 h⟩
        rw [hct hc.1, tN_cons, ← hn1, hj, e4]; simp
      · split at hR
        · rename_i hc
          cases hq : rdC ws with
          | none => rw [hq] at hR; subst hR; simp at h0; omega
          | some q =>
            rw [hq] at hR
            obtain ⟨nx, qx, e1, e2, e3, e4, e5⟩ := ih _ (by omega) c.2.1 _ _ _ (i + 1) rfl (by omega) (by simp [hl]) R hR h0
            have e6 : nx = [] := e5 (by simp)
            subst e6
            refine ⟨[], q :: qx, by rw [e1], by rw [e2]; simp, by rw [e3]; simp, ?_, fun _ => rfl⟩
            rw [hct hc, tQ_cons, ← hC q hq, hj, e4]; simp [tN]
        · subst hR; simp at h0; omega
theorem fdN_some : ∀ {ns : List Nd} {w : By} {i x : Nat}, fdN ns w i = some x → ∃ k, x = i + k ∧ (ns.getD k default).name = strB w
  | [], w, i, x, h => by simp [fdN] at h
  | n :: r, w, i, x, h => by
    by_cases e : n.name = strB w
    · have e2 : fdN (n :: r) w i = some i := if_pos e
      rw [e2] at h
      injection h with h
      exact ⟨0, by omega, e⟩
    · have e2 : fdN (n :: r) w i = fdN r w (i + 1) := if_neg e
      rw [e2] at h
      obtain ⟨k, h1, h2⟩ := fdN_some h
      exact ⟨k + 1, by omega, h2⟩
theorem rsC_inv {ns : List Nd} : ∀ (qx : List (Cb × By × By)) (i : Nat) (acc : List Cb) (T : List Cb × Nat), 1 ≤ i → rsC ns (qx.map (·.1)) (qx.map (·.2)) i acc = T → T.2 = 0 →
    ∃ cx : List Cb, T.1 = acc ++ cx ∧ cx.map (lnC ns) = qx.map lnQ
  | [], i, acc, T, _, h, _ => ⟨[], by rw [← h]; simp [rsC], rfl⟩
  | q :: qx, i, acc, T, hi, h, h0 => by
    change (match fdN ns q.2.1 0, fdN ns q.2.2 0 with
      | some x, some y => rsC ns (qx.map (·.1)) (qx.map (·.2)) (i + 1) (acc ++ [(⟨x, q.1.ap, y, q.1.bp, q.1.dl, q.1.cp⟩ : Cb)])
      | _, _ => ([], i)) = T at h
    cases f1 : fdN ns q.2.1 0 with
    | none => rw [f1] at h; simp only at h; rw [← h] at h0; simp only at h0; omega
    | some x =>
      cases f2 : fdN ns q.2.2 0 with
      | none => rw [f1, f2] at h; simp only at h; rw [← h] at h0; simp only at h0; omega
      | some y =>
        rw [f1, f2] at h
        simp only at h
        obtain ⟨cx, e1, e2⟩ := rsC_inv qx (i + 1) _ T (by omega) h h0
        obtain ⟨kx, hx, nx⟩ := fdN_some f1
        obtain ⟨ky, hy, ny⟩ := fdN_some f2
        refine ⟨⟨x, q.1.ap, y, q.1.bp, q.1.dl, q.1.cp⟩ :: cx, by rw [e1]; simp, ?_⟩
        rw [List.map_cons, List.map_cons, e2]
        congr 1
        show [wCa, (ns.getD (x : Int).toNat default).name.data.toList, _, (ns.getD (y : Int).toNat default).name.data.toList, _, _, _] = [wCa, q.2.1, _, q.2.2, _, _, _]
        rw [Int.toNat_natCast, Int.toNat_natCast, hx, hy, Nat.zero_add, Nat.zero_add, nx, ny, strB_data, strB_data]
theorem tQ_map {ns : List Nd} {cx : List Cb} {qx : List (Cb × By × By)} (h : cx.map (lnC ns) = qx.map lnQ) : (cx.map fun c => jnW (lnC ns c) ++ [10]).flatten = tQ qx := by
  unfold tQ
  have e1 : (cx.map fun c => jnW (lnC ns c) ++ [10]) = (cx.map (lnC ns)).map fun l => jnW l ++ [10] := by rw [List.map_map]; rfl
  have e2 : (qx.map fun q => jnW (lnQ q) ++ [10]) = (qx.map lnQ).map fun l => jnW l ++ [10] := by rw [List.map_map]; rfl
  rw [e1, e2, h]
theorem pr_text {s : By} (h : (prG s).2.2 = 0) : txG (prG s).1 = s ∧ (prG s).2.1 = 0 ∧ validE (prG s).1 = 0 := by
  unfold prG at h ⊢
  by_cases c1 : 65536 < s.length
  · rw [if_pos c1] at h; simp at h
  rw [if_neg c1] at h ⊢
  have hT := rdL_text s.length s [] [] [] 1 rfl (by omega) rfl
  generalize hR : rdL s [] [] [] 1 = R at *
  by_cases c2 : 0 < R.2.2.2
  · rw [if_pos c2] at h; simp at h
  rw [if_neg c2] at h ⊢
  obtain ⟨nx, qx, e1, e2, e3, e4, e5⟩ := hT R rfl (by omega)
  simp only [List.nil_append] at e1 e2 e3
  have hC := rsC_inv (ns := R.1) qx (R.1.length + 1) []
  rw [← e2, ← e3] at hC
  generalize rsC R.1 R.2.1 R.2.2.1 (R.1.length + 1) [] = T at *
  by_cases c3 : 0 < T.2
  · rw [if_pos c3] at h; simp at h
  rw [if_neg c3] at h ⊢
  by_cases c4 : validE ⟨R.1, T.1⟩ = 0
  · rw [if_pos c4] at h ⊢
    refine ⟨?_, rfl, c4⟩
    obtain ⟨cx, d1, d2⟩ := hC T (by omega) rfl (by omega)
    show (R.1.map fun n => jnW (lnN n) ++ [10]).flatten ++ (T.1.map fun c => jnW (lnC R.1 c) ++ [10]).flatten = s
    rw [d1, List.nil_append, tQ_map d2, e4, e1]; rfl
  · rw [if_neg c4] at h; exact absurd h c4
theorem pr_bad {s : By} (h : (prG s).2.2 ≠ 0) : (prG s).1 = ⟨[], []⟩ ∧ 0 ≤ (prG s).2.1 ∧ ((prG s).2.2 = 3 → (prG s).2.1 ≠ 0 → s.length ≤ 65536 ∧ 0 < (rdL s [] [] [] 1).2.2.2 ∧ (prG s).2.1 = ((rdL s [] [] [] 1).2.2.2 : Nat)) := by
  unfold prG at h ⊢
  by_cases c1 : 65536 < s.length
  · rw [if_pos c1]; exact ⟨rfl, Int.le_refl _, fun h => by simp at h⟩
  rw [if_neg c1] at h ⊢
  generalize rdL s [] [] [] 1 = R at *
  by_cases c2 : 0 < R.2.2.2
  · rw [if_pos c2]; exact ⟨rfl, Int.natCast_nonneg _, fun _ _ => ⟨by omega, c2, rfl⟩⟩
  rw [if_neg c2] at h ⊢
  generalize rsC R.1 R.2.1 R.2.2.1 (R.1.length + 1) [] = T at *
  by_cases c3 : 0 < T.2
  · rw [if_pos c3]; exact ⟨rfl, Int.natCast_nonneg _, fun h => by simp at h⟩
  rw [if_neg c3] at h ⊢
  by_cases c4 : validE ⟨R.1, T.1⟩ = 0
  · rw [if_pos c4] at h; exact absurd rfl h
  · rw [if_neg c4]; exact ⟨rfl, Int.le_refl _, fun _ h => absurd rfl h⟩
theorem pr_fail {s : By} (h1 : s.length ≤ 65536) (h2 : 0 < (rdL s [] [] [] 1).2.2.2) : prG s = ((⟨[], []⟩ : Pl), (((rdL s [] [] [] 1).2.2.2 : Nat) : Int), (3 : Int)) := by
  unfold prG
  rw [if_neg (by omega), if_pos h2]
def spN : By → List By
  | [] => [[]]
  | b :: r => if b = 10 then [10] :: spN r else match spN r with
    | [] => [[b]]
    | w :: ws => (b :: w) :: ws
theorem spN_cut : ∀ s : By, spN s = if (cutE 10 s).2.2 = true then ((cutE 10 s).1 ++ [10]) :: spN (cutE 10 s).2.1 else [s]
  | [] => rfl
  | b :: r => by
    by_cases h : b = 10
    · subst h
      have e : cutE 10 (10 :: r) = ([], r, true) := if_pos rfl
      have e2 : spN (10 :: r) = [10] :: spN r := if_pos rfl
      rw [e, e2]; rfl
    · have e : cutE 10 (b :: r) = (b :: (cutE 10 r).1, (cutE 10 r).2.1, (cutE 10 r).2.2) := if_neg h
      have e2 : spN (b :: r) = match spN r with
        | [] => [[b]]
        | w :: ws => (b :: w) :: ws := by
        show (if b = 10 then _ else _) = _
        rw [if_neg h]
      rw [e, e2, spN_cut r]
      by_cases q : (cutE 10 r).2.2 = true
      · rw [if_pos q, if_pos q]; rfl
      · rw [if_neg q, if_neg q]
theorem spN_head {s : By} (h : s ≠ []) : ∃ w ws, spN s = w :: ws ∧ w ≠ [] := by
  rw [spN_cut]
  by_cases q : (cutE 10 s).2.2 = true
  · rw [if_pos q]; exact ⟨_, _, rfl, by simp⟩
  · rw [if_neg q]; exact ⟨_, _, rfl, h⟩
theorem rdL_head (more : By) : ∀ (k : Nat) (s : By) (ns : List Nd) (cs : List Cb) (nm : List (By × By)) (i j : Nat), s.length = k → 1 ≤ i → (rdL s ns cs nm i).2.2.2 = j → 0 < j →
    ∃ m, j = i + m ∧ m + 1 ≤ (spN s).length ∧ (((spN s).take (m + 1)).flatten.getLast? = some 10 → (rdL (((spN s).take (m + 1)).flatten ++ more) ns cs nm i).2.2.2 = j) := by
  intro k
  induction k using Nat.strongRecOn with
  | ind k ih =>
    intro s ns cs nm i j hk hi hR hj
    by_cases he : s = []
    · subst he; rw [rdL_nil] at hR; simp at hR; omega
    have hR2 := hR
    rw [rdL, dif_neg he] at hR
    have hlt := cut_lt (c := 10) he
    have hcf : ∀ x, x ∈ (cutE 10 s).1 → x ≠ 10 := cut_free
    have hce : (cutE 10 s).2.2 = false → (cutE 10 s).1 = s := cut_false
    rw [spN_cut s]
    have hu : ∀ t : By, rdL ((cutE 10 s).1 ++ 10 :: t) ns cs nm i = if (rdN (splE 32 (cutE 10 s).1)).2 = true ∧ cs = [] then rdL t (ns ++ [(rdN (splE 32 (cutE 10 s).1)).1]) cs nm (i + 1)
        else match rdC (splE 32 (cutE 10 s).1) with
        | some q => rdL t ns (cs ++ [q.1]) (nm ++ [q.2]) (i + 1)
        | none => ([], [], [], i) := by
      intro t
      rw [rdL, dif_neg (by simp), cutS hcf]
      (simp only [true_and, if_true]) <;> (cases rdC (splE 32 (cutE 10 s).1) <;> rfl)
    generalize hc : cutE 10 s = c at *
    generalize splE 32 c.1 = ws at *
    by_cases q : c.2.2 = true
    · rw [if_pos q]
      have go : ∀ ns' cs' nm', (∀ t : By, rdL (c.1 ++ 10 :: t) ns cs nm i = rdL t ns' cs' nm' (i + 1)) → (rdL c.2.1 ns' cs' nm' (i + 1)).2.2.2 = j →
          ∃ m, j = i + m ∧ m + 1 ≤ (((c.1 ++ [10]) :: spN c.2.1).length) ∧ ((((c.1 ++ [10]) :: spN c.2.1).take (m + 1)).flatten.getLast? = some 10 → (rdL ((((c.1 ++ [10]) :: spN c.2.1).take (m + 1)).flatten ++ more) ns cs nm i).2.2.2 = j) := by
        intro ns' cs' nm' hu2 hr
        obtain ⟨m, h1, h2, h3⟩ := ih _ (by omega) c.2.1 ns' cs' nm' (i + 1) j rfl (by omega) hr hj
        have hne : c.2.1 ≠ [] := by
          intro e; rw [e, rdL_nil] at hr; simp at hr; omega
        refine ⟨m + 1, by omega, by simp only [List.length_cons]; omega, ?_⟩
        rw [List.take_succ_cons, List.flatten_cons]
        intro hl
        rw [List.append_assoc, List.append_assoc, List.singleton_append, hu2]
        refine h3 ?_
        obtain ⟨w, ws2, hw, hw2⟩ := spN_head hne
        rw [hw, List.take_succ_cons, List.flatten_cons] at hl ⊢
        rw [List.getLast?_append] at hl
        have : (w ++ (List.take m ws2).flatten).getLast?.isSome := by
          rw [List.getLast?_isSome]; simp [hw2]
        cases hg : (w ++ (List.take m ws2).flatten).getLast? with
        | none => rw [hg] at this; simp at this
        | some x => rw [hg] at hl; simpa using hl
      by_cases c1 : (rdN ws).2 = true ∧ cs = []
      · rw [if_pos ⟨q, c1.1, c1.2⟩] at hR
        exact go _ _ _ (fun t => by rw [hu t, if_pos c1]) hR
      · rw [if_neg (fun h => c1 h.2), if_pos q] at hR
        cases hq : rdC ws with
        | some x =>
          rw [hq] at hR
          exact go _ _ _ (fun t => by rw [hu t, if_neg c1, hq]) hR
        | none =>
          rw [hq] at hR
          simp only at hR
          refine ⟨0, by omega, by simp, fun _ => ?_⟩
          rw [List.take_succ_cons, List.take_zero, List.flatten_cons, List.flatten_nil, List.append_nil, List.append_assoc, List.singleton_append, hu, if_neg c1, hq]
          exact hR
    · rw [if_neg q]
      rw [if_neg (fun h => q h.1), if_neg q] at hR
      simp only at hR
      refine ⟨0, by omega, by simp, fun h => ?_⟩
      exfalso
      have h1 : ([s].take (0 + 1)).flatten = s := by simp
      rw [h1] at h
      have h2 : (10 : UInt8) ∈ s := List.mem_of_getLast? h
      rw [← hce (by simpa using q)] at h2
      exact hcf 10 h2 rfl
end Go.Proofs.YtchpncmmlhfemaaDoor
namespace Go.Proofs.YtchpncmmlhfemaaDoor
set_option linter.unusedSimpArgs false
set_option linter.unusedVariables false
open Go.RowKit
set_option maxRecDepth 20000

theorem ev_genSplitS (s sep : ByteArray) (hs : s.size < 4294967281) (h1 : 1 ≤ sep.size) : Ev Tryd.prog 54 [.sc (.string s), .sc (.string sep), .sc (.int .i64 (sep.size : Nat)), .sc (.int .i64 (-1))]
    (.rsl 1 (Lib.countB s sep + 1) (txsF (Lib.splitB sep sep.size (Lib.countB s sep) s))) := by
  rintro R w ⟨vs⟩ hR hgl hs2 ha
  match vs, hs2 with
  | [v, u, x, y], _ =>
    have h0 : v = .string s := sc_inv (ha 0 _ rfl)
    have h2 : u = .string sep := sc_inv (ha 1 _ rfl)
    have h3 : x = .int .i64 (sep.size : Nat) := sc_inv (ha 2 _ rfl)
    have h4 : y = .int .i64 (-1) := sc_inv (ha 3 _ rfl)
    subst h0; subst h2; subst h3; subst h4
    have hle := Lib.countB_le sep h1 s.size s (Nat.le_refl _)
    obtain ⟨m, hm⟩ := (hgl w hR).2
    refine (Tryd.strings_genSplit s sep sep.size (-1) (Lib.countB s sep + 1) m w hs hm h1 (Nat.le_refl _) (by decide) (by decide) (by rw [if_pos (by decide)]; omega)).mono ?_
    rintro e w' ⟨rfl, rfl⟩
    have hlen := Lib.splitB_all sep h1 sep.size (Lib.countB s sep) s rfl
    have hcf : Lib.cellsOf (Lib.splitB sep sep.size (Lib.countB s sep) s) (Lib.countB s sep + 1) = ((Lib.splitB sep sep.size (Lib.countB s sep) s).map Value.string).toArray := by rw [← hlen]; exact Lib.cellsOf_full _
    rw [Nat.add_sub_cancel, hcf]
    generalize Lib.splitB sep sep.size (Lib.countB s sep) s = xs at *
    generalize Lib.countB s sep = k at *
    rw [hlen]
    have hB : Below w.heap.size w (w.alloc (.cells (xs.map Value.string).toArray 9)) := by
      refine ⟨rfl, rfl, rfl, (by show w.heap.size ≤ (w.heap.push _).size; rw [Array.size_push]; omega), fun b hb => ?_⟩
      show (w.heap.push _)[b]? = _
      rw [Array.getElem?_push_lt hb, Array.getElem?_eq_getElem hb]
    have hnew : (w.alloc (.cells (xs.map Value.string).toArray 9)).heap[w.heap.size]? = some (.cells (xs.map Value.string).toArray 9 (0, 0)) := by
      show (w.heap.push _)[w.heap.size]? = _
      rw [Array.getElem?_push_size]
    refine ⟨_, fun b => if b = w.heap.size then some (.cells (xs.map Value.string).toArray 9 (0, 0)) else R b, rfl, fun b o hb => ?_, fun b hb => if_neg (by omega), fun b o hb => ?_, hB, ?_⟩
    · show (if b = w.heap.size then _ else R b) = some o
      rw [if_neg (by have := ro_lt hR hb; omega)]; exact hb
    · by_cases e : b = w.heap.size
      · subst e
        have hb2 := (if_pos rfl).symm.trans hb
        rw [hnew, hb2]
      · have hb := (if_neg e).symm.trans hb
        rw [hB.block b (ro_lt hR hb)]; exact hR b o hb
    · refine .rsl _ _ _ _ _ w.heap.size 0 (fun i _ => .string (xs.getD i ⟨#[]⟩)) (Nat.le_refl _) (by unfold maxLen; omega) (fun _ => rfl) (fun _ _ => rfl) (fun i j hi hj => ?_) (fun i j c hi hc => ?_) (fun _ _ _ _ => rfl)
      · obtain rfl : j = 0 := by omega
        unfold roCell
        simp only [if_true]
        rw [Nat.zero_add, Nat.mul_one, Nat.add_zero]
        simp only [List.getElem?_toArray, List.getElem?_map]
        rw [List.getElem?_eq_getElem (by omega), List.getD_eq_getElem?_getD, List.getElem?_eq_getElem (by omega)]; rfl
      · match j, hc with
        | 0, hc => simp [txsF] at hc; subst hc; exact .sc _ rfl
        | j + 1, hc => simp [txsF] at hc
theorem lib_splitN : ∀ (k : Nat) (s : ByteArray), Lib.countB s (strB [10]) = k → Lib.splitB (strB [10]) 1 k s = (spN s.data.toList).map strB := by
  intro k
  induction k with
  | zero =>
    intro s hk
    have h0 : (cutE 10 s.data.toList).2.2 = false := by
      rcases idx_cut 10 s.data.toList with ⟨h1, _⟩ | ⟨i, h1, h2, h3, _⟩
      · exact h1
      · have := Lib.countB_hit s (strB [10]) i (by rw [strB_size]; simp) (by unfold Lib.indexB; rw [strB_data]; exact h2)
        omega
    rw [spN_cut, h0]
    show [s] = _
    simp only [Bool.false_eq_true, if_false, List.map_cons, List.map_nil]
    rw [strB_of]
  | succ k ih =>
    intro s hk
    rcases idx_cut 10 s.data.toList with ⟨h1, h2, _⟩ | ⟨i, h1, h2, h3, h4, h5⟩
    · have := Lib.countB_miss s (strB [10]) (by unfold Lib.indexB; rw [strB_data]; exact h2)
      omega
    · have hi : Lib.indexB s (strB [10]) = i := by unfold Lib.indexB; rw [strB_data]; exact h2
      have hc := Lib.countB_hit s (strB [10]) i (by rw [strB_size]; simp) hi
      have hsz : (strB [10]).size = 1 := by rw [strB_size]; rfl
      have hx : (s.extract (i + (strB [10]).size) s.size).data.toList = s.data.toList.drop (i + 1) := by
        rw [Lib.extract_data, hsz]
        apply List.take_of_length_le
        rw [List.length_drop, Array.length_toList]
        exact Nat.le_refl _
      have hy : s.extract 0 (i + 1) = strB (s.data.toList.take (i + 1)) := by
        rw [← strB_of (s.extract 0 (i + 1)), Lib.extract_data]; rfl
      have hz : s.data.toList.take (i + 1) = s.data.toList.take i ++ [10] := by
        have e := cut_true h1
        rw [h4, h5] at e
        conv => lhs; rw [e]
        rw [List.take_append, List.length_take, Nat.min_eq_left (by omega), List.take_of_length_le (by rw [List.length_take]; omega), Nat.add_sub_cancel_left]
        rfl
      rw [Lib.splitB_hit _ _ _ _ i hi, ih _ (by omega), hx, hy, hz, spN_cut s.data.toList, h1, if_pos rfl, List.map_cons, h4, h5]
theorem ev_genSplit (l : By) (hs : l.length < 4294967281) : Ev Tryd.prog 54 [.sc (.string (strB l)), .sc (.string (strB [10])), .sc (.int .i64 1), .sc (.int .i64 (-1))] (wsV (spN l)) := by
  have h := ev_genSplitS (strB l) (strB [10]) (by rw [strB_size]; exact hs) (by rw [strB_size]; simp)
  have hsz : (strB [10]).size = 1 := by rw [strB_size]; rfl
  rw [hsz] at h
  have h2 := lib_splitN _ (strB l) rfl
  have h3 := Lib.splitB_all (strB [10]) (by rw [hsz]; exact Nat.le_refl _) 1 _ (strB l) rfl
  rw [h2] at h h3
  rw [strB_data] at h h3
  rw [List.length_map] at h3
  rw [← h3] at h
  exact h
theorem ev_splitAfter (l : By) (hs : l.length < 4294967281) : Ev Tryd.prog 32 [.sc (.string (strB l)), .sc (.string (strB [10]))] (wsV (spN l)) := by
  have h1 := ev_genSplit l hs
  have hsz : (strB [10]).size = 1 := by rw [strB_size]; rfl
  unfold wsV at *
  refine ev_fn Tryd.func32 comp32 (show 2 ≤ Tryd.f32.ntmps by decide) ?_; unfold cf32 rf32; simp only [↓EVP0, EVQ0, EVQ1, EVQ2, EVQ3, EVQ4, EVA, EVK, EVF,EVFT, ↓reduceIte, Nat.reduceEqDiff, Nat.reduceAdd, Nat.reduceSub, Nat.reduceMul, Nat.reduceLT, Nat.reduceLeDiff, reduceCtorEq, Int.reduceToNat, Int.reduceLT, Int.reduceLE, Int.reduceAdd, Int.reduceSub, Int.reduceMul, Int.reduceNeg, Int.reduceEq, Nat.reduceMod, forall_eq_or_imp, forall_eq, forall_const, cond_true, cond_false, decide_true, decide_false, true_imp_iff, implies_true, Int.cast_ofNat_Int, forall_eq']
  rw [hsz]
  refine callK_ro (h1) ?_ ?_
  · simp only [↓EVP0, EVQ0, EVQ1, EVQ2, EVQ3, EVQ4, EVA, EVK, EVF,EVFT, ↓reduceIte, Nat.reduceEqDiff, Nat.reduceAdd, Nat.reduceSub, Nat.reduceMul, Nat.reduceLT, Nat.reduceLeDiff, reduceCtorEq, Int.reduceToNat, Int.reduceLT, Int.reduceLE, Int.reduceAdd, Int.reduceSub, Int.reduceMul, Int.reduceNeg, Int.reduceEq, Nat.reduceMod, forall_eq_or_imp, forall_eq, forall_const, cond_true, cond_false, decide_true, decide_false, true_imp_iff, implies_true, Int.cast_ofNat_Int, forall_eq']
  simp only [↓EVP0, EVQ0, EVQ1, EVQ2, EVQ3, EVQ4, EVA, EVK, EVF,EVFT, ↓reduceIte, Nat.reduceEqDiff, Nat.reduceAdd, Nat.reduceSub, Nat.reduceMul, Nat.reduceLT, Nat.reduceLeDiff, reduceCtorEq, Int.reduceToNat, Int.reduceLT, Int.reduceLE, Int.reduceAdd, Int.reduceSub, Int.reduceMul, Int.reduceNeg, Int.reduceEq, Nat.reduceMod, forall_eq_or_imp, forall_eq, forall_const, cond_true, cond_false, decide_true, decide_false, true_imp_iff, implies_true, Int.cast_ofNat_Int, forall_eq']
end Go.Proofs.YtchpncmmlhfemaaDoor
namespace Go.Proofs.YtchpncmmlhfemaaDoor
set_option linter.unusedSimpArgs false
set_option linter.unusedVariables false
open Go.RowKit
set_option maxRecDepth 20000

theorem arg_str {lv : LV} (h : fitA Tryd.prog 9 lv) : ∃ s : ByteArray, lv = .sc (.string s) ∧ s.size ≤ maxLen := by
  have h0 := arg_cell (by kernel_rfl) h
  obtain ⟨s, h1, h2⟩ := fit_str Tryd.underlying9 h0
  simp only [List.cons.injEq, and_true] at h1
  exact ⟨s, h1, h2⟩
theorem last_ten (l : By) (h : 1 ≤ l.length) : ((strB l).extract (l.length - 1) l.length = strB [10]) ↔ l.getLast? = some 10 := by
  have e : (strB l).extract (l.length - 1) l.length = strB (l.drop (l.length - 1)) := by
    rw [← strB_of ((strB l).extract (l.length - 1) l.length), Lib.extract_data, strB_data, List.take_of_length_le (by rw [List.length_drop]; exact Nat.le_refl _)]
  have hne : l ≠ [] := by intro e; subst e; simp at h
  rw [e]
  obtain ⟨v, c, rfl⟩ : ∃ v c, l = v ++ [c] := ⟨l.dropLast, l.getLast hne, (List.dropLast_concat_getLast hne).symm⟩
  rw [List.length_append, List.length_singleton, Nat.add_sub_cancel, List.drop_left, List.getLast?_append]
  constructor
  · intro h2; have := strB_inj h2; simpa using this
  · intro h2; have h2 : c = 10 := by simpa using h2
    rw [h2]
theorem ev_hasSufL (l : By) (hb : l.length ≤ 100000) : Ev Tryd.prog 56 [.sc (.string (strB l)), .sc (.string (strB [10]))] (.sc (.bool (decide (l.getLast? = some 10)))) := by
  have hsz : (strB [10]).size = 1 := by rw [strB_size]; rfl
  have hl := strB_size l
  refine ev_fn Tryd.func56 comp56 (show 2 ≤ Tryd.f56.ntmps by decide) ?_; unfold cf56 rf56; simp only [↓EVP0, EVQ0, EVQ1, EVQ2, EVQ3, EVQ4, EVA, EVK, EVF,EVFT, ↓reduceIte, Nat.reduceEqDiff, Nat.reduceAdd, Nat.reduceSub, Nat.reduceMul, Nat.reduceLT, Nat.reduceLeDiff, reduceCtorEq, Int.reduceToNat, Int.reduceLT, Int.reduceLE, Int.reduceAdd, Int.reduceSub, Int.reduceMul, Int.reduceNeg, Int.reduceEq, Nat.reduceMod, forall_eq_or_imp, forall_eq, forall_const, cond_true, cond_false, decide_true, decide_false, true_imp_iff, implies_true, Int.cast_ofNat_Int, forall_eq']
  rw [hsz, hl]
  refine ⟨fun h => ?_, fun h => ?_, ?_⟩
  · have := of_decide_eq_true h
    unfold In64; omega
  · have := of_decide_eq_true h
    omega
  by_cases h : 1 ≤ l.length
  · have h2 : decide (((1 : Nat) : Int) ≤ (l.length : Int)) = true := decide_eq_true (by omega)
    rw [h2, cond_true, show ((l.length : Int) - ((1 : Nat) : Int)).toNat = l.length - 1 by omega]
    exact decide_eq_decide.2 (last_ten l h)
  · have h2 : decide (((1 : Nat) : Int) ≤ (l.length : Int)) = false := decide_eq_false (by omega)
    obtain rfl : l = [] := List.length_eq_zero_iff.1 (by omega)
    rw [h2, cond_false]; rfl
theorem ev_hasSuf (l : By) (hb : l.length ≤ 100000) : Ev Tryd.prog 34 [.sc (.string (strB l)), .sc (.string (strB [10]))] (.sc (.bool (decide (l.getLast? = some 10)))) := by
  have h1 := ev_hasSufL l hb
  refine ev_fn Tryd.func34 comp34 (show 2 ≤ Tryd.f34.ntmps by decide) ?_; unfold cf34 rf34; simp only [↓EVP0, EVQ0, EVQ1, EVQ2, EVQ3, EVQ4, EVA, EVK, EVF,EVFT, ↓reduceIte, Nat.reduceEqDiff, Nat.reduceAdd, Nat.reduceSub, Nat.reduceMul, Nat.reduceLT, Nat.reduceLeDiff, reduceCtorEq, Int.reduceToNat, Int.reduceLT, Int.reduceLE, Int.reduceAdd, Int.reduceSub, Int.reduceMul, Int.reduceNeg, Int.reduceEq, Nat.reduceMod, forall_eq_or_imp, forall_eq, forall_const, cond_true, cond_false, decide_true, decide_false, true_imp_iff, implies_true, Int.cast_ofNat_Int, forall_eq']
  refine callK_ro (h1) ?_ ?_
  · simp only [↓EVP0, EVQ0, EVQ1, EVQ2, EVQ3, EVQ4, EVA, EVK, EVF,EVFT, ↓reduceIte, Nat.reduceEqDiff, Nat.reduceAdd, Nat.reduceSub, Nat.reduceMul, Nat.reduceLT, Nat.reduceLeDiff, reduceCtorEq, Int.reduceToNat, Int.reduceLT, Int.reduceLE, Int.reduceAdd, Int.reduceSub, Int.reduceMul, Int.reduceNeg, Int.reduceEq, Nat.reduceMod, forall_eq_or_imp, forall_eq, forall_const, cond_true, cond_false, decide_true, decide_false, true_imp_iff, implies_true, Int.cast_ofNat_Int, forall_eq']
  simp only [↓EVP0, EVQ0, EVQ1, EVQ2, EVQ3, EVQ4, EVA, EVK, EVF,EVFT, ↓reduceIte, Nat.reduceEqDiff, Nat.reduceAdd, Nat.reduceSub, Nat.reduceMul, Nat.reduceLT, Nat.reduceLeDiff, reduceCtorEq, Int.reduceToNat, Int.reduceLT, Int.reduceLE, Int.reduceAdd, Int.reduceSub, Int.reduceMul, Int.reduceNeg, Int.reduceEq, Nat.reduceMod, forall_eq_or_imp, forall_eq, forall_const, cond_true, cond_false, decide_true, decide_false, true_imp_iff, implies_true, Int.cast_ofNat_Int, forall_eq']
theorem inter_nil : ∀ xs : List By, List.intercalate [] xs = xs.flatten
  | [] => rfl
  | [a] => by simp [List.intercalate]
  | a :: b :: r => by
    have := inter_nil (b :: r)
    simp only [List.intercalate, List.intersperse, List.flatten_cons, List.nil_append] at this ⊢
    rw [this]
theorem ev_join0 (ws : List By) (h1 : ws.length ≤ 100000) (h2 : ws.flatten.length ≤ 100000) : Ev Tryd.prog 33 [wsV ws, .sc (.string ⟨#[]⟩)] (.sc (.string (strB ws.flatten))) := by
  have e : (ws.map strB).map (fun b => b.data.toList) = ws := by
    rw [List.map_map]
    conv => rhs; rw [← List.map_id ws]
    exact List.map_congr_left fun x _ => strB_data x
  have e2 : Lib.join ((ws.map strB).map (·.data.toList)) (⟨#[]⟩ : ByteArray).data.toList = ws.flatten := by
    rw [e]; exact inter_nil ws
  have h := ev_join (ws.map strB) ⟨#[]⟩ (by rw [List.length_map]; omega) (by rw [e2]; omega)
  rw [e2] at h
  unfold txsV at h
  rw [List.length_map] at h
  exact h
theorem ev_join1 (l : List By) (k : Nat) (hk : k ≤ l.length) (h1 : l.length ≤ 100000) (h2 : (l.take k).flatten.length ≤ 100000) : Ev Tryd.prog 33 [.rsl 1 k (fun i => [.sc (.string ((l.map strB).getD i ⟨#[]⟩))]), .sc (.string ⟨#[]⟩)] (.sc (.string (strB (l.take k).flatten))) := by
  have h := ev_join0 (l.take k) (by rw [List.length_take]; omega) h2
  have e : (l.take k).length = k := by rw [List.length_take]; omega
  unfold wsV at h
  rw [e] at h
  refine ev_im (bs := [.rsl 1 k (txsF ((l.take k).map strB)), .sc (.string ⟨#[]⟩)]) ⟨Im.rsl fun i hi => ?_, Im.refl _, trivial⟩ h
  show _ = [LV.sc (.string (((l.take k).map strB).getD i ⟨#[]⟩))]
  rw [List.getD_eq_getElem?_getD, List.getD_eq_getElem?_getD, List.getElem?_map, List.getElem?_map, List.getElem?_take_of_lt hi]
theorem spN_flat : ∀ s : By, (spN s).flatten = s
  | [] => rfl
  | b :: r => by
    have ih := spN_flat r
    by_cases h : b = 10
    · subst h
      have e2 : spN (10 :: r) = [10] :: spN r := if_pos rfl
      rw [e2, List.flatten_cons, ih]; rfl
    · have e2 : spN (b :: r) = match spN r with
        | [] => [[b]]
        | w :: ws => (b :: w) :: ws := if_neg h
      rw [e2]
      cases hr : spN r with
      | nil => rw [hr] at ih; rw [← ih]; rfl
      | cons w ws => rw [hr] at ih; show (b :: w) ++ ws.flatten = _; rw [← ih]; rfl
theorem spN_len (s : By) : (spN s).length ≤ s.length + 1 := by
  induction s with
  | nil => exact Nat.le_refl _
  | cons b r ih =>
    by_cases h : b = 10
    · subst h
      have e2 : spN (10 :: r) = [10] :: spN r := if_pos rfl
      rw [e2]; simp only [List.length_cons]; omega
    · have e2 : spN (b :: r) = match spN r with
        | [] => [[b]]
        | w :: ws => (b :: w) :: ws := if_neg h
      rw [e2]
      cases hr : spN r with
      | nil => simp
      | cons w ws => rw [hr] at ih; simp only [List.length_cons] at ih ⊢; omega
theorem take_flat_le (l : List By) (k : Nat) : (l.take k).flatten.length ≤ l.flatten.length := by
  conv => rhs; rw [← List.take_append_drop k l, List.flatten_append, List.length_append]
  omega
theorem plOk_v {p : Pl} (h : validE p = 0) : PlOk p := by
  have hv := vfG h
  refine ⟨fun n hn => ?_, fun c hc => ?_⟩
  · have h1 := nodeG (hv.nod n hn)
    have h2 := h1.1
    unfold nameOk at h2
    simp only [Bool.and_eq_true, decide_eq_true_eq] at h2
    exact ⟨by omega, by unfold In64; omega⟩
  · have h1 := cabG hv hc
    have := hv.n16
    obtain ⟨a1, a2⟩ := h1.a
    obtain ⟨b1, b2⟩ := h1.b
    obtain ⟨c1, c2⟩ := h1.ap
    obtain ⟨d1, d2⟩ := h1.bp
    obtain ⟨e1, e2⟩ := h1.dl
    obtain ⟨f1, f2⟩ := h1.cp
    unfold In64
    refine ⟨⟨by omega, by omega⟩, ⟨by omega, by omega⟩, ⟨by omega, by omega⟩, ⟨by omega, by omega⟩, ⟨by omega, by omega⟩, by omega, by omega⟩
theorem ev_lawAgain (s more : By) : Ev Tryd.prog 10 [.sc (.string (strB s)), .sc (.string (strB more))] (.sc (.bool true)) := by
  have h1 := ev_awake14
  have hs := strB_size s
  have hm := strB_size more
  by_cases hb : 2000 < s.length ∨ 2000 < more.length
  · refine ev_fn Tryd.func10 comp10 (show 2 ≤ Tryd.f10.ntmps by decide) ?_; unfold cf10 rf10; simp only [↓EVP0, EVQ0, EVQ1, EVQ2, EVQ3, EVQ4, EVA, EVK, EVF,EVFT, ↓reduceIte, Nat.reduceEqDiff, Nat.reduceAdd, Nat.reduceSub, Nat.reduceMul, Nat.reduceLT, Nat.reduceLeDiff, reduceCtorEq, Int.reduceToNat, Int.reduceLT, Int.reduceLE, Int.reduceAdd, Int.reduceSub, Int.reduceMul, Int.reduceNeg, Int.reduceEq, Nat.reduceMod, forall_eq_or_imp, forall_eq, forall_const, cond_true, cond_false, decide_true, decide_false, true_imp_iff, implies_true, Int.cast_ofNat_Int, forall_eq']
    refine callK_ro (h1) ?_ ?_
    · simp only [↓EVP0, EVQ0, EVQ1, EVQ2, EVQ3, EVQ4, EVA, EVK, EVF,EVFT, ↓reduceIte, Nat.reduceEqDiff, Nat.reduceAdd, Nat.reduceSub, Nat.reduceMul, Nat.reduceLT, Nat.reduceLeDiff, reduceCtorEq, Int.reduceToNat, Int.reduceLT, Int.reduceLE, Int.reduceAdd, Int.reduceSub, Int.reduceMul, Int.reduceNeg, Int.reduceEq, Nat.reduceMod, forall_eq_or_imp, forall_eq, forall_const, cond_true, cond_false, decide_true, decide_false, true_imp_iff, implies_true, Int.cast_ofNat_Int, forall_eq']
    simp only [↓EVP0, EVQ0, EVQ1, EVQ2, EVQ3, EVQ4, EVA, EVK, EVF,EVFT, ↓reduceIte, Nat.reduceEqDiff, Nat.reduceAdd, Nat.reduceSub, Nat.reduceMul, Nat.reduceLT, Nat.reduceLeDiff, reduceCtorEq, Int.reduceToNat, Int.reduceLT, Int.reduceLE, Int.reduceAdd, Int.reduceSub, Int.reduceMul, Int.reduceNeg, Int.reduceEq, Nat.reduceMod, forall_eq_or_imp, forall_eq, forall_const, cond_true, cond_false, decide_true, decide_false, true_imp_iff, implies_true, Int.cast_ofNat_Int, forall_eq']
    rw [hs, hm]
    refine ⟨fun _ => trivial, fun h => ?_⟩
    exfalso
    simp at h; omega
  · have h2 := ev_parseG s (by omega)
    by_cases h0 : (prG s).2.2 = 0
    · obtain ⟨e1, e2, e3⟩ := pr_text h0
      have hp := plOk_v e3
      generalize hG : prG s = G at *
      obtain ⟨p, line, e⟩ := G
      simp only at e1 e2 e3 h0 hp h2
      subst h0; subst e2
      have h3 := ev_format p hp (fun x hx _ => by
        have := ev_itoaA x (by unfold In64; omega)
        rw [itP hx.1] at this
        exact this)
      rw [fmt_txG e3, e1] at h3
      have h4 := ev_valid p hp
      rw [e3] at h4
      unfold plV at *
      refine ev_fn Tryd.func10 comp10 (show 2 ≤ Tryd.f10.ntmps by decide) ?_; unfold cf10 rf10; simp only [↓EVP0, EVQ0, EVQ1, EVQ2, EVQ3, EVQ4, EVA, EVK, EVF,EVFT, ↓reduceIte, Nat.reduceEqDiff, Nat.reduceAdd, Nat.reduceSub, Nat.reduceMul, Nat.reduceLT, Nat.reduceLeDiff, reduceCtorEq, Int.reduceToNat, Int.reduceLT, Int.reduceLE, Int.reduceAdd, Int.reduceSub, Int.reduceMul, Int.reduceNeg, Int.reduceEq, Nat.reduceMod, forall_eq_or_imp, forall_eq, forall_const, cond_true, cond_false, decide_true, decide_false, true_imp_iff, implies_true, Int.cast_ofNat_Int, forall_eq']
      refine callK_ro (h1) ?_ ?_
      · simp only [↓EVP0, EVQ0, EVQ1, EVQ2, EVQ3, EVQ4, EVA, EVK, EVF,EVFT, ↓reduceIte, Nat.reduceEqDiff, Nat.reduceAdd, Nat.reduceSub, Nat.reduceMul, Nat.reduceLT, Nat.reduceLeDiff, reduceCtorEq, Int.reduceToNat, Int.reduceLT, Int.reduceLE, Int.reduceAdd, Int.reduceSub, Int.reduceMul, Int.reduceNeg, Int.reduceEq, Nat.reduceMod, forall_eq_or_imp, forall_eq, forall_const, cond_true, cond_false, decide_true, decide_false, true_imp_iff, implies_true, Int.cast_ofNat_Int, forall_eq']
      simp only [↓EVP0, EVQ0, EVQ1, EVQ2, EVQ3, EVQ4, EVA, EVK, EVF,EVFT, ↓reduceIte, Nat.reduceEqDiff, Nat.reduceAdd, Nat.reduceSub, Nat.reduceMul, Nat.reduceLT, Nat.reduceLeDiff, reduceCtorEq, Int.reduceToNat, Int.reduceLT, Int.reduceLE, Int.reduceAdd, Int.reduceSub, Int.reduceMul, Int.reduceNeg, Int.reduceEq, Nat.reduceMod, forall_eq_or_imp, forall_eq, forall_const, cond_true, cond_false, decide_true, decide_false, true_imp_iff, implies_true, Int.cast_ofNat_Int, forall_eq']
      rw [hs, hm]
      refine ⟨fun _ => trivial, fun _ => ?_⟩
      refine callK_ro (h2) ?_ ?_
      · simp only [↓EVP0, EVQ0, EVQ1, EVQ2, EVQ3, EVQ4, EVA, EVK, EVF,EVFT, ↓reduceIte, Nat.reduceEqDiff, Nat.reduceAdd, Nat.reduceSub, Nat.reduceMul, Nat.reduceLT, Nat.reduceLeDiff, reduceCtorEq, Int.reduceToNat, Int.reduceLT, Int.reduceLE, Int.reduceAdd, Int.reduceSub, Int.reduceMul, Int.reduceNeg, Int.reduceEq, Nat.reduceMod, forall_eq_or_imp, forall_eq, forall_const, cond_true, cond_false, decide_true, decide_false, true_imp_iff, implies_true, Int.cast_ofNat_Int, forall_eq']
      simp only [↓EVP0, EVQ0, EVQ1, EVQ2, EVQ3, EVQ4, EVA, EVK, EVF,EVFT, ↓reduceIte, Nat.reduceEqDiff, Nat.reduceAdd, Nat.reduceSub, Nat.reduceMul, Nat.reduceLT, Nat.reduceLeDiff, reduceCtorEq, Int.reduceToNat, Int.reduceLT, Int.reduceLE, Int.reduceAdd, Int.reduceSub, Int.reduceMul, Int.reduceNeg, Int.reduceEq, Nat.reduceMod, forall_eq_or_imp, forall_eq, forall_const, cond_true, cond_false, decide_true, decide_false, true_imp_iff, implies_true, Int.cast_ofNat_Int, forall_eq']
      refine callK_ro (h3) ?_ ?_
      · simp only [↓EVP0, EVQ0, EVQ1, EVQ2, EVQ3, EVQ4, EVA, EVK, EVF,EVFT, ↓reduceIte, Nat.reduceEqDiff, Nat.reduceAdd, Nat.reduceSub, Nat.reduceMul, Nat.reduceLT, Nat.reduceLeDiff, reduceCtorEq, Int.reduceToNat, Int.reduceLT, Int.reduceLE, Int.reduceAdd, Int.reduceSub, Int.reduceMul, Int.reduceNeg, Int.reduceEq, Nat.reduceMod, forall_eq_or_imp, forall_eq, forall_const, cond_true, cond_false, decide_true, decide_false, true_imp_iff, implies_true, Int.cast_ofNat_Int, forall_eq']
      simp only [↓EVP0, EVQ0, EVQ1, EVQ2, EVQ3, EVQ4, EVA, EVK, EVF,EVFT, ↓reduceIte, Nat.reduceEqDiff, Nat.reduceAdd, Nat.reduceSub, Nat.reduceMul, Nat.reduceLT, Nat.reduceLeDiff, reduceCtorEq, Int.reduceToNat, Int.reduceLT, Int.reduceLE, Int.reduceAdd, Int.reduceSub, Int.reduceMul, Int.reduceNeg, Int.reduceEq, Nat.reduceMod, forall_eq_or_imp, forall_eq, forall_const, cond_true, cond_false, decide_true, decide_false, true_imp_iff, implies_true, Int.cast_ofNat_Int, forall_eq']
      (refine lops_ge_imp ?_; simp only [↓EVP0, EVQ0, EVQ1, EVQ2, EVQ3, EVQ4, EVA, EVK, EVF,EVFT, ↓reduceIte, Nat.reduceEqDiff, Nat.reduceAdd, Nat.reduceSub, Nat.reduceMul, Nat.reduceLT, Nat.reduceLeDiff, reduceCtorEq, Int.reduceToNat, Int.reduceLT, Int.reduceLE, Int.reduceAdd, Int.reduceSub, Int.reduceMul, Int.reduceNeg, Int.reduceEq, Nat.reduceMod, forall_eq_or_imp, forall_eq, forall_const, cond_true, cond_false, decide_true, decide_false, true_imp_iff, implies_true, Int.cast_ofNat_Int, forall_eq'])
      refine gCallK_ro _ (fun _ => h4) (fun _ => ?_) ?_
      · simp only [↓EVP0, EVQ0, EVQ1, EVQ2, EVQ3, EVQ4, EVA, EVK, EVF,EVFT, ↓reduceIte, Nat.reduceEqDiff, Nat.reduceAdd, Nat.reduceSub, Nat.reduceMul, Nat.reduceLT, Nat.reduceLeDiff, reduceCtorEq, Int.reduceToNat, Int.reduceLT, Int.reduceLE, Int.reduceAdd, Int.reduceSub, Int.reduceMul, Int.reduceNeg, Int.reduceEq, Nat.reduceMod, forall_eq_or_imp, forall_eq, forall_const, cond_true, cond_false, decide_true, decide_false, true_imp_iff, implies_true, Int.cast_ofNat_Int, forall_eq']
      simp only [↓EVP0, EVQ0, EVQ1, EVQ2, EVQ3, EVQ4, EVA, EVK, EVF,EVFT, ↓reduceIte, Nat.reduceEqDiff, Nat.reduceAdd, Nat.reduceSub, Nat.reduceMul, Nat.reduceLT, Nat.reduceLeDiff, reduceCtorEq, Int.reduceToNat, Int.reduceLT, Int.reduceLE, Int.reduceAdd, Int.reduceSub, Int.reduceMul, Int.reduceNeg, Int.reduceEq, Nat.reduceMod, forall_eq_or_imp, forall_eq, forall_const, cond_true, cond_false, decide_true, decide_false, true_imp_iff, implies_true, Int.cast_ofNat_Int, forall_eq']
    · obtain ⟨e1, e2, e3⟩ := pr_bad h0
      generalize hG : prG s = G at *
      obtain ⟨p, line, e⟩ := G
      simp only at e1 e2 e3 h0 h2
      subst e1
      have h5 := ev_same ⟨[], []⟩
      have h6 := ev_splitAfter s (by omega)
      unfold plV wsV at *
      refine ev_fn Tryd.func10 comp10 (show 2 ≤ Tryd.f10.ntmps by decide) ?_; unfold cf10 rf10; simp only [↓EVP0, EVQ0, EVQ1, EVQ2, EVQ3, EVQ4, EVA, EVK, EVF,EVFT, ↓reduceIte, Nat.reduceEqDiff, Nat.reduceAdd, Nat.reduceSub, Nat.reduceMul, Nat.reduceLT, Nat.reduceLeDiff, reduceCtorEq, Int.reduceToNat, Int.reduceLT, Int.reduceLE, Int.reduceAdd, Int.reduceSub, Int.reduceMul, Int.reduceNeg, Int.reduceEq, Nat.reduceMod, forall_eq_or_imp, forall_eq, forall_const, cond_true, cond_false, decide_true, decide_false, true_imp_iff, implies_true, Int.cast_ofNat_Int, forall_eq']
      refine callK_ro (h1) ?_ ?_
      · simp only [↓EVP0, EVQ0, EVQ1, EVQ2, EVQ3, EVQ4, EVA, EVK, EVF,EVFT, ↓reduceIte, Nat.reduceEqDiff, Nat.reduceAdd, Nat.reduceSub, Nat.reduceMul, Nat.reduceLT, Nat.reduceLeDiff, reduceCtorEq, Int.reduceToNat, Int.reduceLT, Int.reduceLE, Int.reduceAdd, Int.reduceSub, Int.reduceMul, Int.reduceNeg, Int.reduceEq, Nat.reduceMod, forall_eq_or_imp, forall_eq, forall_const, cond_true, cond_false, decide_true, decide_false, true_imp_iff, implies_true, Int.cast_ofNat_Int, forall_eq']
      simp only [↓EVP0, EVQ0, EVQ1, EVQ2, EVQ3, EVQ4, EVA, EVK, EVF,EVFT, ↓reduceIte, Nat.reduceEqDiff, Nat.reduceAdd, Nat.reduceSub, Nat.reduceMul, Nat.reduceLT, Nat.reduceLeDiff, reduceCtorEq, Int.reduceToNat, Int.reduceLT, Int.reduceLE, Int.reduceAdd, Int.reduceSub, Int.reduceMul, Int.reduceNeg, Int.reduceEq, Nat.reduceMod, forall_eq_or_imp, forall_eq, forall_const, cond_true, cond_false, decide_true, decide_false, true_imp_iff, implies_true, Int.cast_ofNat_Int, forall_eq']
      rw [hs, hm]
      refine ⟨fun _ => trivial, fun _ => ?_⟩
      refine callK_ro (h2) ?_ ?_
      · simp only [↓EVP0, EVQ0, EVQ1, EVQ2, EVQ3, EVQ4, EVA, EVK, EVF,EVFT, ↓reduceIte, Nat.reduceEqDiff, Nat.reduceAdd, Nat.reduceSub, Nat.reduceMul, Nat.reduceLT, Nat.reduceLeDiff, reduceCtorEq, Int.reduceToNat, Int.reduceLT, Int.reduceLE, Int.reduceAdd, Int.reduceSub, Int.reduceMul, Int.reduceNeg, Int.reduceEq, Nat.reduceMod, forall_eq_or_imp, forall_eq, forall_const, cond_true, cond_false, decide_true, decide_false, true_imp_iff, implies_true, Int.cast_ofNat_Int, forall_eq']
      simp only [↓EVP0, EVQ0, EVQ1, EVQ2, EVQ3, EVQ4, EVA, EVK, EVF,EVFT, ↓reduceIte, Nat.reduceEqDiff, Nat.reduceAdd, Nat.reduceSub, Nat.reduceMul, Nat.reduceLT, Nat.reduceLeDiff, reduceCtorEq, Int.reduceToNat, Int.reduceLT, Int.reduceLE, Int.reduceAdd, Int.reduceSub, Int.reduceMul, Int.reduceNeg, Int.reduceEq, Nat.reduceMod, forall_eq_or_imp, forall_eq, forall_const, cond_true, cond_false, decide_true, decide_false, true_imp_iff, implies_true, Int.cast_ofNat_Int, forall_eq']
      refine ⟨fun h => absurd (of_decide_eq_true h) h0, fun _ => ?_⟩
      refine callK_frz h5 ?_ trivial ?_
      · simp only [↓EVP0, EVQ0, EVQ1, EVQ2, EVQ3, EVQ4, EVA, EVK, EVF,EVFT, ↓reduceIte, Nat.reduceEqDiff, Nat.reduceAdd, Nat.reduceSub, Nat.reduceMul, Nat.reduceLT, Nat.reduceLeDiff, reduceCtorEq, Int.reduceToNat, Int.reduceLT, Int.reduceLE, Int.reduceAdd, Int.reduceSub, Int.reduceMul, Int.reduceNeg, Int.reduceEq, Nat.reduceMod, forall_eq_or_imp, forall_eq, forall_const, cond_true, cond_false, decide_true, decide_false, true_imp_iff, implies_true, Int.cast_ofNat_Int, forall_eq']
      simp only [↓EVP0, EVQ0, EVQ1, EVQ2, EVQ3, EVQ4, EVA, EVK, EVF,EVFT, ↓reduceIte, Nat.reduceEqDiff, Nat.reduceAdd, Nat.reduceSub, Nat.reduceMul, Nat.reduceLT, Nat.reduceLeDiff, reduceCtorEq, Int.reduceToNat, Int.reduceLT, Int.reduceLE, Int.reduceAdd, Int.reduceSub, Int.reduceMul, Int.reduceNeg, Int.reduceEq, Nat.reduceMod, forall_eq_or_imp, forall_eq, forall_const, cond_true, cond_false, decide_true, decide_false, true_imp_iff, implies_true, Int.cast_ofNat_Int, forall_eq']
      refine ⟨fun h => by have := of_decide_eq_true h; omega, fun _ => ?_⟩
      refine ⟨fun _ => trivial, fun hc => ?_⟩
      have he : e = 3 ∧ line ≠ 0 := by
        by_cases q : e = 3
        · subst q; simpa using hc
        · simp [q] at hc
      obtain ⟨he1, he2⟩ := he
      obtain ⟨k1, k2, k3⟩ := e3 he1 he2
      obtain ⟨m, g1, g2, g3⟩ := rdL_head more s.length s [] [] [] 1 _ rfl (by omega) rfl k2
      have hline : line = ((m + 1 : Nat) : Int) := by omega
      have hfl : ((spN s).take (m + 1)).flatten.length ≤ s.length := by
        have := take_flat_le (spN s) (m + 1)
        rw [spN_flat] at this; exact this
      have hlen := spN_len s
      have h7 := ev_join1 (spN s) (m + 1) g2 (by omega) (by omega)
      have h8 := ev_hasSuf ((spN s).take (m + 1)).flatten (by omega)
      refine callK_ro (h6) ?_ ?_
      · simp only [↓EVP0, EVQ0, EVQ1, EVQ2, EVQ3, EVQ4, EVA, EVK, EVF,EVFT, ↓reduceIte, Nat.reduceEqDiff, Nat.reduceAdd, Nat.reduceSub, Nat.reduceMul, Nat.reduceLT, Nat.reduceLeDiff, reduceCtorEq, Int.reduceToNat, Int.reduceLT, Int.reduceLE, Int.reduceAdd, Int.reduceSub, Int.reduceMul, Int.reduceNeg, Int.reduceEq, Nat.reduceMod, forall_eq_or_imp, forall_eq, forall_const, cond_true, cond_false, decide_true, decide_false, true_imp_iff, implies_true, Int.cast_ofNat_Int, forall_eq']
      simp only [↓EVP0, EVQ0, EVQ1, EVQ2, EVQ3, EVQ4, EVA, EVK, EVF,EVFT, ↓reduceIte, Nat.reduceEqDiff, Nat.reduceAdd, Nat.reduceSub, Nat.reduceMul, Nat.reduceLT, Nat.reduceLeDiff, reduceCtorEq, Int.reduceToNat, Int.reduceLT, Int.reduceLE, Int.reduceAdd, Int.reduceSub, Int.reduceMul, Int.reduceNeg, Int.reduceEq, Nat.reduceMod, forall_eq_or_imp, forall_eq, forall_const, cond_true, cond_false, decide_true, decide_false, true_imp_iff, implies_true, Int.cast_ofNat_Int, forall_eq']
      rw [hline]
      intro _
      refine ⟨fun h => by have := of_decide_eq_true h; omega, fun _ => ?_⟩
      refine ⟨⟨by omega, by omega⟩, ?_⟩
      rw [Nat.sub_zero, Int.toNat_natCast]
      refine callK_ro (h7) ?_ ?_
      · simp only [↓EVP0, EVQ0, EVQ1, EVQ2, EVQ3, EVQ4, EVA, EVK, EVF,EVFT, ↓reduceIte, Nat.reduceEqDiff, Nat.reduceAdd, Nat.reduceSub, Nat.reduceMul, Nat.reduceLT, Nat.reduceLeDiff, reduceCtorEq, Int.reduceToNat, Int.reduceLT, Int.reduceLE, Int.reduceAdd, Int.reduceSub, Int.reduceMul, Int.reduceNeg, Int.reduceEq, Nat.reduceMod, forall_eq_or_imp, forall_eq, forall_const, cond_true, cond_false, decide_true, decide_false, true_imp_iff, implies_true, Int.cast_ofNat_Int, forall_eq']
      simp only [↓EVP0, EVQ0, EVQ1, EVQ2, EVQ3, EVQ4, EVA, EVK, EVF,EVFT, ↓reduceIte, Nat.reduceEqDiff, Nat.reduceAdd, Nat.reduceSub, Nat.reduceMul, Nat.reduceLT, Nat.reduceLeDiff, reduceCtorEq, Int.reduceToNat, Int.reduceLT, Int.reduceLE, Int.reduceAdd, Int.reduceSub, Int.reduceMul, Int.reduceNeg, Int.reduceEq, Nat.reduceMod, forall_eq_or_imp, forall_eq, forall_const, cond_true, cond_false, decide_true, decide_false, true_imp_iff, implies_true, Int.cast_ofNat_Int, forall_eq']
      refine callK_ro (h8) ?_ ?_
      · simp only [↓EVP0, EVQ0, EVQ1, EVQ2, EVQ3, EVQ4, EVA, EVK, EVF,EVFT, ↓reduceIte, Nat.reduceEqDiff, Nat.reduceAdd, Nat.reduceSub, Nat.reduceMul, Nat.reduceLT, Nat.reduceLeDiff, reduceCtorEq, Int.reduceToNat, Int.reduceLT, Int.reduceLE, Int.reduceAdd, Int.reduceSub, Int.reduceMul, Int.reduceNeg, Int.reduceEq, Nat.reduceMod, forall_eq_or_imp, forall_eq, forall_const, cond_true, cond_false, decide_true, decide_false, true_imp_iff, implies_true, Int.cast_ofNat_Int, forall_eq']
      simp only [↓EVP0, EVQ0, EVQ1, EVQ2, EVQ3, EVQ4, EVA, EVK, EVF,EVFT, ↓reduceIte, Nat.reduceEqDiff, Nat.reduceAdd, Nat.reduceSub, Nat.reduceMul, Nat.reduceLT, Nat.reduceLeDiff, reduceCtorEq, Int.reduceToNat, Int.reduceLT, Int.reduceLE, Int.reduceAdd, Int.reduceSub, Int.reduceMul, Int.reduceNeg, Int.reduceEq, Nat.reduceMod, forall_eq_or_imp, forall_eq, forall_const, cond_true, cond_false, decide_true, decide_false, true_imp_iff, implies_true, Int.cast_ofNat_Int, forall_eq']
      refine ⟨fun _ => trivial, fun hx => ?_⟩
      have hx2 : ((spN s).take (m + 1)).flatten.getLast? = some 10 := by simpa using hx
      have g4 := g3 hx2
      have e9 : strB ((spN s).take (m + 1)).flatten ++ strB more = strB (((spN s).take (m + 1)).flatten ++ more) := by
        rw [← strB_of (strB _ ++ strB more)]; simp [strB]
      refine ⟨by rw [strB_size, strB_size]; omega, ?_⟩
      rw [e9]
      have h9 := ev_parseG (((spN s).take (m + 1)).flatten ++ more) (by rw [List.length_append]; omega)
      rw [pr_fail (by rw [List.length_append]; omega) (by rw [g4]; exact k2), g4] at h9
      unfold plV at h9
      refine callK_ro (h9) ?_ ?_
      · simp only [↓EVP0, EVQ0, EVQ1, EVQ2, EVQ3, EVQ4, EVA, EVK, EVF,EVFT, ↓reduceIte, Nat.reduceEqDiff, Nat.reduceAdd, Nat.reduceSub, Nat.reduceMul, Nat.reduceLT, Nat.reduceLeDiff, reduceCtorEq, Int.reduceToNat, Int.reduceLT, Int.reduceLE, Int.reduceAdd, Int.reduceSub, Int.reduceMul, Int.reduceNeg, Int.reduceEq, Nat.reduceMod, forall_eq_or_imp, forall_eq, forall_const, cond_true, cond_false, decide_true, decide_false, true_imp_iff, implies_true, Int.cast_ofNat_Int, forall_eq']
      simp only [↓EVP0, EVQ0, EVQ1, EVQ2, EVQ3, EVQ4, EVA, EVK, EVF,EVFT, ↓reduceIte, Nat.reduceEqDiff, Nat.reduceAdd, Nat.reduceSub, Nat.reduceMul, Nat.reduceLT, Nat.reduceLeDiff, reduceCtorEq, Int.reduceToNat, Int.reduceLT, Int.reduceLE, Int.reduceAdd, Int.reduceSub, Int.reduceMul, Int.reduceNeg, Int.reduceEq, Nat.reduceMod, forall_eq_or_imp, forall_eq, forall_const, cond_true, cond_false, decide_true, decide_false, true_imp_iff, implies_true, Int.cast_ofNat_Int, forall_eq']
      rw [decide_eq_true (by omega)]; rfl
end Go.Proofs.YtchpncmmlhfemaaDoor
namespace Go.Proofs.YtchpncmmlhfemaaDoor
open Go.RowKit Go.ChangeShapes

theorem gx_of14 {a b : String × DataW Unit} {rest : List (String × DataW Unit)} {W : World} (h : laidMetH Tryd.prog (a :: b :: ("internal/strconv.uint64pow10", Rows.laid_internal_strconv_uint64pow10) :: rest) W)
    (hp : ((a :: b :: ("internal/strconv.uint64pow10", Rows.laid_internal_strconv_uint64pow10) :: rest).all fun x => x.2.handleName?.isNone) = true) (hs : W.ShapedOpen Tryd.prog) : GX W := by
  rw [MakeChecks.laidMetH_plain _ _ _ hp] at h
  exact ⟨Lib.tabIs_of_head (g := 1) (t := 122) (e := 114) (n := 20) (by kernel_rfl) (by kernel_rfl) (by kernel_rfl) (by kernel_rfl) (by kernel_rfl) (by kernel_rfl) (show laidMet Tryd.prog (("internal/strconv.uint64pow10", Lib.tabData .u64 Lib.pow10Tab) :: rest) W from (h.tail).tail),
    cell_of_shapedOpen_int (zero := #[.int .i64 0]) (t := 3) hs (of_decide_eq_true (by kernel_rfl)) (by kernel_rfl) rfl (by kernel_rfl) (by kernel_rfl) Tryd.underlying3⟩
end Go.Proofs.YtchpncmmlhfemaaDoor
