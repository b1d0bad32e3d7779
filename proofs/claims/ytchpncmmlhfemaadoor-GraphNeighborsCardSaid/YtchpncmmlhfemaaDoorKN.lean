/- Chapter 17's Above and what it needs; equality of lists; The cables at a node; a port of a valid plan is at one cable at most; A port of a valid plan is at one cable at most: what Neighbor returns, and the neighbor's neighbor; For every plan, node and port Neighbor and Cables return what the cables say; For every plan, node and port Neighbor and Cables return what the cables of the plan say, and the neighbor's neighbor is the node itself. Conditions: none. -/
import Derived.Test.YtchpncmmlhfemaaDoorMF
import Derived.Test.YtchpncmmlhfemaaDoorTie
import Derived.Test.YtchpncmmlhfemaaDoorCards
import Derived.SevenTiedAt
import Derived.Stop.Joined
namespace Go.Proofs.YtchpncmmlhfemaaDoor
set_option linter.unusedSimpArgs false
set_option linter.unusedVariables false
open Go.RowKit

/-- A cell that holds one list, seen as read-only. -/
theorem roTo2_cell {h : LH} {k ver : Nat} {z n : Nat} {f : Nat → List LV} (hk : k < h.n) (hv : h.f k = (ver, .box [.rsl z n f])) : roTo2 h (.ptr k ver 0 0 0) (.rptr [.rsl z n f]) := by
  refine ⟨hk, by rw [hv], rfl, rfl, rfl, ?_⟩
  rw [hv]
  exact ⟨by rw [roTo1_rsl], trivial⟩
def cmpI (x y : Int) : Int := bif decide (x < y) then -1 else bif decide (y < x) then 1 else 0
def orI : List Int → Int
  | [] => 0
  | x :: r => bif decide (x = 0) then orI r else x
theorem orI_take (l : List Int) (i : Nat) (hi : i < l.length) (h : ∀ j, j < i → l.getD j 0 = 0) : orI l = orI (l.drop i) := by
  induction i generalizing l with
  | zero => rfl
  | succ i ih =>
    cases l with
    | nil => simp at hi
    | cons x r =>
      have h0 := h 0 (by omega)
      simp only [List.getD_cons_zero] at h0
      have := ih r (by simpa using hi) (fun j hj => by have := h (j + 1) (by omega); simpa using this)
      simp only [orI, h0, decide_true, cond_true, List.drop_succ_cons]
      exact this
theorem ev_equal (l m : List Int) : Ev Tryd.prog 21 [intsV l, intsV m] (.sc (.bool (decide (l = m)))) := by
  unfold intsV
  refine ev_fn Tryd.func21 comp21 (show 2 ≤ Tryd.f21.ntmps by decide) ?_; unfold cf21 rf21; simp only [↓EVP0, EVQ0, EVQ1, EVQ2, EVQ3, EVQ4, EVA, EVK, EVF, ↓reduceIte, Nat.reduceEqDiff, Nat.reduceAdd, Nat.reduceSub, Nat.reduceMul, Nat.reduceLT, Nat.reduceLeDiff, reduceCtorEq, Int.reduceToNat, Int.reduceLT, Int.reduceLE, Int.reduceAdd, Int.reduceSub, Int.reduceMul, Int.reduceNeg, Int.reduceEq, Nat.reduceMod, forall_eq_or_imp, forall_eq, forall_const, cond_true, cond_false, decide_true, decide_false, true_imp_iff, implies_true, Int.cast_ofNat_Int, forall_eq']
  intro hl hm
  refine ⟨fun hg => ?_, fun hg _ => ?_⟩
  · have : l ≠ m := fun e => by subst e; simp at hg
    simp [this]
  have hlm : l.length = m.length := by simp at hg; omega
  refine lwp_for (α := Unit) l.length (fun i _ => ∀ j, j < i → l.getD j 0 = m.getD j 0) (fun i _ => [(0, .rsl 1 l.length (intsF l)), (1, .rsl 1 m.length (intsF m)), (12, .sc (.int .i64 l.length)), (13, .sc (.int .i64 i))]) (fun _ _ => []) () (fun j hj => absurd hj (Nat.not_lt_zero _)) ?_ (fun _ _ => Nat.zero_le _) ?_
  · simp only [↓EVP0, EVQ0, EVQ1, EVQ2, EVQ3, EVQ4, EVA, EVK, EVF, ↓reduceIte, Nat.reduceEqDiff, Nat.reduceAdd, Nat.reduceSub, Nat.reduceMul, Nat.reduceLT, Nat.reduceLeDiff, reduceCtorEq, Int.reduceToNat, Int.reduceLT, Int.reduceLE, Int.reduceAdd, Int.reduceSub, Int.reduceMul, Int.reduceNeg, Int.reduceEq, Nat.reduceMod, forall_eq_or_imp, forall_eq, forall_const, cond_true, cond_false, decide_true, decide_false, true_imp_iff, implies_true, Int.cast_ofNat_Int, forall_eq']
  intro i _ hi hx
  unfold lb21_0
  simp only [↓EVP0, EVQ0, EVQ1, EVQ2, EVQ3, EVQ4, EVA, EVK, EVF, ↓reduceIte, Nat.reduceEqDiff, Nat.reduceAdd, Nat.reduceSub, Nat.reduceMul, Nat.reduceLT, Nat.reduceLeDiff, reduceCtorEq, Int.reduceToNat, Int.reduceLT, Int.reduceLE, Int.reduceAdd, Int.reduceSub, Int.reduceMul, Int.reduceNeg, Int.reduceEq, Nat.reduceMod, forall_eq_or_imp, forall_eq, forall_const, cond_true, cond_false, decide_true, decide_false, true_imp_iff, implies_true, Int.cast_ofNat_Int, forall_eq']
  refine ⟨fun hg => ?_, fun hg => ?_⟩
  · have hi2 : i < l.length := by simpa using hg
    refine ⟨⟨by omega, by omega⟩, ⟨by omega, by omega⟩, fun h => ?_, fun h => ⟨by unfold In64; omega, hi2, (), fun j hj => ?_⟩⟩
    · have : l ≠ m := fun e => by subst e; simp at h
      simp [this]
    · by_cases e : j = i
      · subst e; simpa using h
      · exact hx j (by omega)
  · have hii : i = l.length := by simp at hg; omega
    have : l = m := getD_len hlm (by subst hii; exact hx)
    simp [this]

def hasB (l : List Int) (x : Int) : Bool := decide (0 ≤ x) && (decide (x < l.length) && decide (0 ≤ l.getD x.toNat 0))
def aboveB (l : List Int) (a b : Int) : Bool := hasB l a && (hasB l b && (decide (l.getD a.toNat 0 < l.getD b.toNat 0) || (decide (l.getD a.toNat 0 = l.getD b.toNat 0) && decide (a < b))))
end Go.Proofs.YtchpncmmlhfemaaDoor
namespace Go.Proofs.YtchpncmmlhfemaaDoor
set_option linter.unusedSimpArgs false
set_option linter.unusedVariables false
open Go.RowKit
set_option maxRecDepth 20000

theorem cb_all (n : Nat) (c : Cb) : allC n (cbL c) := ⟨trivial, trivial, trivial, trivial, trivial, trivial, trivial⟩
def touB (c : Cb) (x : Int) : Bool := decide (c.a = x) || decide (c.b = x)
/-- Those of the first k indices that a test picks. -/
def pickT (q : Nat → Bool) (k : Nat) : List Int := ((List.range k).filter q).map fun (v : Nat) => (v : Int)
theorem pickT_succ (q : Nat → Bool) (k : Nat) : pickT q (k + 1) = pickT q k ++ if q k = true then [(k : Int)] else [] := by
  unfold pickT
  rw [List.range_succ, List.filter_append, List.map_append]
  by_cases h : q k = true <;> simp [h]
theorem pickT_len (q : Nat → Bool) (k : Nat) : (pickT q k).length ≤ k := by
  unfold pickT
  rw [List.length_map]
  have := List.length_filter_le q (List.range k)
  simpa using this
def cabT (p : Pl) (x : Int) (k : Nat) : List Int := pickT (fun v => touB (p.cs.getD v default) x) k
def cablesE (p : Pl) (x : Int) : List Int := if validE p = 0 then cabT p x p.cs.length else []
theorem ev_cables (p : Pl) (hp : PlOk p) (x : Int) : Ev Tryd.prog 19 [plV p, .sc (.int .i64 x)] (intsV (cablesE p x)) := by
  have h1 := ev_valid p hp
  unfold plV intsV at *
  refine ev_fn Tryd.func19 comp19 (show 2 ≤ Tryd.f19.ntmps by decide) ?_; unfold cf19 rf19; simp only [↓EVP0, EVQ0, EVQ1, EVQ2, EVQ3, EVQ4, EVA, EVK, EVF, ↓reduceIte, Nat.reduceEqDiff, Nat.reduceAdd, Nat.reduceSub, Nat.reduceMul, Nat.reduceLT, Nat.reduceLeDiff, reduceCtorEq, Int.reduceToNat, Int.reduceLT, Int.reduceLE, Int.reduceAdd, Int.reduceSub, Int.reduceMul, Int.reduceNeg, Int.reduceEq, Nat.reduceMod, forall_eq_or_imp, forall_eq, forall_const, cond_true, cond_false, decide_true, decide_false, true_imp_iff, implies_true, Int.cast_ofNat_Int, forall_eq']
  refine callK_ro (h1) ?_ ?_
  · simp only [↓EVP0, EVQ0, EVQ1, EVQ2, EVQ3, EVQ4, EVA, EVK, EVF, ↓reduceIte, Nat.reduceEqDiff, Nat.reduceAdd, Nat.reduceSub, Nat.reduceMul, Nat.reduceLT, Nat.reduceLeDiff, reduceCtorEq, Int.reduceToNat, Int.reduceLT, Int.reduceLE, Int.reduceAdd, Int.reduceSub, Int.reduceMul, Int.reduceNeg, Int.reduceEq, Nat.reduceMod, forall_eq_or_imp, forall_eq, forall_const, cond_true, cond_false, decide_true, decide_false, true_imp_iff, implies_true, Int.cast_ofNat_Int, forall_eq']
  simp only [↓EVP0, EVQ0, EVQ1, EVQ2, EVQ3, EVQ4, EVA, EVK, EVF, ↓reduceIte, Nat.reduceEqDiff, Nat.reduceAdd, Nat.reduceSub, Nat.reduceMul, Nat.reduceLT, Nat.reduceLeDiff, reduceCtorEq, Int.reduceToNat, Int.reduceLT, Int.reduceLE, Int.reduceAdd, Int.reduceSub, Int.reduceMul, Int.reduceNeg, Int.reduceEq, Nat.reduceMod, forall_eq_or_imp, forall_eq, forall_const, cond_true, cond_false, decide_true, decide_false, true_imp_iff, implies_true, Int.cast_ofNat_Int, forall_eq']
  refine ⟨fun hg => ?_, fun hg => ?_⟩
  · have e : cablesE p x = [] := by unfold cablesE; rw [if_neg (by simpa using hg)]
    rw [e]; exact rfl
  have hv : validE p = 0 := by simpa using hg
  have e : cablesE p x = cabT p x p.cs.length := by unfold cablesE; rw [if_pos hv]
  rw [e]
  have h32 := (valid_of hv).c32
  intro _
  refine lwp_for (α := Unit) p.cs.length (fun _ _ => True) (fun k _ => [(1, .sc (.int .i64 x)), (5, if cabT p x k = [] then .nsl else .sl 2 ((cabT p x k).length - 1) 1 0 (cabT p x k).length), (12, .rsl 6 p.cs.length (cbsF p.cs)), (13, .sc (.int .i64 p.cs.length)), (14, .sc (.int .i64 k))])
    (fun k _ => if cabT p x k = [] then [] else [(0, .box (cbL (p.cs.getD ((cabT p x k).getD 0 0).toNat default))), (0, .ints [(cabT p x k).getD 0 0]), ((cabT p x k).length - 1, .ints (cabT p x k))]) () trivial ?_ (fun _ _ => Nat.zero_le _) ?_
  · rw [show cabT p x 0 = [] from rfl]
    simp only [if_true]
    simp only [↓EVP0, EVQ0, EVQ1, EVQ2, EVQ3, EVQ4, EVA, EVK, EVF, ↓reduceIte, Nat.reduceEqDiff, Nat.reduceAdd, Nat.reduceSub, Nat.reduceMul, Nat.reduceLT, Nat.reduceLeDiff, reduceCtorEq, Int.reduceToNat, Int.reduceLT, Int.reduceLE, Int.reduceAdd, Int.reduceSub, Int.reduceMul, Int.reduceNeg, Int.reduceEq, Nat.reduceMod, forall_eq_or_imp, forall_eq, forall_const, cond_true, cond_false, decide_true, decide_false, true_imp_iff, implies_true, Int.cast_ofNat_Int, forall_eq']
  intro k _ hk _
  have hps : cabT p x (k + 1) = cabT p x k ++ if touB (p.cs.getD k default) x = true then [(k : Int)] else [] := pickT_succ _ k
  have hple : (cabT p x k).length ≤ k := pickT_len _ _
  by_cases hq : cabT p x k = []
  · by_cases hdk : touB (p.cs.getD k default) x = true
    · have hp1 : cabT p x (k + 1) = [(k : Int)] := by rw [hps, if_pos hdk, hq]; rfl
      simp only [hp1, hq, List.cons_ne_nil, if_true, if_false]
      unfold lb19_0
      simp only [↓EVP0, EVQ0, EVQ1, EVQ2, EVQ3, EVQ4, EVA, EVK, EVF, ↓reduceIte, Nat.reduceEqDiff, Nat.reduceAdd, Nat.reduceSub, Nat.reduceMul, Nat.reduceLT, Nat.reduceLeDiff, reduceCtorEq, Int.reduceToNat, Int.reduceLT, Int.reduceLE, Int.reduceAdd, Int.reduceSub, Int.reduceMul, Int.reduceNeg, Int.reduceEq, Nat.reduceMod, forall_eq_or_imp, forall_eq, forall_const, cond_true, cond_false, decide_true, decide_false, true_imp_iff, implies_true, Int.cast_ofNat_Int, forall_eq']
      refine ⟨fun hg => ?_, fun hg => ?_⟩
      · have hk2 : k < p.cs.length := by have := of_decide_eq_true hg; omega
        rw [condT]
        refine ⟨⟨by omega, by omega⟩, fun h => ?_, fun h => ?_⟩
        · exact ⟨by unfold appRoom; omega, by unfold In64; omega, hk2, (), rfl, cb_all _ _⟩
        · exact absurd hdk (by unfold touB; rw [h]; simp)
      · have hkk : k = p.cs.length := by have := of_decide_eq_false hg; omega
        subst hkk
        rw [hq]; rfl
    · have hp1 : cabT p x (k + 1) = [] := by rw [hps, if_neg hdk, hq]; rfl
      simp only [hp1, hq, if_true]
      unfold lb19_0
      simp only [↓EVP0, EVQ0, EVQ1, EVQ2, EVQ3, EVQ4, EVA, EVK, EVF, ↓reduceIte, Nat.reduceEqDiff, Nat.reduceAdd, Nat.reduceSub, Nat.reduceMul, Nat.reduceLT, Nat.reduceLeDiff, reduceCtorEq, Int.reduceToNat, Int.reduceLT, Int.reduceLE, Int.reduceAdd, Int.reduceSub, Int.reduceMul, Int.reduceNeg, Int.reduceEq, Nat.reduceMod, forall_eq_or_imp, forall_eq, forall_const, cond_true, cond_false, decide_true, decide_false, true_imp_iff, implies_true, Int.cast_ofNat_Int, forall_eq']
      refine ⟨fun hg => ?_, fun hg => ?_⟩
      · have hk2 : k < p.cs.length := by have := of_decide_eq_true hg; omega
        rw [condT]
        refine ⟨⟨by omega, by omega⟩, fun h => ?_, fun h => ?_⟩
        · exact absurd (show touB (p.cs.getD k default) x = true from h) hdk
        · exact ⟨by unfold In64; omega, hk2, (), trivial⟩
      · have hkk : k = p.cs.length := by have := of_decide_eq_false hg; omega
        subst hkk
        rw [hq]; rfl
  · by_cases hdk : touB (p.cs.getD k default) x = true
    · have hp1 : cabT p x (k + 1) = cabT p x k ++ [(k : Int)] := by rw [hps, if_pos hdk]
      simp only [hp1, hq, List.append_eq_nil_iff, List.cons_ne_nil, and_false, if_false]
      unfold lb19_0
      simp only [↓EVP0, EVQ0, EVQ1, EVQ2, EVQ3, EVQ4, EVA, EVK, EVF, ↓reduceIte, Nat.reduceEqDiff, Nat.reduceAdd, Nat.reduceSub, Nat.reduceMul, Nat.reduceLT, Nat.reduceLeDiff, reduceCtorEq, Int.reduceToNat, Int.reduceLT, Int.reduceLE, Int.reduceAdd, Int.reduceSub, Int.reduceMul, Int.reduceNeg, Int.reduceEq, Nat.reduceMod, forall_eq_or_imp, forall_eq, forall_const, cond_true, cond_false, decide_true, decide_false, true_imp_iff, implies_true, Int.cast_ofNat_Int, forall_eq']
      refine ⟨fun hg => ?_, fun hg => ?_⟩
      · have hk2 : k < p.cs.length := by have := of_decide_eq_true hg; omega
        rw [condT]
        refine ⟨⟨by omega, by omega⟩, fun h => ?_, fun h => ?_⟩
        · have hpl : 0 < (cabT p x k).length := List.length_pos_iff.2 hq
          have hl1 : (cabT p x k ++ [(k : Int)]).length = (cabT p x k).length + 1 := by simp
          rw [show (cabT p x k).length - 1 + 1 = (cabT p x k).length + 1 - 1 by omega, List.take_of_length_le (Nat.le_refl _), hl1, getD_app0 hpl]
          exact ⟨Nat.le_refl _, by unfold appRoom; omega, by unfold In64; omega, hk2, (), rfl, rfl, cb_all _ _, rfl, rfl, rfl⟩
        · exact absurd hdk (by unfold touB; rw [h]; simp)
      · have hkk : k = p.cs.length := by have := of_decide_eq_false hg; omega
        subst hkk
        exact ⟨rfl, Nat.le_refl _, fun _ _ => rfl⟩
    · have hp1 : cabT p x (k + 1) = cabT p x k := by rw [hps, if_neg hdk]; simp
      simp only [hp1, hq, if_false]
      unfold lb19_0
      simp only [↓EVP0, EVQ0, EVQ1, EVQ2, EVQ3, EVQ4, EVA, EVK, EVF, ↓reduceIte, Nat.reduceEqDiff, Nat.reduceAdd, Nat.reduceSub, Nat.reduceMul, Nat.reduceLT, Nat.reduceLeDiff, reduceCtorEq, Int.reduceToNat, Int.reduceLT, Int.reduceLE, Int.reduceAdd, Int.reduceSub, Int.reduceMul, Int.reduceNeg, Int.reduceEq, Nat.reduceMod, forall_eq_or_imp, forall_eq, forall_const, cond_true, cond_false, decide_true, decide_false, true_imp_iff, implies_true, Int.cast_ofNat_Int, forall_eq']
      refine ⟨fun hg => ?_, fun hg => ?_⟩
      · have hk2 : k < p.cs.length := by have := of_decide_eq_true hg; omega
        rw [condT]
        refine ⟨⟨by omega, by omega⟩, fun h => ?_, fun h => ?_⟩
        · exact absurd (show touB (p.cs.getD k default) x = true from h) hdk
        · exact ⟨by unfold In64; omega, hk2, (), cb_all _ _⟩
      · have hkk : k = p.cs.length := by have := of_decide_eq_false hg; omega
        subst hkk
        exact ⟨rfl, Nat.le_refl _, fun _ _ => rfl⟩
end Go.Proofs.YtchpncmmlhfemaaDoor
namespace Go.Proofs.YtchpncmmlhfemaaDoor
set_option linter.unusedSimpArgs false
set_option linter.unusedVariables false
open Go.RowKit
set_option maxRecDepth 20000

theorem valid_nodup {p : Pl} (h : validE p = 0) : (endsOf p.cs).Nodup := by
  unfold validE at h
  cases h1 : decide (16 < p.ns.length) || decide (32 < p.cs.length)
  · rw [h1, cond_false] at h
    cases h2 : p.ns.all nodeOk
    · rw [h2] at h; simp at h
    · rw [h2] at h
      cases h3 : p.cs.all (portsOk p)
      · rw [h3] at h; simp at h
      · rw [h3] at h
        cases h4 : repOk p
        · unfold repOk at h4
          simp at h4
          exact h4.2
        · rw [h4] at h; simp at h
  · rw [h1] at h; simp at h
def matB (c : Cb) (x y : Int) : Bool := (decide (c.a = x) && decide (c.ap = y)) || (decide (c.b = x) && decide (c.bp = y))
theorem matB_iff {c : Cb} {x y : Int} : matB c x y = true ↔ (x, y) ∈ endsC c := by
  unfold matB endsC
  simp only [Bool.or_eq_true, Bool.and_eq_true, decide_eq_true_eq, List.mem_cons, List.not_mem_nil, or_false, Prod.mk.injEq]
  constructor
  · rintro (⟨h1, h2⟩ | ⟨h1, h2⟩)
    · exact .inl ⟨h1.symm, h2.symm⟩
    · exact .inr ⟨h1.symm, h2.symm⟩
  · rintro (⟨h1, h2⟩ | ⟨h1, h2⟩)
    · exact .inl ⟨h1.symm, h2.symm⟩
    · exact .inr ⟨h1.symm, h2.symm⟩
theorem mat_uniq {l : List Cb} (h : (endsOf l).Nodup) {x y : Int} : ∀ {i j : Nat}, i < l.length → j < l.length → matB (l.getD i default) x y = true → matB (l.getD j default) x y = true → i = j := by
  have hp := (List.pairwise_flatMap.1 (show List.Pairwise (· ≠ ·) (l.flatMap endsC) from h)).2
  rw [List.pairwise_iff_getElem] at hp
  have key : ∀ i j : Nat, i < l.length → j < l.length → i < j → matB (l.getD i default) x y = true → matB (l.getD j default) x y = true → False := by
    intro i j hi hj hij h1 h2
    rw [matB_iff] at h1 h2
    rw [List.getD_eq_getElem?_getD, List.getElem?_eq_getElem hi] at h1
    rw [List.getD_eq_getElem?_getD, List.getElem?_eq_getElem hj] at h2
    exact hp i j hi hj hij _ h1 _ h2 rfl
  intro i j hi hj h1 h2
  rcases Nat.lt_trichotomy i j with h | h | h
  · exact (key i j hi hj h h1 h2).elim
  · exact h
  · exact (key j i hj hi h h2 h1).elim
/-- What Neighbor tells of a cable that has the port. -/
def farC (c : Cb) (x y : Int) (i : Int) : Int × Int × Int × Bool := bif decide (c.a = x) && decide (c.ap = y) then (c.b, c.bp, i, true) else (c.a, c.ap, i, true)
theorem nbrGo_step (x y : Int) (c : Cb) (r : List Cb) (i : Int) : nbrGo x y (c :: r) i = if matB c x y = true then farC c x y i else nbrGo x y r (i + 1) := by
  rw [nbrGo_cons]
  unfold matB farC
  cases decide (c.a = x) && decide (c.ap = y) <;> cases decide (c.b = x) && decide (c.bp = y) <;> simp
theorem nbrGo_none {x y : Int} : ∀ {l : List Cb} {i : Int}, (∀ c, c ∈ l → matB c x y = false) → nbrGo x y l i = (-1, -1, -1, false)
  | [], _, _ => rfl
  | c :: r, i, h => by
    rw [nbrGo_step, if_neg (by rw [h c (by simp)]; simp)]
    exact nbrGo_none fun c' h' => h c' (by simp [h'])
theorem nbrGo_some {x y : Int} : ∀ {l : List Cb} {i : Int} {k : Nat}, k < l.length → matB (l.getD k default) x y = true → (∀ j, j < k → matB (l.getD j default) x y = false) → nbrGo x y l i = farC (l.getD k default) x y (i + k)
  | [], _, _, h, _, _ => by simp at h
  | c :: r, i, 0, _, h, _ => by
    rw [nbrGo_step, if_pos (by simpa using h)]; simp
  | c :: r, i, k + 1, h, h1, h2 => by
    have h0 := h2 0 (by omega)
    rw [nbrGo_step, if_neg (by simp at h0; simp [h0])]
    rw [nbrGo_some (k := k) (by simpa using h) (by simpa using h1) (fun j hj => by have := h2 (j + 1) (by omega); simpa using this)]
    rw [List.getD_cons_succ, show i + 1 + (k : Int) = i + ((k + 1 : Nat) : Int) by omega]
theorem nbr_of {p : Pl} (hv : validE p = 0) {x y : Int} {k : Nat} (hk : k < p.cs.length) (h : matB (p.cs.getD k default) x y = true) : nbrE p x y = farC (p.cs.getD k default) x y k := by
  unfold nbrE
  rw [if_pos hv, nbrGo_some hk h (fun j hj => by
    cases hm : matB (p.cs.getD j default) x y
    · rfl
    · have := mat_uniq (valid_nodup hv) (by omega) hk hm h; omega)]
  rw [Int.zero_add]
/-- The index that the statement's own loop finds. -/
def atT (p : Pl) (x y : Int) : Nat → Int
  | 0 => -1
  | k + 1 => if matB (p.cs.getD k default) x y = true then (k : Int) else atT p x y k
theorem atT_none {p : Pl} {x y : Int} : ∀ {k : Nat}, (∀ j, j < k → matB (p.cs.getD j default) x y = false) → atT p x y k = -1
  | 0, _ => rfl
  | k + 1, h => by
    unfold atT
    rw [if_neg (by rw [h k (by omega)]; simp)]
    exact atT_none fun j hj => h j (by omega)
theorem atT_of {p : Pl} {x y : Int} : ∀ {k : Nat}, 0 ≤ atT p x y k → ∃ j : Nat, j < k ∧ atT p x y k = j ∧ matB (p.cs.getD j default) x y = true
  | 0, h => by simp [atT] at h
  | k + 1, h => by
    unfold atT at h ⊢
    split
    · rename_i hm; exact ⟨k, by omega, rfl, hm⟩
    · rename_i hm
      rw [if_neg hm] at h
      obtain ⟨j, h1, h2, h3⟩ := atT_of h
      exact ⟨j, by omega, h2, h3⟩
theorem atT_neg {p : Pl} {x y : Int} : ∀ {k : Nat}, ¬ 0 ≤ atT p x y k → atT p x y k = -1 ∧ ∀ j, j < k → matB (p.cs.getD j default) x y = false
  | 0, _ => ⟨rfl, fun j hj => by omega⟩
  | k + 1, h => by
    unfold atT at h ⊢
    by_cases hm : matB (p.cs.getD k default) x y = true
    · rw [if_pos hm] at h; omega
    · rw [if_neg hm] at h ⊢
      obtain ⟨h1, h2⟩ := atT_neg h
      refine ⟨h1, fun j hj => ?_⟩
      by_cases e : j = k
      · subst e; simpa using hm
      · exact h2 j (by omega)
def othE (c : Cb) (x : Int) : Int := bif decide (c.a = x) then c.b else bif decide (c.b = x) then c.a else -1
theorem oth_ge {p : Pl} (hv : validE p = 0) {c : Cb} (hc : c ∈ p.cs) (x : Int) : decide (0 ≤ othE c x) = touB c x := by
  obtain ⟨h1, h2⟩ := (valid_of hv).cab c hc
  unfold inN at h1 h2
  unfold othE touB
  by_cases e1 : c.a = x
  · rw [decide_eq_true e1]; simp; omega
  · rw [decide_eq_false e1]
    by_cases e2 : c.b = x
    · rw [decide_eq_true e2]; simp; omega
    · rw [decide_eq_false e2]; simp
/-- The neighbor's neighbor is the node itself. -/
theorem nbr_back {p : Pl} (hv : validE p = 0) {x y : Int} {k : Nat} (hk : k < p.cs.length) (h : matB (p.cs.getD k default) x y = true) :
    nbrE p (nbrE p x y).1 (nbrE p x y).2.1 = (x, y, (k : Int), true) ∧ (nbrE p x y).2.2 = ((k : Int), true) ∧ (nbrE p x y).1 = othE (p.cs.getD k default) x := by
  have hc : p.cs.getD k default ∈ p.cs := by
    rw [List.getD_eq_getElem?_getD, List.getElem?_eq_getElem hk]; exact List.getElem_mem hk
  have hs := (valid_of hv).self _ hc
  rw [nbr_of hv hk h]
  have hb : matB (p.cs.getD k default) (farC (p.cs.getD k default) x y k).1 (farC (p.cs.getD k default) x y k).2.1 = true := by
    unfold farC matB
    cases decide ((p.cs.getD k default).a = x) && decide ((p.cs.getD k default).ap = y) <;> simp
  rw [nbr_of hv hk hb]
  generalize p.cs.getD k default = c at *
  unfold farC othE
  unfold matB at h
  simp only [Bool.or_eq_true, Bool.and_eq_true, decide_eq_true_eq] at h
  by_cases e : c.a = x ∧ c.ap = y
  · obtain ⟨rfl, rfl⟩ := e
    simp [hs]
  · have e2 : c.b = x ∧ c.bp = y := h.resolve_left e
    have e3 : ¬ c.a = x := fun e4 => hs (by rw [e4, e2.1])
    obtain ⟨rfl, rfl⟩ := e2
    simp [e3]
end Go.Proofs.YtchpncmmlhfemaaDoor
namespace Go.Proofs.YtchpncmmlhfemaaDoor
set_option linter.unusedSimpArgs false
set_option linter.unusedVariables false
open Go.RowKit
set_option maxRecDepth 20000

theorem ev_oth (c : Cb) (x : Int) : Ev Tryd.prog 20 [.agg (cbL c), .sc (.int .i64 x)] (.sc (.int .i64 (othE c x))) := by
  unfold cbL
  refine ev_fn Tryd.func20 comp20 (show 2 ≤ Tryd.f20.ntmps by decide) ?_; unfold cf20 rf20; simp only [↓EVP0, EVQ0, EVQ1, EVQ2, EVQ3, EVQ4, EVA, EVK, EVF, ↓reduceIte, Nat.reduceEqDiff, Nat.reduceAdd, Nat.reduceSub, Nat.reduceMul, Nat.reduceLT, Nat.reduceLeDiff, reduceCtorEq, Int.reduceToNat, Int.reduceLT, Int.reduceLE, Int.reduceAdd, Int.reduceSub, Int.reduceMul, Int.reduceNeg, Int.reduceEq, Nat.reduceMod, forall_eq_or_imp, forall_eq, forall_const, cond_true, cond_false, decide_true, decide_false, true_imp_iff, implies_true, Int.cast_ofNat_Int, forall_eq']
  unfold othE
  refine ⟨fun h => by rw [h]; rfl, fun h => ⟨fun h2 => by rw [h, h2]; rfl, fun h2 => by rw [h, h2]; rfl⟩⟩
theorem ev_lawNbrs (p : Pl) (hp : PlOk p) (x y : Int) : Ev Tryd.prog 6 [plV p, .sc (.int .i64 x), .sc (.int .i64 y)] (.sc (.bool true)) := by
  have h1 := ev_awake14
  have h2 := ev_great14 p
  have h3 := fun x y => ev_neighbor p hp x y
  have h4 := ev_cables p hp x
  have h5 := ev_ref14 p
  have h6 := ev_oth
  have h7 := ev_equal
  unfold plV intsV at *
  unfold cbL at h6
  refine ev_fn Tryd.func6 comp6 (show 3 ≤ Tryd.f6.ntmps by decide) ?_; unfold cf6 rf6; simp only [↓EVP0, EVQ0, EVQ1, EVQ2, EVQ3, EVQ4, EVA, EVK, EVF, ↓reduceIte, Nat.reduceEqDiff, Nat.reduceAdd, Nat.reduceSub, Nat.reduceMul, Nat.reduceLT, Nat.reduceLeDiff, reduceCtorEq, Int.reduceToNat, Int.reduceLT, Int.reduceLE, Int.reduceAdd, Int.reduceSub, Int.reduceMul, Int.reduceNeg, Int.reduceEq, Nat.reduceMod, forall_eq_or_imp, forall_eq, forall_const, cond_true, cond_false, decide_true, decide_false, true_imp_iff, implies_true, Int.cast_ofNat_Int, forall_eq']
  refine callK_ro (h1) ?_ ?_
  · simp only [↓EVP0, EVQ0, EVQ1, EVQ2, EVQ3, EVQ4, EVA, EVK, EVF, ↓reduceIte, Nat.reduceEqDiff, Nat.reduceAdd, Nat.reduceSub, Nat.reduceMul, Nat.reduceLT, Nat.reduceLeDiff, reduceCtorEq, Int.reduceToNat, Int.reduceLT, Int.reduceLE, Int.reduceAdd, Int.reduceSub, Int.reduceMul, Int.reduceNeg, Int.reduceEq, Nat.reduceMod, forall_eq_or_imp, forall_eq, forall_const, cond_true, cond_false, decide_true, decide_false, true_imp_iff, implies_true, Int.cast_ofNat_Int, forall_eq']
  simp only [↓EVP0, EVQ0, EVQ1, EVQ2, EVQ3, EVQ4, EVA, EVK, EVF, ↓reduceIte, Nat.reduceEqDiff, Nat.reduceAdd, Nat.reduceSub, Nat.reduceMul, Nat.reduceLT, Nat.reduceLeDiff, reduceCtorEq, Int.reduceToNat, Int.reduceLT, Int.reduceLE, Int.reduceAdd, Int.reduceSub, Int.reduceMul, Int.reduceNeg, Int.reduceEq, Nat.reduceMod, forall_eq_or_imp, forall_eq, forall_const, cond_true, cond_false, decide_true, decide_false, true_imp_iff, implies_true, Int.cast_ofNat_Int, forall_eq']
  refine callK_ro (h2) ?_ ?_
  · simp only [↓EVP0, EVQ0, EVQ1, EVQ2, EVQ3, EVQ4, EVA, EVK, EVF, ↓reduceIte, Nat.reduceEqDiff, Nat.reduceAdd, Nat.reduceSub, Nat.reduceMul, Nat.reduceLT, Nat.reduceLeDiff, reduceCtorEq, Int.reduceToNat, Int.reduceLT, Int.reduceLE, Int.reduceAdd, Int.reduceSub, Int.reduceMul, Int.reduceNeg, Int.reduceEq, Nat.reduceMod, forall_eq_or_imp, forall_eq, forall_const, cond_true, cond_false, decide_true, decide_false, true_imp_iff, implies_true, Int.cast_ofNat_Int, forall_eq']
  simp only [↓EVP0, EVQ0, EVQ1, EVQ2, EVQ3, EVQ4, EVA, EVK, EVF, ↓reduceIte, Nat.reduceEqDiff, Nat.reduceAdd, Nat.reduceSub, Nat.reduceMul, Nat.reduceLT, Nat.reduceLeDiff, reduceCtorEq, Int.reduceToNat, Int.reduceLT, Int.reduceLE, Int.reduceAdd, Int.reduceSub, Int.reduceMul, Int.reduceNeg, Int.reduceEq, Nat.reduceMod, forall_eq_or_imp, forall_eq, forall_const, cond_true, cond_false, decide_true, decide_false, true_imp_iff, implies_true, Int.cast_ofNat_Int, forall_eq']
  refine ⟨fun _ => trivial, fun g => ?_⟩
  refine callK_ro (h3 x y) ?_ ?_
  · simp only [↓EVP0, EVQ0, EVQ1, EVQ2, EVQ3, EVQ4, EVA, EVK, EVF, ↓reduceIte, Nat.reduceEqDiff, Nat.reduceAdd, Nat.reduceSub, Nat.reduceMul, Nat.reduceLT, Nat.reduceLeDiff, reduceCtorEq, Int.reduceToNat, Int.reduceLT, Int.reduceLE, Int.reduceAdd, Int.reduceSub, Int.reduceMul, Int.reduceNeg, Int.reduceEq, Nat.reduceMod, forall_eq_or_imp, forall_eq, forall_const, cond_true, cond_false, decide_true, decide_false, true_imp_iff, implies_true, Int.cast_ofNat_Int, forall_eq']
  simp only [↓EVP0, EVQ0, EVQ1, EVQ2, EVQ3, EVQ4, EVA, EVK, EVF, ↓reduceIte, Nat.reduceEqDiff, Nat.reduceAdd, Nat.reduceSub, Nat.reduceMul, Nat.reduceLT, Nat.reduceLeDiff, reduceCtorEq, Int.reduceToNat, Int.reduceLT, Int.reduceLE, Int.reduceAdd, Int.reduceSub, Int.reduceMul, Int.reduceNeg, Int.reduceEq, Nat.reduceMod, forall_eq_or_imp, forall_eq, forall_const, cond_true, cond_false, decide_true, decide_false, true_imp_iff, implies_true, Int.cast_ofNat_Int, forall_eq']
  refine callK_ro (h4) ?_ ?_
  · simp only [↓EVP0, EVQ0, EVQ1, EVQ2, EVQ3, EVQ4, EVA, EVK, EVF, ↓reduceIte, Nat.reduceEqDiff, Nat.reduceAdd, Nat.reduceSub, Nat.reduceMul, Nat.reduceLT, Nat.reduceLeDiff, reduceCtorEq, Int.reduceToNat, Int.reduceLT, Int.reduceLE, Int.reduceAdd, Int.reduceSub, Int.reduceMul, Int.reduceNeg, Int.reduceEq, Nat.reduceMod, forall_eq_or_imp, forall_eq, forall_const, cond_true, cond_false, decide_true, decide_false, true_imp_iff, implies_true, Int.cast_ofNat_Int, forall_eq']
  simp only [↓EVP0, EVQ0, EVQ1, EVQ2, EVQ3, EVQ4, EVA, EVK, EVF, ↓reduceIte, Nat.reduceEqDiff, Nat.reduceAdd, Nat.reduceSub, Nat.reduceMul, Nat.reduceLT, Nat.reduceLeDiff, reduceCtorEq, Int.reduceToNat, Int.reduceLT, Int.reduceLE, Int.reduceAdd, Int.reduceSub, Int.reduceMul, Int.reduceNeg, Int.reduceEq, Nat.reduceMod, forall_eq_or_imp, forall_eq, forall_const, cond_true, cond_false, decide_true, decide_false, true_imp_iff, implies_true, Int.cast_ofNat_Int, forall_eq']
  refine callK_ro (h5) ?_ ?_
  · simp only [↓EVP0, EVQ0, EVQ1, EVQ2, EVQ3, EVQ4, EVA, EVK, EVF, ↓reduceIte, Nat.reduceEqDiff, Nat.reduceAdd, Nat.reduceSub, Nat.reduceMul, Nat.reduceLT, Nat.reduceLeDiff, reduceCtorEq, Int.reduceToNat, Int.reduceLT, Int.reduceLE, Int.reduceAdd, Int.reduceSub, Int.reduceMul, Int.reduceNeg, Int.reduceEq, Nat.reduceMod, forall_eq_or_imp, forall_eq, forall_const, cond_true, cond_false, decide_true, decide_false, true_imp_iff, implies_true, Int.cast_ofNat_Int, forall_eq']
  simp only [↓EVP0, EVQ0, EVQ1, EVQ2, EVQ3, EVQ4, EVA, EVK, EVF, ↓reduceIte, Nat.reduceEqDiff, Nat.reduceAdd, Nat.reduceSub, Nat.reduceMul, Nat.reduceLT, Nat.reduceLeDiff, reduceCtorEq, Int.reduceToNat, Int.reduceLT, Int.reduceLE, Int.reduceAdd, Int.reduceSub, Int.reduceMul, Int.reduceNeg, Int.reduceEq, Nat.reduceMod, forall_eq_or_imp, forall_eq, forall_const, cond_true, cond_false, decide_true, decide_false, true_imp_iff, implies_true, Int.cast_ofNat_Int, forall_eq']
  refine ⟨fun hv => ?_, fun hv => ?_⟩
  · have hv' : validE p = 0 := of_decide_eq_true hv
    have hV := valid_of hv'
    have h32 := hV.c32
    have e : cablesE p x = cabT p x p.cs.length := by unfold cablesE; rw [if_pos hv']
    rw [e]
    intro _
    refine lwp_for (α := Unit) p.cs.length (fun _ _ => True) (fun k _ => [(1, .sc (.int .i64 x)), (2, .sc (.int .i64 y)), (3, .ptr 0 0 0 0 0), (7, .sc (.int .i64 (nbrE p x y).1)), (8, .sc (.int .i64 (nbrE p x y).2.1)), (9, .sc (.int .i64 (nbrE p x y).2.2.1)), (10, .sc (.bool (nbrE p x y).2.2.2)), (11, .rsl 1 (cabT p x p.cs.length).length (intsF (cabT p x p.cs.length))), (12, if cabT p x k = [] then .nsl else .sl 3 ((cabT p x k).length - 1) 1 0 (cabT p x k).length), (13, .sc (.int .i64 (atT p x y k))), (40, .rsl 6 p.cs.length (cbsF p.cs)), (41, .sc (.int .i64 p.cs.length)), (42, .sc (.int .i64 k))])
      (fun k _ => (0, .box [.rsl 3 p.ns.length (ndsF p.ns), .rsl 6 p.cs.length (cbsF p.cs)]) :: if cabT p x k = [] then [] else [(0, .box (cbL (p.cs.getD ((cabT p x k).getD 0 0).toNat default))), (0, .ints [(cabT p x k).getD 0 0]), ((cabT p x k).length - 1, .ints (cabT p x k))]) () trivial ?_ (fun _ _ => Nat.zero_le _) ?_
    · rw [show cabT p x 0 = [] from rfl, show atT p x y 0 = -1 from rfl]
      simp only [if_true]
      simp only [↓EVP0, EVQ0, EVQ1, EVQ2, EVQ3, EVQ4, EVA, EVK, EVF, ↓reduceIte, Nat.reduceEqDiff, Nat.reduceAdd, Nat.reduceSub, Nat.reduceMul, Nat.reduceLT, Nat.reduceLeDiff, reduceCtorEq, Int.reduceToNat, Int.reduceLT, Int.reduceLE, Int.reduceAdd, Int.reduceSub, Int.reduceMul, Int.reduceNeg, Int.reduceEq, Nat.reduceMod, forall_eq_or_imp, forall_eq, forall_const, cond_true, cond_false, decide_true, decide_false, true_imp_iff, implies_true, Int.cast_ofNat_Int, forall_eq']
    intro k _ hk _
    have hps : cabT p x (k + 1) = cabT p x k ++ if touB (p.cs.getD k default) x = true then [(k : Int)] else [] := pickT_succ _ k
    have hple : (cabT p x k).length ≤ k := pickT_len _ _
    have hat : atT p x y (k + 1) = if matB (p.cs.getD k default) x y = true then (k : Int) else atT p x y k := rfl
    have hoth : k < p.cs.length → decide (0 ≤ othE (p.cs.getD k default) x) = touB (p.cs.getD k default) x := fun h => oth_ge hv' (by
      rw [List.getD_eq_getElem?_getD, List.getElem?_eq_getElem h]; exact List.getElem_mem h) x
    by_cases hq : cabT p x k = []
    · by_cases hdk : touB (p.cs.getD k default) x = true
      · have hp1 : cabT p x (k + 1) = [(k : Int)] := by rw [hps, if_pos hdk, hq]; rfl
        simp only [hp1, hq, List.cons_ne_nil, if_true, if_false]
        unfold lb6_0
        simp only [↓EVP0, EVQ0, EVQ1, EVQ2, EVQ3, EVQ4, EVA, EVK, EVF, ↓reduceIte, Nat.reduceEqDiff, Nat.reduceAdd, Nat.reduceSub, Nat.reduceMul, Nat.reduceLT, Nat.reduceLeDiff, reduceCtorEq, Int.reduceToNat, Int.reduceLT, Int.reduceLE, Int.reduceAdd, Int.reduceSub, Int.reduceMul, Int.reduceNeg, Int.reduceEq, Nat.reduceMod, forall_eq_or_imp, forall_eq, forall_const, cond_true, cond_false, decide_true, decide_false, true_imp_iff, implies_true, Int.cast_ofNat_Int, forall_eq']
        have hdk' := hdk
        refine ⟨fun hg => ?_, fun hg => ?_⟩
        · have hk2 : k < p.cs.length := by have := of_decide_eq_true hg; omega
          refine ⟨⟨by omega, by omega⟩, ?_⟩
          refine callK_ro (h6 (p.cs.getD k default) x) ?_ ?_
          · simp only [↓EVP0, EVQ0, EVQ1, EVQ2, EVQ3, EVQ4, EVA, EVK, EVF, ↓reduceIte, Nat.reduceEqDiff, Nat.reduceAdd, Nat.reduceSub, Nat.reduceMul, Nat.reduceLT, Nat.reduceLeDiff, reduceCtorEq, Int.reduceToNat, Int.reduceLT, Int.reduceLE, Int.reduceAdd, Int.reduceSub, Int.reduceMul, Int.reduceNeg, Int.reduceEq, Nat.reduceMod, forall_eq_or_imp, forall_eq, forall_const, cond_true, cond_false, decide_true, decide_false, true_imp_iff, implies_true, Int.cast_ofNat_Int, forall_eq']
          simp only [↓EVP0, EVQ0, EVQ1, EVQ2, EVQ3, EVQ4, EVA, EVK, EVF, ↓reduceIte, Nat.reduceEqDiff, Nat.reduceAdd, Nat.reduceSub, Nat.reduceMul, Nat.reduceLT, Nat.reduceLeDiff, reduceCtorEq, Int.reduceToNat, Int.reduceLT, Int.reduceLE, Int.reduceAdd, Int.reduceSub, Int.reduceMul, Int.reduceNeg, Int.reduceEq, Nat.reduceMod, forall_eq_or_imp, forall_eq, forall_const, cond_true, cond_false, decide_true, decide_false, true_imp_iff, implies_true, Int.cast_ofNat_Int, forall_eq']
          rw [hoth hk2, hdk']
          simp only [show (bif bif decide ((p.cs.getD k default).a = x) then decide ((p.cs.getD k default).ap = y) else false then true else bif decide ((p.cs.getD k default).b = x) then decide ((p.cs.getD k default).bp = y) else false) = matB (p.cs.getD k default) x y by unfold matB; rw [condT, condF, condF]]
          exact ⟨fun _ => ⟨by unfold appRoom; omega, fun h => ⟨by unfold In64; omega, hk2, (), by rw [hat, if_pos h], rfl, cb_all _ _⟩, fun h => ⟨by unfold In64; omega, hk2, (), by rw [hat, if_neg (by rw [h]; simp)], rfl, cb_all _ _⟩⟩, fun h => by simp at h⟩
        · have hkk : k = p.cs.length := by have := of_decide_eq_false hg; omega
          subst hkk
          refine callK_frz (h7 (cabT p x p.cs.length) (cabT p x p.cs.length)) ?_ ?_ ?_
          · rw [hq]; simp only [↓EVP0, EVQ0, EVQ1, EVQ2, EVQ3, EVQ4, EVA, EVK, EVF, ↓reduceIte, Nat.reduceEqDiff, Nat.reduceAdd, Nat.reduceSub, Nat.reduceMul, Nat.reduceLT, Nat.reduceLeDiff, reduceCtorEq, Int.reduceToNat, Int.reduceLT, Int.reduceLE, Int.reduceAdd, Int.reduceSub, Int.reduceMul, Int.reduceNeg, Int.reduceEq, Nat.reduceMod, forall_eq_or_imp, forall_eq, forall_const, cond_true, cond_false, decide_true, decide_false, true_imp_iff, implies_true, Int.cast_ofNat_Int, forall_eq']
          · simp only [↓EVP0, EVQ0, EVQ1, EVQ2, EVQ3, EVQ4, EVA, EVK, EVF, ↓reduceIte, Nat.reduceEqDiff, Nat.reduceAdd, Nat.reduceSub, Nat.reduceMul, Nat.reduceLT, Nat.reduceLeDiff, reduceCtorEq, Int.reduceToNat, Int.reduceLT, Int.reduceLE, Int.reduceAdd, Int.reduceSub, Int.reduceMul, Int.reduceNeg, Int.reduceEq, Nat.reduceMod, forall_eq_or_imp, forall_eq, forall_const, cond_true, cond_false, decide_true, decide_false, true_imp_iff, implies_true, Int.cast_ofNat_Int, forall_eq']
          simp only [↓EVP0, EVQ0, EVQ1, EVQ2, EVQ3, EVQ4, EVA, EVK, EVF, ↓reduceIte, Nat.reduceEqDiff, Nat.reduceAdd, Nat.reduceSub, Nat.reduceMul, Nat.reduceLT, Nat.reduceLeDiff, reduceCtorEq, Int.reduceToNat, Int.reduceLT, Int.reduceLE, Int.reduceAdd, Int.reduceSub, Int.reduceMul, Int.reduceNeg, Int.reduceEq, Nat.reduceMod, forall_eq_or_imp, forall_eq, forall_const, cond_true, cond_false, decide_true, decide_false, true_imp_iff, implies_true, Int.cast_ofNat_Int, forall_eq']
          by_cases h0 : 0 ≤ atT p x y p.cs.length
          · obtain ⟨j, hj, e9, hm⟩ := atT_of h0
            obtain ⟨b1, b2, b3⟩ := nbr_back hv' hj hm
            rw [show (nbrE p x y).2.2.2 = true from congrArg (·.2) b2, show (nbrE p x y).2.2.1 = (j : Int) from congrArg (·.1) b2, e9]
            refine ⟨fun h => by simp at h, fun _ => ⟨fun h => by simp at h, fun _ => ?_⟩⟩
            refine callK_ro (h3 (nbrE p x y).1 (nbrE p x y).2.1) ?_ ?_
            · simp only [↓EVP0, EVQ0, EVQ1, EVQ2, EVQ3, EVQ4, EVA, EVK, EVF, ↓reduceIte, Nat.reduceEqDiff, Nat.reduceAdd, Nat.reduceSub, Nat.reduceMul, Nat.reduceLT, Nat.reduceLeDiff, reduceCtorEq, Int.reduceToNat, Int.reduceLT, Int.reduceLE, Int.reduceAdd, Int.reduceSub, Int.reduceMul, Int.reduceNeg, Int.reduceEq, Nat.reduceMod, forall_eq_or_imp, forall_eq, forall_const, cond_true, cond_false, decide_true, decide_false, true_imp_iff, implies_true, Int.cast_ofNat_Int, forall_eq']
            simp only [↓EVP0, EVQ0, EVQ1, EVQ2, EVQ3, EVQ4, EVA, EVK, EVF, ↓reduceIte, Nat.reduceEqDiff, Nat.reduceAdd, Nat.reduceSub, Nat.reduceMul, Nat.reduceLT, Nat.reduceLeDiff, reduceCtorEq, Int.reduceToNat, Int.reduceLT, Int.reduceLE, Int.reduceAdd, Int.reduceSub, Int.reduceMul, Int.reduceNeg, Int.reduceEq, Nat.reduceMod, forall_eq_or_imp, forall_eq, forall_const, cond_true, cond_false, decide_true, decide_false, true_imp_iff, implies_true, Int.cast_ofNat_Int, forall_eq']
            rw [b1]
            simp only [decide_true, cond_true]
            refine ⟨fun _ => ⟨by omega, by omega⟩, ?_⟩
            (refine lops_ge_imp ?_; simp only [↓EVP0, EVQ0, EVQ1, EVQ2, EVQ3, EVQ4, EVA, EVK, EVF, ↓reduceIte, Nat.reduceEqDiff, Nat.reduceAdd, Nat.reduceSub, Nat.reduceMul, Nat.reduceLT, Nat.reduceLeDiff, reduceCtorEq, Int.reduceToNat, Int.reduceLT, Int.reduceLE, Int.reduceAdd, Int.reduceSub, Int.reduceMul, Int.reduceNeg, Int.reduceEq, Nat.reduceMod, forall_eq_or_imp, forall_eq, forall_const, cond_true, cond_false, decide_true, decide_false, true_imp_iff, implies_true, Int.cast_ofNat_Int, forall_eq'])
            refine gCallK_ro _ (fun _ => h6 (p.cs.getD j default) x) (fun _ => ?_) ?_
            · simp only [↓EVP0, EVQ0, EVQ1, EVQ2, EVQ3, EVQ4, EVA, EVK, EVF, ↓reduceIte, Nat.reduceEqDiff, Nat.reduceAdd, Nat.reduceSub, Nat.reduceMul, Nat.reduceLT, Nat.reduceLeDiff, reduceCtorEq, Int.reduceToNat, Int.reduceLT, Int.reduceLE, Int.reduceAdd, Int.reduceSub, Int.reduceMul, Int.reduceNeg, Int.reduceEq, Nat.reduceMod, forall_eq_or_imp, forall_eq, forall_const, cond_true, cond_false, decide_true, decide_false, true_imp_iff, implies_true, Int.cast_ofNat_Int, forall_eq']
            simp only [↓EVP0, EVQ0, EVQ1, EVQ2, EVQ3, EVQ4, EVA, EVK, EVF, ↓reduceIte, Nat.reduceEqDiff, Nat.reduceAdd, Nat.reduceSub, Nat.reduceMul, Nat.reduceLT, Nat.reduceLeDiff, reduceCtorEq, Int.reduceToNat, Int.reduceLT, Int.reduceLE, Int.reduceAdd, Int.reduceSub, Int.reduceMul, Int.reduceNeg, Int.reduceEq, Nat.reduceMod, forall_eq_or_imp, forall_eq, forall_const, cond_true, cond_false, decide_true, decide_false, true_imp_iff, implies_true, Int.cast_ofNat_Int, forall_eq']
            exact decide_eq_true b3
          · obtain ⟨e9, hm⟩ := atT_neg h0
            have b1 : nbrE p x y = (-1, -1, -1, false) := by
              unfold nbrE
              rw [if_pos hv']
              refine nbrGo_none fun c hc => ?_
              obtain ⟨j, hj, rfl⟩ := List.getElem_of_mem hc
              have := hm j hj
              rwa [List.getD_eq_getElem?_getD, List.getElem?_eq_getElem hj] at this
            rw [b1, e9]
            exact ⟨fun h => by simp at h, fun _ => ⟨fun _ => by simp, fun h => by simp at h⟩⟩
      · have hp1 : cabT p x (k + 1) = [] := by rw [hps, if_neg hdk, hq]; rfl
        simp only [hp1, hq, if_true]
        unfold lb6_0
        simp only [↓EVP0, EVQ0, EVQ1, EVQ2, EVQ3, EVQ4, EVA, EVK, EVF, ↓reduceIte, Nat.reduceEqDiff, Nat.reduceAdd, Nat.reduceSub, Nat.reduceMul, Nat.reduceLT, Nat.reduceLeDiff, reduceCtorEq, Int.reduceToNat, Int.reduceLT, Int.reduceLE, Int.reduceAdd, Int.reduceSub, Int.reduceMul, Int.reduceNeg, Int.reduceEq, Nat.reduceMod, forall_eq_or_imp, forall_eq, forall_const, cond_true, cond_false, decide_true, decide_false, true_imp_iff, implies_true, Int.cast_ofNat_Int, forall_eq']
        have hdk'' : touB (p.cs.getD k default) x = false := by simpa using hdk
        refine ⟨fun hg => ?_, fun hg => ?_⟩
        · have hk2 : k < p.cs.length := by have := of_decide_eq_true hg; omega
          refine ⟨⟨by omega, by omega⟩, ?_⟩
          refine callK_ro (h6 (p.cs.getD k default) x) ?_ ?_
          · simp only [↓EVP0, EVQ0, EVQ1, EVQ2, EVQ3, EVQ4, EVA, EVK, EVF, ↓reduceIte, Nat.reduceEqDiff, Nat.reduceAdd, Nat.reduceSub, Nat.reduceMul, Nat.reduceLT, Nat.reduceLeDiff, reduceCtorEq, Int.reduceToNat, Int.reduceLT, Int.reduceLE, Int.reduceAdd, Int.reduceSub, Int.reduceMul, Int.reduceNeg, Int.reduceEq, Nat.reduceMod, forall_eq_or_imp, forall_eq, forall_const, cond_true, cond_false, decide_true, decide_false, true_imp_iff, implies_true, Int.cast_ofNat_Int, forall_eq']
          simp only [↓EVP0, EVQ0, EVQ1, EVQ2, EVQ3, EVQ4, EVA, EVK, EVF, ↓reduceIte, Nat.reduceEqDiff, Nat.reduceAdd, Nat.reduceSub, Nat.reduceMul, Nat.reduceLT, Nat.reduceLeDiff, reduceCtorEq, Int.reduceToNat, Int.reduceLT, Int.reduceLE, Int.reduceAdd, Int.reduceSub, Int.reduceMul, Int.reduceNeg, Int.reduceEq, Nat.reduceMod, forall_eq_or_imp, forall_eq, forall_const, cond_true, cond_false, decide_true, decide_false, true_imp_iff, implies_true, Int.cast_ofNat_Int, forall_eq']
          rw [hoth hk2, hdk'']
          simp only [show (bif bif decide ((p.cs.getD k default).a = x) then decide ((p.cs.getD k default).ap = y) else false then true else bif decide ((p.cs.getD k default).b = x) then decide ((p.cs.getD k default).bp = y) else false) = matB (p.cs.getD k default) x y by unfold matB; rw [condT, condF, condF]]
          exact ⟨fun h => by simp at h, fun _ => ⟨fun h => ⟨by unfold In64; omega, hk2, (), by rw [hat, if_pos h]⟩, fun h => ⟨by unfold In64; omega, hk2, (), by rw [hat, if_neg (by rw [h]; simp)]⟩⟩⟩
        · have hkk : k = p.cs.length := by have := of_decide_eq_false hg; omega
          subst hkk
          refine callK_frz (h7 (cabT p x p.cs.length) (cabT p x p.cs.length)) ?_ ?_ ?_
          · rw [hq]; simp only [↓EVP0, EVQ0, EVQ1, EVQ2, EVQ3, EVQ4, EVA, EVK, EVF, ↓reduceIte, Nat.reduceEqDiff, Nat.reduceAdd, Nat.reduceSub, Nat.reduceMul, Nat.reduceLT, Nat.reduceLeDiff, reduceCtorEq, Int.reduceToNat, Int.reduceLT, Int.reduceLE, Int.reduceAdd, Int.reduceSub, Int.reduceMul, Int.reduceNeg, Int.reduceEq, Nat.reduceMod, forall_eq_or_imp, forall_eq, forall_const, cond_true, cond_false, decide_true, decide_false, true_imp_iff, implies_true, Int.cast_ofNat_Int, forall_eq']
          · simp only [↓EVP0, EVQ0, EVQ1, EVQ2, EVQ3, EVQ4, EVA, EVK, EVF, ↓reduceIte, Nat.reduceEqDiff, Nat.reduceAdd, Nat.reduceSub, Nat.reduceMul, Nat.reduceLT, Nat.reduceLeDiff, reduceCtorEq, Int.reduceToNat, Int.reduceLT, Int.reduceLE, Int.reduceAdd, Int.reduceSub, Int.reduceMul, Int.reduceNeg, Int.reduceEq, Nat.reduceMod, forall_eq_or_imp, forall_eq, forall_const, cond_true, cond_false, decide_true, decide_false, true_imp_iff, implies_true, Int.cast_ofNat_Int, forall_eq']
          simp only [↓EVP0, EVQ0, EVQ1, EVQ2, EVQ3, EVQ4, EVA, EVK, EVF, ↓reduceIte, Nat.reduceEqDiff, Nat.reduceAdd, Nat.reduceSub, Nat.reduceMul, Nat.reduceLT, Nat.reduceLeDiff, reduceCtorEq, Int.reduceToNat, Int.reduceLT, Int.reduceLE, Int.reduceAdd, Int.reduceSub, Int.reduceMul, Int.reduceNeg, Int.reduceEq, Nat.reduceMod, forall_eq_or_imp, forall_eq, forall_const, cond_true, cond_false, decide_true, decide_false, true_imp_iff, implies_true, Int.cast_ofNat_Int, forall_eq']
          by_cases h0 : 0 ≤ atT p x y p.cs.length
          · obtain ⟨j, hj, e9, hm⟩ := atT_of h0
            obtain ⟨b1, b2, b3⟩ := nbr_back hv' hj hm
            rw [show (nbrE p x y).2.2.2 = true from congrArg (·.2) b2, show (nbrE p x y).2.2.1 = (j : Int) from congrArg (·.1) b2, e9]
            refine ⟨fun h => by simp at h, fun _ => ⟨fun h => by simp at h, fun _ => ?_⟩⟩
            refine callK_ro (h3 (nbrE p x y).1 (nbrE p x y).2.1) ?_ ?_
            · simp only [↓EVP0, EVQ0, EVQ1, EVQ2, EVQ3, EVQ4, EVA, EVK, EVF, ↓reduceIte, Nat.reduceEqDiff, Nat.reduceAdd, Nat.reduceSub, Nat.reduceMul, Nat.reduceLT, Nat.reduceLeDiff, reduceCtorEq, Int.reduceToNat, Int.reduceLT, Int.reduceLE, Int.reduceAdd, Int.reduceSub, Int.reduceMul, Int.reduceNeg, Int.reduceEq, Nat.reduceMod, forall_eq_or_imp, forall_eq, forall_const, cond_true, cond_false, decide_true, decide_false, true_imp_iff, implies_true, Int.cast_ofNat_Int, forall_eq']
            simp only [↓EVP0, EVQ0, EVQ1, EVQ2, EVQ3, EVQ4, EVA, EVK, EVF, ↓reduceIte, Nat.reduceEqDiff, Nat.reduceAdd, Nat.reduceSub, Nat.reduceMul, Nat.reduceLT, Nat.reduceLeDiff, reduceCtorEq, Int.reduceToNat, Int.reduceLT, Int.reduceLE, Int.reduceAdd, Int.reduceSub, Int.reduceMul, Int.reduceNeg, Int.reduceEq, Nat.reduceMod, forall_eq_or_imp, forall_eq, forall_const, cond_true, cond_false, decide_true, decide_false, true_imp_iff, implies_true, Int.cast_ofNat_Int, forall_eq']
            rw [b1]
            simp only [decide_true, cond_true]
            refine ⟨fun _ => ⟨by omega, by omega⟩, ?_⟩
            (refine lops_ge_imp ?_; simp only [↓EVP0, EVQ0, EVQ1, EVQ2, EVQ3, EVQ4, EVA, EVK, EVF, ↓reduceIte, Nat.reduceEqDiff, Nat.reduceAdd, Nat.reduceSub, Nat.reduceMul, Nat.reduceLT, Nat.reduceLeDiff, reduceCtorEq, Int.reduceToNat, Int.reduceLT, Int.reduceLE, Int.reduceAdd, Int.reduceSub, Int.reduceMul, Int.reduceNeg, Int.reduceEq, Nat.reduceMod, forall_eq_or_imp, forall_eq, forall_const, cond_true, cond_false, decide_true, decide_false, true_imp_iff, implies_true, Int.cast_ofNat_Int, forall_eq'])
            refine gCallK_ro _ (fun _ => h6 (p.cs.getD j default) x) (fun _ => ?_) ?_
            · simp only [↓EVP0, EVQ0, EVQ1, EVQ2, EVQ3, EVQ4, EVA, EVK, EVF, ↓reduceIte, Nat.reduceEqDiff, Nat.reduceAdd, Nat.reduceSub, Nat.reduceMul, Nat.reduceLT, Nat.reduceLeDiff, reduceCtorEq, Int.reduceToNat, Int.reduceLT, Int.reduceLE, Int.reduceAdd, Int.reduceSub, Int.reduceMul, Int.reduceNeg, Int.reduceEq, Nat.reduceMod, forall_eq_or_imp, forall_eq, forall_const, cond_true, cond_false, decide_true, decide_false, true_imp_iff, implies_true, Int.cast_ofNat_Int, forall_eq']
            simp only [↓EVP0, EVQ0, EVQ1, EVQ2, EVQ3, EVQ4, EVA, EVK, EVF, ↓reduceIte, Nat.reduceEqDiff, Nat.reduceAdd, Nat.reduceSub, Nat.reduceMul, Nat.reduceLT, Nat.reduceLeDiff, reduceCtorEq, Int.reduceToNat, Int.reduceLT, Int.reduceLE, Int.reduceAdd, Int.reduceSub, Int.reduceMul, Int.reduceNeg, Int.reduceEq, Nat.reduceMod, forall_eq_or_imp, forall_eq, forall_const, cond_true, cond_false, decide_true, decide_false, true_imp_iff, implies_true, Int.cast_ofNat_Int, forall_eq']
            exact decide_eq_true b3
          · obtain ⟨e9, hm⟩ := atT_neg h0
            have b1 : nbrE p x y = (-1, -1, -1, false) := by
              unfold nbrE
              rw [if_pos hv']
              refine nbrGo_none fun c hc => ?_
              obtain ⟨j, hj, rfl⟩ := List.getElem_of_mem hc
              have := hm j hj
              rwa [List.getD_eq_getElem?_getD, List.getElem?_eq_getElem hj] at this
            rw [b1, e9]
            exact ⟨fun h => by simp at h, fun _ => ⟨fun _ => by simp, fun h => by simp at h⟩⟩
    · by_cases hdk : touB (p.cs.getD k default) x = true
      · have hp1 : cabT p x (k + 1) = cabT p x k ++ [(k : Int)] := by rw [hps, if_pos hdk]
        simp only [hp1, hq, List.append_eq_nil_iff, List.cons_ne_nil, and_false, if_false]
        unfold lb6_0
        simp only [↓EVP0, EVQ0, EVQ1, EVQ2, EVQ3, EVQ4, EVA, EVK, EVF, ↓reduceIte, Nat.reduceEqDiff, Nat.reduceAdd, Nat.reduceSub, Nat.reduceMul, Nat.reduceLT, Nat.reduceLeDiff, reduceCtorEq, Int.reduceToNat, Int.reduceLT, Int.reduceLE, Int.reduceAdd, Int.reduceSub, Int.reduceMul, Int.reduceNeg, Int.reduceEq, Nat.reduceMod, forall_eq_or_imp, forall_eq, forall_const, cond_true, cond_false, decide_true, decide_false, true_imp_iff, implies_true, Int.cast_ofNat_Int, forall_eq']
        have hdk' := hdk
        refine ⟨fun hg => ?_, fun hg => ?_⟩
        · have hk2 : k < p.cs.length := by have := of_decide_eq_true hg; omega
          refine ⟨⟨by omega, by omega⟩, ?_⟩
          refine callK_ro (h6 (p.cs.getD k default) x) ?_ ?_
          · simp only [↓EVP0, EVQ0, EVQ1, EVQ2, EVQ3, EVQ4, EVA, EVK, EVF, ↓reduceIte, Nat.reduceEqDiff, Nat.reduceAdd, Nat.reduceSub, Nat.reduceMul, Nat.reduceLT, Nat.reduceLeDiff, reduceCtorEq, Int.reduceToNat, Int.reduceLT, Int.reduceLE, Int.reduceAdd, Int.reduceSub, Int.reduceMul, Int.reduceNeg, Int.reduceEq, Nat.reduceMod, forall_eq_or_imp, forall_eq, forall_const, cond_true, cond_false, decide_true, decide_false, true_imp_iff, implies_true, Int.cast_ofNat_Int, forall_eq']
          simp only [↓EVP0, EVQ0, EVQ1, EVQ2, EVQ3, EVQ4, EVA, EVK, EVF, ↓reduceIte, Nat.reduceEqDiff, Nat.reduceAdd, Nat.reduceSub, Nat.reduceMul, Nat.reduceLT, Nat.reduceLeDiff, reduceCtorEq, Int.reduceToNat, Int.reduceLT, Int.reduceLE, Int.reduceAdd, Int.reduceSub, Int.reduceMul, Int.reduceNeg, Int.reduceEq, Nat.reduceMod, forall_eq_or_imp, forall_eq, forall_const, cond_true, cond_false, decide_true, decide_false, true_imp_iff, implies_true, Int.cast_ofNat_Int, forall_eq']
          rw [hoth hk2, hdk']
          simp only [show (bif bif decide ((p.cs.getD k default).a = x) then decide ((p.cs.getD k default).ap = y) else false then true else bif decide ((p.cs.getD k default).b = x) then decide ((p.cs.getD k default).bp = y) else false) = matB (p.cs.getD k default) x y by unfold matB; rw [condT, condF, condF]]
          have hpl : 0 < (cabT p x k).length := List.length_pos_iff.2 hq
          have hl1 : (cabT p x k ++ [(k : Int)]).length = (cabT p x k).length + 1 := by simp
          refine ⟨fun _ => ⟨Nat.le_refl _, by unfold appRoom; omega, ?_⟩, fun h => by simp at h⟩
          rw [show (cabT p x k).length - 1 + 1 = (cabT p x k).length + 1 - 1 by omega, List.take_of_length_le (Nat.le_refl _), hl1, getD_app0 hpl]
          exact ⟨fun h => ⟨by unfold In64; omega, hk2, (), ⟨rfl, by rw [hat, if_pos h]⟩, rfl, cb_all _ _, rfl, rfl, rfl⟩, fun h => ⟨by unfold In64; omega, hk2, (), ⟨rfl, by rw [hat, if_neg (by rw [h]; simp)]⟩, rfl, cb_all _ _, rfl, rfl, rfl⟩⟩
        · have hkk : k = p.cs.length := by have := of_decide_eq_false hg; omega
          subst hkk
          refine callK_frz (h7 (cabT p x p.cs.length) (cabT p x p.cs.length)) ?_ ?_ ?_
          · simp only [↓EVP0, EVQ0, EVQ1, EVQ2, EVQ3, EVQ4, EVA, EVK, EVF, ↓reduceIte, Nat.reduceEqDiff, Nat.reduceAdd, Nat.reduceSub, Nat.reduceMul, Nat.reduceLT, Nat.reduceLeDiff, reduceCtorEq, Int.reduceToNat, Int.reduceLT, Int.reduceLE, Int.reduceAdd, Int.reduceSub, Int.reduceMul, Int.reduceNeg, Int.reduceEq, Nat.reduceMod, forall_eq_or_imp, forall_eq, forall_const, cond_true, cond_false, decide_true, decide_false, true_imp_iff, implies_true, Int.cast_ofNat_Int, forall_eq']; exact Nat.le_refl _
          · simp only [↓EVP0, EVQ0, EVQ1, EVQ2, EVQ3, EVQ4, EVA, EVK, EVF, ↓reduceIte, Nat.reduceEqDiff, Nat.reduceAdd, Nat.reduceSub, Nat.reduceMul, Nat.reduceLT, Nat.reduceLeDiff, reduceCtorEq, Int.reduceToNat, Int.reduceLT, Int.reduceLE, Int.reduceAdd, Int.reduceSub, Int.reduceMul, Int.reduceNeg, Int.reduceEq, Nat.reduceMod, forall_eq_or_imp, forall_eq, forall_const, cond_true, cond_false, decide_true, decide_false, true_imp_iff, implies_true, Int.cast_ofNat_Int, forall_eq']
          simp only [↓EVP0, EVQ0, EVQ1, EVQ2, EVQ3, EVQ4, EVA, EVK, EVF, ↓reduceIte, Nat.reduceEqDiff, Nat.reduceAdd, Nat.reduceSub, Nat.reduceMul, Nat.reduceLT, Nat.reduceLeDiff, reduceCtorEq, Int.reduceToNat, Int.reduceLT, Int.reduceLE, Int.reduceAdd, Int.reduceSub, Int.reduceMul, Int.reduceNeg, Int.reduceEq, Nat.reduceMod, forall_eq_or_imp, forall_eq, forall_const, cond_true, cond_false, decide_true, decide_false, true_imp_iff, implies_true, Int.cast_ofNat_Int, forall_eq']
          by_cases h0 : 0 ≤ atT p x y p.cs.length
          · obtain ⟨j, hj, e9, hm⟩ := atT_of h0
            obtain ⟨b1, b2, b3⟩ := nbr_back hv' hj hm
            rw [show (nbrE p x y).2.2.2 = true from congrArg (·.2) b2, show (nbrE p x y).2.2.1 = (j : Int) from congrArg (·.1) b2, e9]
            refine ⟨fun h => by simp at h, fun _ => ⟨fun h => by simp at h, fun _ => ?_⟩⟩
            refine callK_ro (h3 (nbrE p x y).1 (nbrE p x y).2.1) ?_ ?_
            · simp only [↓EVP0, EVQ0, EVQ1, EVQ2, EVQ3, EVQ4, EVA, EVK, EVF, ↓reduceIte, Nat.reduceEqDiff, Nat.reduceAdd, Nat.reduceSub, Nat.reduceMul, Nat.reduceLT, Nat.reduceLeDiff, reduceCtorEq, Int.reduceToNat, Int.reduceLT, Int.reduceLE, Int.reduceAdd, Int.reduceSub, Int.reduceMul, Int.reduceNeg, Int.reduceEq, Nat.reduceMod, forall_eq_or_imp, forall_eq, forall_const, cond_true, cond_false, decide_true, decide_false, true_imp_iff, implies_true, Int.cast_ofNat_Int, forall_eq']
            simp only [↓EVP0, EVQ0, EVQ1, EVQ2, EVQ3, EVQ4, EVA, EVK, EVF, ↓reduceIte, Nat.reduceEqDiff, Nat.reduceAdd, Nat.reduceSub, Nat.reduceMul, Nat.reduceLT, Nat.reduceLeDiff, reduceCtorEq, Int.reduceToNat, Int.reduceLT, Int.reduceLE, Int.reduceAdd, Int.reduceSub, Int.reduceMul, Int.reduceNeg, Int.reduceEq, Nat.reduceMod, forall_eq_or_imp, forall_eq, forall_const, cond_true, cond_false, decide_true, decide_false, true_imp_iff, implies_true, Int.cast_ofNat_Int, forall_eq']
            rw [b1]
            simp only [decide_true, cond_true]
            refine ⟨fun _ => ⟨by omega, by omega⟩, ?_⟩
            (refine lops_ge_imp ?_; simp only [↓EVP0, EVQ0, EVQ1, EVQ2, EVQ3, EVQ4, EVA, EVK, EVF, ↓reduceIte, Nat.reduceEqDiff, Nat.reduceAdd, Nat.reduceSub, Nat.reduceMul, Nat.reduceLT, Nat.reduceLeDiff, reduceCtorEq, Int.reduceToNat, Int.reduceLT, Int.reduceLE, Int.reduceAdd, Int.reduceSub, Int.reduceMul, Int.reduceNeg, Int.reduceEq, Nat.reduceMod, forall_eq_or_imp, forall_eq, forall_const, cond_true, cond_false, decide_true, decide_false, true_imp_iff, implies_true, Int.cast_ofNat_Int, forall_eq'])
            refine gCallK_ro _ (fun _ => h6 (p.cs.getD j default) x) (fun _ => ?_) ?_
            · simp only [↓EVP0, EVQ0, EVQ1, EVQ2, EVQ3, EVQ4, EVA, EVK, EVF, ↓reduceIte, Nat.reduceEqDiff, Nat.reduceAdd, Nat.reduceSub, Nat.reduceMul, Nat.reduceLT, Nat.reduceLeDiff, reduceCtorEq, Int.reduceToNat, Int.reduceLT, Int.reduceLE, Int.reduceAdd, Int.reduceSub, Int.reduceMul, Int.reduceNeg, Int.reduceEq, Nat.reduceMod, forall_eq_or_imp, forall_eq, forall_const, cond_true, cond_false, decide_true, decide_false, true_imp_iff, implies_true, Int.cast_ofNat_Int, forall_eq']
            simp only [↓EVP0, EVQ0, EVQ1, EVQ2, EVQ3, EVQ4, EVA, EVK, EVF, ↓reduceIte, Nat.reduceEqDiff, Nat.reduceAdd, Nat.reduceSub, Nat.reduceMul, Nat.reduceLT, Nat.reduceLeDiff, reduceCtorEq, Int.reduceToNat, Int.reduceLT, Int.reduceLE, Int.reduceAdd, Int.reduceSub, Int.reduceMul, Int.reduceNeg, Int.reduceEq, Nat.reduceMod, forall_eq_or_imp, forall_eq, forall_const, cond_true, cond_false, decide_true, decide_false, true_imp_iff, implies_true, Int.cast_ofNat_Int, forall_eq']
            exact decide_eq_true b3
          · obtain ⟨e9, hm⟩ := atT_neg h0
            have b1 : nbrE p x y = (-1, -1, -1, false) := by
              unfold nbrE
              rw [if_pos hv']
              refine nbrGo_none fun c hc => ?_
              obtain ⟨j, hj, rfl⟩ := List.getElem_of_mem hc
              have := hm j hj
              rwa [List.getD_eq_getElem?_getD, List.getElem?_eq_getElem hj] at this
            rw [b1, e9]
            exact ⟨fun h => by simp at h, fun _ => ⟨fun _ => by simp, fun h => by simp at h⟩⟩
      · have hp1 : cabT p x (k + 1) = cabT p x k := by rw [hps, if_neg hdk]; simp
        simp only [hp1, hq, if_false]
        unfold lb6_0
        simp only [↓EVP0, EVQ0, EVQ1, EVQ2, EVQ3, EVQ4, EVA, EVK, EVF, ↓reduceIte, Nat.reduceEqDiff, Nat.reduceAdd, Nat.reduceSub, Nat.reduceMul, Nat.reduceLT, Nat.reduceLeDiff, reduceCtorEq, Int.reduceToNat, Int.reduceLT, Int.reduceLE, Int.reduceAdd, Int.reduceSub, Int.reduceMul, Int.reduceNeg, Int.reduceEq, Nat.reduceMod, forall_eq_or_imp, forall_eq, forall_const, cond_true, cond_false, decide_true, decide_false, true_imp_iff, implies_true, Int.cast_ofNat_Int, forall_eq']
        have hdk'' : touB (p.cs.getD k default) x = false := by simpa using hdk
        refine ⟨fun hg => ?_, fun hg => ?_⟩
        · have hk2 : k < p.cs.length := by have := of_decide_eq_true hg; omega
          refine ⟨⟨by omega, by omega⟩, ?_⟩
          refine callK_ro (h6 (p.cs.getD k default) x) ?_ ?_
          · simp only [↓EVP0, EVQ0, EVQ1, EVQ2, EVQ3, EVQ4, EVA, EVK, EVF, ↓reduceIte, Nat.reduceEqDiff, Nat.reduceAdd, Nat.reduceSub, Nat.reduceMul, Nat.reduceLT, Nat.reduceLeDiff, reduceCtorEq, Int.reduceToNat, Int.reduceLT, Int.reduceLE, Int.reduceAdd, Int.reduceSub, Int.reduceMul, Int.reduceNeg, Int.reduceEq, Nat.reduceMod, forall_eq_or_imp, forall_eq, forall_const, cond_true, cond_false, decide_true, decide_false, true_imp_iff, implies_true, Int.cast_ofNat_Int, forall_eq']
          simp only [↓EVP0, EVQ0, EVQ1, EVQ2, EVQ3, EVQ4, EVA, EVK, EVF, ↓reduceIte, Nat.reduceEqDiff, Nat.reduceAdd, Nat.reduceSub, Nat.reduceMul, Nat.reduceLT, Nat.reduceLeDiff, reduceCtorEq, Int.reduceToNat, Int.reduceLT, Int.reduceLE, Int.reduceAdd, Int.reduceSub, Int.reduceMul, Int.reduceNeg, Int.reduceEq, Nat.reduceMod, forall_eq_or_imp, forall_eq, forall_const, cond_true, cond_false, decide_true, decide_false, true_imp_iff, implies_true, Int.cast_ofNat_Int, forall_eq']
          rw [hoth hk2, hdk'']
          simp only [show (bif bif decide ((p.cs.getD k default).a = x) then decide ((p.cs.getD k default).ap = y) else false then true else bif decide ((p.cs.getD k default).b = x) then decide ((p.cs.getD k default).bp = y) else false) = matB (p.cs.getD k default) x y by unfold matB; rw [condT, condF, condF]]
          exact ⟨fun h => by simp at h, fun _ => ⟨fun h => ⟨by unfold In64; omega, hk2, (), by rw [hat, if_pos h], cb_all _ _⟩, fun h => ⟨by unfold In64; omega, hk2, (), by rw [hat, if_neg (by rw [h]; simp)], cb_all _ _⟩⟩⟩
        · have hkk : k = p.cs.length := by have := of_decide_eq_false hg; omega
          subst hkk
          refine callK_frz (h7 (cabT p x p.cs.length) (cabT p x p.cs.length)) ?_ ?_ ?_
          · simp only [↓EVP0, EVQ0, EVQ1, EVQ2, EVQ3, EVQ4, EVA, EVK, EVF, ↓reduceIte, Nat.reduceEqDiff, Nat.reduceAdd, Nat.reduceSub, Nat.reduceMul, Nat.reduceLT, Nat.reduceLeDiff, reduceCtorEq, Int.reduceToNat, Int.reduceLT, Int.reduceLE, Int.reduceAdd, Int.reduceSub, Int.reduceMul, Int.reduceNeg, Int.reduceEq, Nat.reduceMod, forall_eq_or_imp, forall_eq, forall_const, cond_true, cond_false, decide_true, decide_false, true_imp_iff, implies_true, Int.cast_ofNat_Int, forall_eq']; exact Nat.le_refl _
          · simp only [↓EVP0, EVQ0, EVQ1, EVQ2, EVQ3, EVQ4, EVA, EVK, EVF, ↓reduceIte, Nat.reduceEqDiff, Nat.reduceAdd, Nat.reduceSub, Nat.reduceMul, Nat.reduceLT, Nat.reduceLeDiff, reduceCtorEq, Int.reduceToNat, Int.reduceLT, Int.reduceLE, Int.reduceAdd, Int.reduceSub, Int.reduceMul, Int.reduceNeg, Int.reduceEq, Nat.reduceMod, forall_eq_or_imp, forall_eq, forall_const, cond_true, cond_false, decide_true, decide_false, true_imp_iff, implies_true, Int.cast_ofNat_Int, forall_eq']
          simp only [↓EVP0, EVQ0, EVQ1, EVQ2, EVQ3, EVQ4, EVA, EVK, EVF, ↓reduceIte, Nat.reduceEqDiff, Nat.reduceAdd, Nat.reduceSub, Nat.reduceMul, Nat.reduceLT, Nat.reduceLeDiff, reduceCtorEq, Int.reduceToNat, Int.reduceLT, Int.reduceLE, Int.reduceAdd, Int.reduceSub, Int.reduceMul, Int.reduceNeg, Int.reduceEq, Nat.reduceMod, forall_eq_or_imp, forall_eq, forall_const, cond_true, cond_false, decide_true, decide_false, true_imp_iff, implies_true, Int.cast_ofNat_Int, forall_eq']
          by_cases h0 : 0 ≤ atT p x y p.cs.length
          · obtain ⟨j, hj, e9, hm⟩ := atT_of h0
            obtain ⟨b1, b2, b3⟩ := nbr_back hv' hj hm
            rw [show (nbrE p x y).2.2.2 = true from congrArg (·.2) b2, show (nbrE p x y).2.2.1 = (j : Int) from congrArg (·.1) b2, e9]
            refine ⟨fun h => by simp at h, fun _ => ⟨fun h => by simp at h, fun _ => ?_⟩⟩
            refine callK_ro (h3 (nbrE p x y).1 (nbrE p x y).2.1) ?_ ?_
            · simp only [↓EVP0, EVQ0, EVQ1, EVQ2, EVQ3, EVQ4, EVA, EVK, EVF, ↓reduceIte, Nat.reduceEqDiff, Nat.reduceAdd, Nat.reduceSub, Nat.reduceMul, Nat.reduceLT, Nat.reduceLeDiff, reduceCtorEq, Int.reduceToNat, Int.reduceLT, Int.reduceLE, Int.reduceAdd, Int.reduceSub, Int.reduceMul, Int.reduceNeg, Int.reduceEq, Nat.reduceMod, forall_eq_or_imp, forall_eq, forall_const, cond_true, cond_false, decide_true, decide_false, true_imp_iff, implies_true, Int.cast_ofNat_Int, forall_eq']
            simp only [↓EVP0, EVQ0, EVQ1, EVQ2, EVQ3, EVQ4, EVA, EVK, EVF, ↓reduceIte, Nat.reduceEqDiff, Nat.reduceAdd, Nat.reduceSub, Nat.reduceMul, Nat.reduceLT, Nat.reduceLeDiff, reduceCtorEq, Int.reduceToNat, Int.reduceLT, Int.reduceLE, Int.reduceAdd, Int.reduceSub, Int.reduceMul, Int.reduceNeg, Int.reduceEq, Nat.reduceMod, forall_eq_or_imp, forall_eq, forall_const, cond_true, cond_false, decide_true, decide_false, true_imp_iff, implies_true, Int.cast_ofNat_Int, forall_eq']
            rw [b1]
            simp only [decide_true, cond_true]
            refine ⟨fun _ => ⟨by omega, by omega⟩, ?_⟩
            (refine lops_ge_imp ?_; simp only [↓EVP0, EVQ0, EVQ1, EVQ2, EVQ3, EVQ4, EVA, EVK, EVF, ↓reduceIte, Nat.reduceEqDiff, Nat.reduceAdd, Nat.reduceSub, Nat.reduceMul, Nat.reduceLT, Nat.reduceLeDiff, reduceCtorEq, Int.reduceToNat, Int.reduceLT, Int.reduceLE, Int.reduceAdd, Int.reduceSub, Int.reduceMul, Int.reduceNeg, Int.reduceEq, Nat.reduceMod, forall_eq_or_imp, forall_eq, forall_const, cond_true, cond_false, decide_true, decide_false, true_imp_iff, implies_true, Int.cast_ofNat_Int, forall_eq'])
            refine gCallK_ro _ (fun _ => h6 (p.cs.getD j default) x) (fun _ => ?_) ?_
            · simp only [↓EVP0, EVQ0, EVQ1, EVQ2, EVQ3, EVQ4, EVA, EVK, EVF, ↓reduceIte, Nat.reduceEqDiff, Nat.reduceAdd, Nat.reduceSub, Nat.reduceMul, Nat.reduceLT, Nat.reduceLeDiff, reduceCtorEq, Int.reduceToNat, Int.reduceLT, Int.reduceLE, Int.reduceAdd, Int.reduceSub, Int.reduceMul, Int.reduceNeg, Int.reduceEq, Nat.reduceMod, forall_eq_or_imp, forall_eq, forall_const, cond_true, cond_false, decide_true, decide_false, true_imp_iff, implies_true, Int.cast_ofNat_Int, forall_eq']
            simp only [↓EVP0, EVQ0, EVQ1, EVQ2, EVQ3, EVQ4, EVA, EVK, EVF, ↓reduceIte, Nat.reduceEqDiff, Nat.reduceAdd, Nat.reduceSub, Nat.reduceMul, Nat.reduceLT, Nat.reduceLeDiff, reduceCtorEq, Int.reduceToNat, Int.reduceLT, Int.reduceLE, Int.reduceAdd, Int.reduceSub, Int.reduceMul, Int.reduceNeg, Int.reduceEq, Nat.reduceMod, forall_eq_or_imp, forall_eq, forall_const, cond_true, cond_false, decide_true, decide_false, true_imp_iff, implies_true, Int.cast_ofNat_Int, forall_eq']
            exact decide_eq_true b3
          · obtain ⟨e9, hm⟩ := atT_neg h0
            have b1 : nbrE p x y = (-1, -1, -1, false) := by
              unfold nbrE
              rw [if_pos hv']
              refine nbrGo_none fun c hc => ?_
              obtain ⟨j, hj, rfl⟩ := List.getElem_of_mem hc
              have := hm j hj
              rwa [List.getD_eq_getElem?_getD, List.getElem?_eq_getElem hj] at this
            rw [b1, e9]
            exact ⟨fun h => by simp at h, fun _ => ⟨fun _ => by simp, fun h => by simp at h⟩⟩
  · have e1 : cablesE p x = [] := by unfold cablesE; rw [if_neg (of_decide_eq_false hv)]
    have e2 : nbrE p x y = (-1, -1, -1, false) := by unfold nbrE; rw [if_neg (of_decide_eq_false hv)]
    rw [e1, e2]
    refine callK_frz (h7 [] []) ?_ ?_ ?_
    · simp only [↓EVP0, EVQ0, EVQ1, EVQ2, EVQ3, EVQ4, EVA, EVK, EVF, ↓reduceIte, Nat.reduceEqDiff, Nat.reduceAdd, Nat.reduceSub, Nat.reduceMul, Nat.reduceLT, Nat.reduceLeDiff, reduceCtorEq, Int.reduceToNat, Int.reduceLT, Int.reduceLE, Int.reduceAdd, Int.reduceSub, Int.reduceMul, Int.reduceNeg, Int.reduceEq, Nat.reduceMod, forall_eq_or_imp, forall_eq, forall_const, cond_true, cond_false, decide_true, decide_false, true_imp_iff, implies_true, Int.cast_ofNat_Int, forall_eq']
    · simp only [↓EVP0, EVQ0, EVQ1, EVQ2, EVQ3, EVQ4, EVA, EVK, EVF, ↓reduceIte, Nat.reduceEqDiff, Nat.reduceAdd, Nat.reduceSub, Nat.reduceMul, Nat.reduceLT, Nat.reduceLeDiff, reduceCtorEq, Int.reduceToNat, Int.reduceLT, Int.reduceLE, Int.reduceAdd, Int.reduceSub, Int.reduceMul, Int.reduceNeg, Int.reduceEq, Nat.reduceMod, forall_eq_or_imp, forall_eq, forall_const, cond_true, cond_false, decide_true, decide_false, true_imp_iff, implies_true, Int.cast_ofNat_Int, forall_eq']
    simp only [↓EVP0, EVQ0, EVQ1, EVQ2, EVQ3, EVQ4, EVA, EVK, EVF, ↓reduceIte, Nat.reduceEqDiff, Nat.reduceAdd, Nat.reduceSub, Nat.reduceMul, Nat.reduceLT, Nat.reduceLeDiff, reduceCtorEq, Int.reduceToNat, Int.reduceLT, Int.reduceLE, Int.reduceAdd, Int.reduceSub, Int.reduceMul, Int.reduceNeg, Int.reduceEq, Nat.reduceMod, forall_eq_or_imp, forall_eq, forall_const, cond_true, cond_false, decide_true, decide_false, true_imp_iff, implies_true, Int.cast_ofNat_Int, forall_eq']
    exact ⟨fun h => by simp at h, fun _ => trivial⟩
end Go.Proofs.YtchpncmmlhfemaaDoor
namespace Go.Proofs.YtchpncmmlhfemaaDoor
set_option linter.unusedSimpArgs false
set_option linter.unusedVariables false
open Go.ChangeShapes Go.WideShapes Go.ChangeAt Go.RowKit

theorem card_paramsGraphNeighbors (fn : Func) (h : fn.params.toList.all (fun t => !Tryd.prog.wantsStandIn t) = true) (j : Nat) (t : TypeId) (ht : fn.params[j]? = some t) : Tryd.prog.wantsStandIn t = false := by
  have := List.all_eq_true.1 h t (by rw [← Array.getElem?_toList] at ht; exact List.mem_of_getElem? ht)
  simpa using this
theorem law_graphNeighbors (lvs : List LV) (h : fitAll Tryd.prog Tryd.f6.params.toList lvs) : Ev Tryd.prog 6 lvs (.sc (.bool true)) := by
  rw [Tryd.params6] at h
  obtain ⟨a0, l0, rfl, g0, h⟩ := all1 h
  obtain ⟨a1, l1, rfl, g1, h⟩ := all1 h
  obtain ⟨a2, l2, rfl, g2, h⟩ := all1 h
  obtain rfl := all0 h
  obtain ⟨p, ip, hp⟩ := arg_plan g0
  obtain ⟨x, rfl, hx⟩ := arg_int g1
  obtain ⟨y, rfl, hy⟩ := arg_int g2
  exact ev_im (bs := [plV p, .sc (.int .i64 x), .sc (.int .i64 y)]) ⟨ip, Im.refl _, Im.refl _, trivial⟩ (ev_lawNbrs p hp x y)
set_option maxRecDepth 100000 in
theorem lifted_graphNeighbors (os : Os) (started : os.Started) (H : Type) (enc : TypeId × Value → H) :
    ReturnsInHanded {} Tryd.checked os 6 .any (fun w args => (Rows.graphNeighborsSpec.pre enc Tryd.prog Tryd.f6 [] false w args ∧ laidMetH Tryd.prog Rows.graphNeighborsRow.laid w) ∧ sizedMet enc Tryd.prog Tryd.f6 (OpenSpec.ofChange Rows.graphNeighborsSpec) false w args) (Rows.graphNeighborsSpec.post enc Tryd.prog Tryd.f6 false true false false) := by
  refine law_liftedL (C := Tryd.checked) (tb := 4) Rows.graphNeighborsRow.laid Tryd.own' started Tryd.laidOut' (by kernel_rfl) Tryd.func6
    (ChangeSpec.witness_shaped (enc := enc) (C := Tryd.checked) (os := os) (X := fun w _ => laidMetH Tryd.prog Rows.graphNeighborsRow.laid w) false (World.laidAll Tryd.prog os Rows.graphNeighborsRow.laid) #[.agg #[.slice none 0 0, .slice none 0 0], .int .i64 0, .int .i64 0] 8 (World.laidAll_os _ _ _)
      (World.shaped_of_ZipB (by kernel_rfl) (by kernel_rfl)) (by kernel_rfl) (by kernel_rfl) (by kernel_rfl)
      (by rw [MakeChecks.laidMetH_plain _ _ _ (by kernel_rfl)]; exact laidMet_laidAll _ (by kernel_rfl) (by kernel_rfl)))
    (by kernel_rfl) Tryd.underlying4 rfl (fun ds hd => ?_) (by kernel_rfl) (fun _ _ hh h => h.of_heap hh) law_graphNeighbors
  have hd : ds.length = 3 := hd
  match ds, hd with
  | [d1, d2, d3], _ => exact ⟨rfl, rfl, rfl⟩
theorem graphNeighbors_holds : Rows.GraphNeighborsSaid :=
  OpenClaim.holds_of_wide 6 Tryd.f6 rfl rfl rfl rfl rfl rfl rfl ⟨rfl, rfl, rfl, rfl, rfl⟩ rfl rfl rfl rfl rfl (by kernel_rfl) Tryd.func6 (by kernel_rfl)
    (of_decide_eq_true (by kernel_rfl)) (by unfold Func.isWrapper; first | (rw [if_pos (by decide +kernel)]; kernel_rfl) | (rw [if_neg (by decide +kernel)]; exact ⟨rfl, rfl⟩))
    (fun os started H enc _ => lifted_graphNeighbors os started H enc)
theorem graphNeighbors_card : Rows.GraphNeighborsCardSaid :=
  Claim7.holds_tied_plain_at .later [] Rows.graphNeighborsCard.laidKinds true Rows.graphNeighborsCard.stood.harness false
    graphNeighbors_holds (fun _ h => by cases h) (by kernel_rfl) (fun _ h => by cases h) graphNeighbors_row_tie rfl ⟨rfl, rfl⟩ (by kernel_rfl) rfl
    (fun f fn hf hfn => by
      obtain rfl : f = 6 := Option.some.inj ((show Tryd.prog.funcNamed Rows.graphNeighborsRow.func = some 6 by kernel_rfl).symm.trans hf) |>.symm
      obtain rfl : fn = Tryd.f6 := (Option.some.inj (Tryd.func6.symm.trans hfn)).symm
      exact ⟨by kernel_rfl, fun j t ht => card_paramsGraphNeighbors Tryd.f6 (by kernel_rfl) j t ht⟩)
    (by kernel_rfl)
end Go.Proofs.YtchpncmmlhfemaaDoor
