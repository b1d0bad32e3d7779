/- Chapter 17's Above and what it needs; equality of lists; The cables at a node; a port of a valid plan is at one cable at most; A port of a valid plan is at one cable at most: what Neighbor returns, and the neighbor's neighbor; For every plan, node and port Neighbor and Cables return what the cables say; Closures whose captures are variables are frozen; slices.IndexFunc, slices.ContainsFunc; For every plan each node at a distance greater than 0 has a nearer neighbor; For every plan, node and state of the cables every node at a distance greater than 0 has a neighbor over a cable that is up which is nearer by 1. Conditions: none. -/
import Derived.Test.YtchpncmmlhfemaaDoorMF
import Derived.Test.YtchpncmmlhfemaaDoorTie
import Derived.Test.YtchpncmmlhfemaaDoorCards
import Derived.SevenTiedAt
import Derived.Stop.Joined
namespace Go.Proofs.YtchpncmmlhfemaaDoor
set_option linter.unusedSimpArgs false
set_option linter.unusedVariables false
open Go.RowKit

/-- A cell that holds one list, seen as read-only. -/
theorem roTo2_cell {h : LH} {k ver : Nat} {z n : Nat} {f : Nat → List LV} (hk : k < h.n) (hv : h.f k = (ver, .box [.rsl z n f])) : roTo2 h (.ptr k ver 0 0 0) (.rptr [.rsl z n f]) := by
  refine ⟨hk, by rw [hv], rfl, rfl, rfl, ?_⟩
  rw [hv]
  exact ⟨by rw [roTo1_rsl], trivial⟩
def cmpI (x y : Int) : Int := bif decide (x < y) then -1 else bif decide (y < x) then 1 else 0
def orI : List Int → Int
  | [] => 0
  | x :: r => bif decide (x = 0) then orI r else x
theorem orI_take (l : List Int) (i : Nat) (hi : i < l.length) (h : ∀ j, j < i → l.getD j 0 = 0) : orI l = orI (l.drop i) := by
  induction i generalizing l with
  | zero => rfl
  | succ i ih =>
    cases l with
    | nil => simp at hi
    | cons x r =>
      have h0 := h 0 (by omega)
      simp only [List.getD_cons_zero] at h0
      have := ih r (by simpa using hi) (fun j hj => by have := h (j + 1) (by omega); simpa using this)
      simp only [orI, h0, decide_true, cond_true, List.drop_succ_cons]
      exact this
theorem ev_equal (l m : List Int) : Ev Tryd.prog 21 [intsV l, intsV m] (.sc (.bool (decide (l = m)))) := by
  unfold intsV
  refine ev_fn Tryd.func21 comp21 (show 2 ≤ Tryd.f21.ntmps by decide) ?_; unfold cf21 rf21; simp only [↓EVP0, EVQ0, EVQ1, EVQ2, EVQ3, EVQ4, EVA, EVK, EVF, ↓reduceIte, Nat.reduceEqDiff, Nat.reduceAdd, Nat.reduceSub, Nat.reduceMul, Nat.reduceLT, Nat.reduceLeDiff, reduceCtorEq, Int.reduceToNat, Int.reduceLT, Int.reduceLE, Int.reduceAdd, Int.reduceSub, Int.reduceMul, Int.reduceNeg, Int.reduceEq, Nat.reduceMod, forall_eq_or_imp, forall_eq, forall_const, cond_true, cond_false, decide_true, decide_false, true_imp_iff, implies_true, Int.cast_ofNat_Int, forall_eq']
  intro hl hm
  refine ⟨fun hg => ?_, fun hg _ => ?_⟩
  · have : l ≠ m := fun e => by subst e; simp at hg
    simp [this]
  have hlm : l.length = m.length := by simp at hg; omega
  refine lwp_for (α := Unit) l.length (fun i _ => ∀ j, j < i → l.getD j 0 = m.getD j 0) (fun i _ => [(0, .rsl 1 l.length (intsF l)), (1, .rsl 1 m.length (intsF m)), (12, .sc (.int .i64 l.length)), (13, .sc (.int .i64 i))]) (fun _ _ => []) () (fun j hj => absurd hj (Nat.not_lt_zero _)) ?_ (fun _ _ => Nat.zero_le _) ?_
  · simp only [↓EVP0, EVQ0, EVQ1, EVQ2, EVQ3, EVQ4, EVA, EVK, EVF, ↓reduceIte, Nat.reduceEqDiff, Nat.reduceAdd, Nat.reduceSub, Nat.reduceMul, Nat.reduceLT, Nat.reduceLeDiff, reduceCtorEq, Int.reduceToNat, Int.reduceLT, Int.reduceLE, Int.reduceAdd, Int.reduceSub, Int.reduceMul, Int.reduceNeg, Int.reduceEq, Nat.reduceMod, forall_eq_or_imp, forall_eq, forall_const, cond_true, cond_false, decide_true, decide_false, true_imp_iff, implies_true, Int.cast_ofNat_Int, forall_eq']
  intro i _ hi hx
  unfold lb21_0
  simp only [↓EVP0, EVQ0, EVQ1, EVQ2, EVQ3, EVQ4, EVA, EVK, EVF, ↓reduceIte, Nat.reduceEqDiff, Nat.reduceAdd, Nat.reduceSub, Nat.reduceMul, Nat.reduceLT, Nat.reduceLeDiff, reduceCtorEq, Int.reduceToNat, Int.reduceLT, Int.reduceLE, Int.reduceAdd, Int.reduceSub, Int.reduceMul, Int.reduceNeg, Int.reduceEq, Nat.reduceMod, forall_eq_or_imp, forall_eq, forall_const, cond_true, cond_false, decide_true, decide_false, true_imp_iff, implies_true, Int.cast_ofNat_Int, forall_eq']
  refine ⟨fun hg => ?_, fun hg => ?_⟩
  · have hi2 : i < l.length := by simpa using hg
    refine ⟨⟨by omega, by omega⟩, ⟨by omega, by omega⟩, fun h => ?_, fun h => ⟨by unfold In64; omega, hi2, (), fun j hj => ?_⟩⟩
    · have : l ≠ m := fun e => by subst e; simp at h
      simp [this]
    · by_cases e : j = i
      · subst e; simpa using h
      · exact hx j (by omega)
  · have hii : i = l.length := by simp at hg; omega
    have : l = m := getD_len hlm (by subst hii; exact hx)
    simp [this]

def hasB (l : List Int) (x : Int) : Bool := decide (0 ≤ x) && (decide (x < l.length) && decide (0 ≤ l.getD x.toNat 0))
def aboveB (l : List Int) (a b : Int) : Bool := hasB l a && (hasB l b && (decide (l.getD a.toNat 0 < l.getD b.toNat 0) || (decide (l.getD a.toNat 0 = l.getD b.toNat 0) && decide (a < b))))
end Go.Proofs.YtchpncmmlhfemaaDoor
namespace Go.Proofs.YtchpncmmlhfemaaDoor
set_option linter.unusedSimpArgs false
set_option linter.unusedVariables false
open Go.RowKit
set_option maxRecDepth 20000

theorem cb_all (n : Nat) (c : Cb) : allC n (cbL c) := ⟨trivial, trivial, trivial, trivial, trivial, trivial, trivial⟩
def touB (c : Cb) (x : Int) : Bool := decide (c.a = x) || decide (c.b = x)
/-- Those of the first k indices that a test picks. -/
def pickT (q : Nat → Bool) (k : Nat) : List Int := ((List.range k).filter q).map fun (v : Nat) => (v : Int)
theorem pickT_succ (q : Nat → Bool) (k : Nat) : pickT q (k + 1) = pickT q k ++ if q k = true then [(k : Int)] else [] := by
  unfold pickT
  rw [List.range_succ, List.filter_append, List.map_append]
  by_cases h : q k = true <;> simp [h]
theorem pickT_len (q : Nat → Bool) (k : Nat) : (pickT q k).length ≤ k := by
  unfold pickT
  rw [List.length_map]
  have := List.length_filter_le q (List.range k)
  simpa using this
def cabT (p : Pl) (x : Int) (k : Nat) : List Int := pickT (fun v => touB (p.cs.getD v default) x) k
def cablesE (p : Pl) (x : Int) : List Int := if validE p = 0 then cabT p x p.cs.length else []
theorem ev_cables (p : Pl) (hp : PlOk p) (x : Int) : Ev Tryd.prog 19 [plV p, .sc (.int .i64 x)] (intsV (cablesE p x)) := by
  have h1 := ev_valid p hp
  unfold plV intsV at *
  refine ev_fn Tryd.func19 comp19 (show 2 ≤ Tryd.f19.ntmps by decide) ?_; unfold cf19 rf19; simp only [↓EVP0, EVQ0, EVQ1, EVQ2, EVQ3, EVQ4, EVA, EVK, EVF, ↓reduceIte, Nat.reduceEqDiff, Nat.reduceAdd, Nat.reduceSub, Nat.reduceMul, Nat.reduceLT, Nat.reduceLeDiff, reduceCtorEq, Int.reduceToNat, Int.reduceLT, Int.reduceLE, Int.reduceAdd, Int.reduceSub, Int.reduceMul, Int.reduceNeg, Int.reduceEq, Nat.reduceMod, forall_eq_or_imp, forall_eq, forall_const, cond_true, cond_false, decide_true, decide_false, true_imp_iff, implies_true, Int.cast_ofNat_Int, forall_eq']
  refine callK_ro (h1) ?_ ?_
  · simp only [↓EVP0, EVQ0, EVQ1, EVQ2, EVQ3, EVQ4, EVA, EVK, EVF, ↓reduceIte, Nat.reduceEqDiff, Nat.reduceAdd, Nat.reduceSub, Nat.reduceMul, Nat.reduceLT, Nat.reduceLeDiff, reduceCtorEq, Int.reduceToNat, Int.reduceLT, Int.reduceLE, Int.reduceAdd, Int.reduceSub, Int.reduceMul, Int.reduceNeg, Int.reduceEq, Nat.reduceMod, forall_eq_or_imp, forall_eq, forall_const, cond_true, cond_false, decide_true, decide_false, true_imp_iff, implies_true, Int.cast_ofNat_Int, forall_eq']
  simp only [↓EVP0, EVQ0, EVQ1, EVQ2, EVQ3, EVQ4, EVA, EVK, EVF, ↓reduceIte, Nat.reduceEqDiff, Nat.reduceAdd, Nat.reduceSub, Nat.reduceMul, Nat.reduceLT, Nat.reduceLeDiff, reduceCtorEq, Int.reduceToNat, Int.reduceLT, Int.reduceLE, Int.reduceAdd, Int.reduceSub, Int.reduceMul, Int.reduceNeg, Int.reduceEq, Nat.reduceMod, forall_eq_or_imp, forall_eq, forall_const, cond_true, cond_false, decide_true, decide_false, true_imp_iff, implies_true, Int.cast_ofNat_Int, forall_eq']
  refine ⟨fun hg => ?_, fun hg => ?_⟩
  · have e : cablesE p x = [] := by unfold cablesE; rw [if_neg (by simpa using hg)]
    rw [e]; exact rfl
  have hv : validE p = 0 := by simpa using hg
  have e : cablesE p x = cabT p x p.cs.length := by unfold cablesE; rw [if_pos hv]
  rw [e]
  have h32 := (valid_of hv).c32
  intro _
  refine lwp_for (α := Unit) p.cs.length (fun _ _ => True) (fun k _ => [(1, .sc (.int .i64 x)), (5, if cabT p x k = [] then .nsl else .sl 2 ((cabT p x k).length - 1) 1 0 (cabT p x k).length), (12, .rsl 6 p.cs.length (cbsF p.cs)), (13, .sc (.int .i64 p.cs.length)), (14, .sc (.int .i64 k))])
    (fun k _ => if cabT p x k = [] then [] else [(0, .box (cbL (p.cs.getD ((cabT p x k).getD 0 0).toNat default))), (0, .ints [(cabT p x k).getD 0 0]), ((cabT p x k).length - 1, .ints (cabT p x k))]) () trivial ?_ (fun _ _ => Nat.zero_le _) ?_
  · rw [show cabT p x 0 = [] from rfl]
    simp only [if_true]
    simp only [↓EVP0, EVQ0, EVQ1, EVQ2, EVQ3, EVQ4, EVA, EVK, EVF, ↓reduceIte, Nat.reduceEqDiff, Nat.reduceAdd, Nat.reduceSub, Nat.reduceMul, Nat.reduceLT, Nat.reduceLeDiff, reduceCtorEq, Int.reduceToNat, Int.reduceLT, Int.reduceLE, Int.reduceAdd, Int.reduceSub, Int.reduceMul, Int.reduceNeg, Int.reduceEq, Nat.reduceMod, forall_eq_or_imp, forall_eq, forall_const, cond_true, cond_false, decide_true, decide_false, true_imp_iff, implies_true, Int.cast_ofNat_Int, forall_eq']
  intro k _ hk _
  have hps : cabT p x (k + 1) = cabT p x k ++ if touB (p.cs.getD k default) x = true then [(k : Int)] else [] := pickT_succ _ k
  have hple : (cabT p x k).length ≤ k := pickT_len _ _
  by_cases hq : cabT p x k = []
  · by_cases hdk : touB (p.cs.getD k default) x = true
    · have hp1 : cabT p x (k + 1) = [(k : Int)] := by rw [hps, if_pos hdk, hq]; rfl
      simp only [hp1, hq, List.cons_ne_nil, if_true, if_false]
      unfold lb19_0
      simp only [↓EVP0, EVQ0, EVQ1, EVQ2, EVQ3, EVQ4, EVA, EVK, EVF, ↓reduceIte, Nat.reduceEqDiff, Nat.reduceAdd, Nat.reduceSub, Nat.reduceMul, Nat.reduceLT, Nat.reduceLeDiff, reduceCtorEq, Int.reduceToNat, Int.reduceLT, Int.reduceLE, Int.reduceAdd, Int.reduceSub, Int.reduceMul, Int.reduceNeg, Int.reduceEq, Nat.reduceMod, forall_eq_or_imp, forall_eq, forall_const, cond_true, cond_false, decide_true, decide_false, true_imp_iff, implies_true, Int.cast_ofNat_Int, forall_eq']
      refine ⟨fun hg => ?_, fun hg => ?_⟩
      · have hk2 : k < p.cs.length := by have := of_decide_eq_true hg; omega
        rw [condT]
        refine ⟨⟨by omega, by omega⟩, fun h => ?_, fun h => ?_⟩
        · exact ⟨by unfold appRoom; omega, by unfold In64; omega, hk2, (), rfl, cb_all _ _⟩
        · exact absurd hdk (by unfold touB; rw [h]; simp)
      · have hkk : k = p.cs.length := by have := of_decide_eq_false hg; omega
        subst hkk
        rw [hq]; rfl
    · have hp1 : cabT p x (k + 1) = [] := by rw [hps, if_neg hdk, hq]; rfl
      simp only [hp1, hq, if_true]
      unfold lb19_0
      simp only [↓EVP0, EVQ0, EVQ1, EVQ2, EVQ3, EVQ4, EVA, EVK, EVF, ↓reduceIte, Nat.reduceEqDiff, Nat.reduceAdd, Nat.reduceSub, Nat.reduceMul, Nat.reduceLT, Nat.reduceLeDiff, reduceCtorEq, Int.reduceToNat, Int.reduceLT, Int.reduceLE, Int.reduceAdd, Int.reduceSub, Int.reduceMul, Int.reduceNeg, Int.reduceEq, Nat.reduceMod, forall_eq_or_imp, forall_eq, forall_const, cond_true, cond_false, decide_true, decide_false, true_imp_iff, implies_true, Int.cast_ofNat_Int, forall_eq']
      refine ⟨fun hg => ?_, fun hg => ?_⟩
      · have hk2 : k < p.cs.length := by have := of_decide_eq_true hg; omega
        rw [condT]
        refine ⟨⟨by omega, by omega⟩, fun h => ?_, fun h => ?_⟩
        · exact absurd (show touB (p.cs.getD k default) x = true from h) hdk
        · exact ⟨by unfold In64; omega, hk2, (), trivial⟩
      · have hkk : k = p.cs.length := by have := of_decide_eq_false hg; omega
        subst hkk
        rw [hq]; rfl
  · by_cases hdk : touB (p.cs.getD k default) x = true
    · have hp1 : cabT p x (k + 1) = cabT p x k ++ [(k : Int)] := by rw [hps, if_pos hdk]
      simp only [hp1, hq, List.append_eq_nil_iff, List.cons_ne_nil, and_false, if_false]
      unfold lb19_0
      simp only [↓EVP0, EVQ0, EVQ1, EVQ2, EVQ3, EVQ4, EVA, EVK, EVF, ↓reduceIte, Nat.reduceEqDiff, Nat.reduceAdd, Nat.reduceSub, Nat.reduceMul, Nat.reduceLT, Nat.reduceLeDiff, reduceCtorEq, Int.reduceToNat, Int.reduceLT, Int.reduceLE, Int.reduceAdd, Int.reduceSub, Int.reduceMul, Int.reduceNeg, Int.reduceEq, Nat.reduceMod, forall_eq_or_imp, forall_eq, forall_const, cond_true, cond_false, decide_true, decide_false, true_imp_iff, implies_true, Int.cast_ofNat_Int, forall_eq']
      refine ⟨fun hg => ?_, fun hg => ?_⟩
      · have hk2 : k < p.cs.length := by have := of_decide_eq_true hg; omega
        rw [condT]
        refine ⟨⟨by omega, by omega⟩, fun h => ?_, fun h => ?_⟩
        · have hpl : 0 < (cabT p x k).length := List.length_pos_iff.2 hq
          have hl1 : (cabT p x k ++ [(k : Int)]).length = (cabT p x k).length + 1 := by simp
          rw [show (cabT p x k).length - 1 + 1 = (cabT p x k).length + 1 - 1 by omega, List.take_of_length_le (Nat.le_refl _), hl1, getD_app0 hpl]
          exact ⟨Nat.le_refl _, by unfold appRoom; omega, by unfold In64; omega, hk2, (), rfl, rfl, cb_all _ _, rfl, rfl, rfl⟩
        · exact absurd hdk (by unfold touB; rw [h]; simp)
      · have hkk : k = p.cs.length := by have := of_decide_eq_false hg; omega
        subst hkk
        exact ⟨rfl, Nat.le_refl _, fun _ _ => rfl⟩
    · have hp1 : cabT p x (k + 1) = cabT p x k := by rw [hps, if_neg hdk]; simp
      simp only [hp1, hq, if_false]
      unfold lb19_0
      simp only [↓EVP0, EVQ0, EVQ1, EVQ2, EVQ3, EVQ4, EVA, EVK, EVF, ↓reduceIte, Nat.reduceEqDiff, Nat.reduceAdd, Nat.reduceSub, Nat.reduceMul, Nat.reduceLT, Nat.reduceLeDiff, reduceCtorEq, Int.reduceToNat, Int.reduceLT, Int.reduceLE, Int.reduceAdd, Int.reduceSub, Int.reduceMul, Int.reduceNeg, Int.reduceEq, Nat.reduceMod, forall_eq_or_imp, forall_eq, forall_const, cond_true, cond_false, decide_true, decide_false, true_imp_iff, implies_true, Int.cast_ofNat_Int, forall_eq']
      refine ⟨fun hg => ?_, fun hg => ?_⟩
      · have hk2 : k < p.cs.length := by have := of_decide_eq_true hg; omega
        rw [condT]
        refine ⟨⟨by omega, by omega⟩, fun h => ?_, fun h => ?_⟩
        · exact absurd (show touB (p.cs.getD k default) x = true from h) hdk
        · exact ⟨by unfold In64; omega, hk2, (), cb_all _ _⟩
      · have hkk : k = p.cs.length := by have := of_decide_eq_false hg; omega
        subst hkk
        exact ⟨rfl, Nat.le_refl _, fun _ _ => rfl⟩
end Go.Proofs.YtchpncmmlhfemaaDoor
namespace Go.Proofs.YtchpncmmlhfemaaDoor
set_option linter.unusedSimpArgs false
set_option linter.unusedVariables false
open Go.RowKit
set_option maxRecDepth 20000

theorem valid_nodup {p : Pl} (h : validE p = 0) : (endsOf p.cs).Nodup := by
  unfold validE at h
  cases h1 : decide (16 < p.ns.length) || decide (32 < p.cs.length)
  · rw [h1, cond_false] at h
    cases h2 : p.ns.all nodeOk
    · rw [h2] at h; simp at h
    · rw [h2] at h
      cases h3 : p.cs.all (portsOk p)
      · rw [h3] at h; simp at h
      · rw [h3] at h
        cases h4 : repOk p
        · unfold repOk at h4
          simp at h4
          exact h4.2
        · rw [h4] at h; simp at h
  · rw [h1] at h; simp at h
def matB (c : Cb) (x y : Int) : Bool := (decide (c.a = x) && decide (c.ap = y)) || (decide (c.b = x) && decide (c.bp = y))
theorem matB_iff {c : Cb} {x y : Int} : matB c x y = true ↔ (x, y) ∈ endsC c := by
  unfold matB endsC
  simp only [Bool.or_eq_true, Bool.and_eq_true, decide_eq_true_eq, List.mem_cons, List.not_mem_nil, or_false, Prod.mk.injEq]
  constructor
  · rintro (⟨h1, h2⟩ | ⟨h1, h2⟩)
    · exact .inl ⟨h1.symm, h2.symm⟩
    · exact .inr ⟨h1.symm, h2.symm⟩
  · rintro (⟨h1, h2⟩ | ⟨h1, h2⟩)
    · exact .inl ⟨h1.symm, h2.symm⟩
    · exact .inr ⟨h1.symm, h2.symm⟩
theorem mat_uniq {l : List Cb} (h : (endsOf l).Nodup) {x y : Int} : ∀ {i j : Nat}, i < l.length → j < l.length → matB (l.getD i default) x y = true → matB (l.getD j default) x y = true → i = j := by
  have hp := (List.pairwise_flatMap.1 (show List.Pairwise (· ≠ ·) (l.flatMap endsC) from h)).2
  rw [List.pairwise_iff_getElem] at hp
  have key : ∀ i j : Nat, i < l.length → j < l.length → i < j → matB (l.getD i default) x y = true → matB (l.getD j default) x y = true → False := by
    intro i j hi hj hij h1 h2
    rw [matB_iff] at h1 h2
    rw [List.getD_eq_getElem?_getD, List.getElem?_eq_getElem hi] at h1
    rw [List.getD_eq_getElem?_getD, List.getElem?_eq_getElem hj] at h2
    exact hp i j hi hj hij _ h1 _ h2 rfl
  intro i j hi hj h1 h2
  rcases Nat.lt_trichotomy i j with h | h | h
  · exact (key i j hi hj h h1 h2).elim
  · exact h
  · exact (key j i hj hi h h2 h1).elim
/-- What Neighbor tells of a cable that has the port. -/
def farC (c : Cb) (x y : Int) (i : Int) : Int × Int × Int × Bool := bif decide (c.a = x) && decide (c.ap = y) then (c.b, c.bp, i, true) else (c.a, c.ap, i, true)
theorem nbrGo_step (x y : Int) (c : Cb) (r : List Cb) (i : Int) : nbrGo x y (c :: r) i = if matB c x y = true then farC c x y i else nbrGo x y r (i + 1) := by
  rw [nbrGo_cons]
  unfold matB farC
  cases decide (c.a = x) && decide (c.ap = y) <;> cases decide (c.b = x) && decide (c.bp = y) <;> simp
theorem nbrGo_none {x y : Int} : ∀ {l : List Cb} {i : Int}, (∀ c, c ∈ l → matB c x y = false) → nbrGo x y l i = (-1, -1, -1, false)
  | [], _, _ => rfl
  | c :: r, i, h => by
    rw [nbrGo_step, if_neg (by rw [h c (by simp)]; simp)]
    exact nbrGo_none fun c' h' => h c' (by simp [h'])
theorem nbrGo_some {x y : Int} : ∀ {l : List Cb} {i : Int} {k : Nat}, k < l.length → matB (l.getD k default) x y = true → (∀ j, j < k → matB (l.getD j default) x y = false) → nbrGo x y l i = farC (l.getD k default) x y (i + k)
  | [], _, _, h, _, _ => by simp at h
  | c :: r, i, 0, _, h, _ => by
    rw [nbrGo_step, if_pos (by simpa using h)]; simp
  | c :: r, i, k + 1, h, h1, h2 => by
    have h0 := h2 0 (by omega)
    rw [nbrGo_step, if_neg (by simp at h0; simp [h0])]
    rw [nbrGo_some (k := k) (by simpa using h) (by simpa using h1) (fun j hj => by have := h2 (j + 1) (by omega); simpa using this)]
    rw [List.getD_cons_succ, show i + 1 + (k : Int) = i + ((k + 1 : Nat) : Int) by omega]
theorem nbr_of {p : Pl} (hv : validE p = 0) {x y : Int} {k : Nat} (hk : k < p.cs.length) (h : matB (p.cs.getD k default) x y = true) : nbrE p x y = farC (p.cs.getD k default) x y k := by
  unfold nbrE
  rw [if_pos hv, nbrGo_some hk h (fun j hj => by
    cases hm : matB (p.cs.getD j default) x y
    · rfl
    · have := mat_uniq (valid_nodup hv) (by omega) hk hm h; omega)]
  rw [Int.zero_add]
/-- The index that the statement's own loop finds. -/
def atT (p : Pl) (x y : Int) : Nat → Int
  | 0 => -1
  | k + 1 => if matB (p.cs.getD k default) x y = true then (k : Int) else atT p x y k
theorem atT_none {p : Pl} {x y : Int} : ∀ {k : Nat}, (∀ j, j < k → matB (p.cs.getD j default) x y = false) → atT p x y k = -1
  | 0, _ => rfl
  | k + 1, h => by
    unfold atT
    rw [if_neg (by rw [h k (by omega)]; simp)]
    exact atT_none fun j hj => h j (by omega)
theorem atT_of {p : Pl} {x y : Int} : ∀ {k : Nat}, 0 ≤ atT p x y k → ∃ j : Nat, j < k ∧ atT p x y k = j ∧ matB (p.cs.getD j default) x y = true
  | 0, h => by simp [atT] at h
  | k + 1, h => by
    unfold atT at h ⊢
    split
    · rename_i hm; exact ⟨k, by omega, rfl, hm⟩
    · rename_i hm
      rw [if_neg hm] at h
      obtain ⟨j, h1, h2, h3⟩ := atT_of h
      exact ⟨j, by omega, h2, h3⟩
theorem atT_neg {p : Pl} {x y : Int} : ∀ {k : Nat}, ¬ 0 ≤ atT p x y k → atT p x y k = -1 ∧ ∀ j, j < k → matB (p.cs.getD j default) x y = false
  | 0, _ => ⟨rfl, fun j hj => by omega⟩
  | k + 1, h => by
    unfold atT at h ⊢
    by_cases hm : matB (p.cs.getD k default) x y = true
    · rw [if_pos hm] at h; omega
    · rw [if_neg hm] at h ⊢
      obtain ⟨h1, h2⟩ := atT_neg h
      refine ⟨h1, fun j hj => ?_⟩
      by_cases e : j = k
      · subst e; simpa using hm
      · exact h2 j (by omega)
def othE (c : Cb) (x : Int) : Int := bif decide (c.a = x) then c.b else bif decide (c.b = x) then c.a else -1
theorem oth_ge {p : Pl} (hv : validE p = 0) {c : Cb} (hc : c ∈ p.cs) (x : Int) : decide (0 ≤ othE c x) = touB c x := by
  obtain ⟨h1, h2⟩ := (valid_of hv).cab c hc
  unfold inN at h1 h2
  unfold othE touB
  by_cases e1 : c.a = x
  · rw [decide_eq_true e1]; simp; omega
  · rw [decide_eq_false e1]
    by_cases e2 : c.b = x
    · rw [decide_eq_true e2]; simp; omega
    · rw [decide_eq_false e2]; simp
/-- The neighbor's neighbor is the node itself. -/
theorem nbr_back {p : Pl} (hv : validE p = 0) {x y : Int} {k : Nat} (hk : k < p.cs.length) (h : matB (p.cs.getD k default) x y = true) :
    nbrE p (nbrE p x y).1 (nbrE p x y).2.1 = (x, y, (k : Int), true) ∧ (nbrE p x y).2.2 = ((k : Int), true) ∧ (nbrE p x y).1 = othE (p.cs.getD k default) x := by
  have hc : p.cs.getD k default ∈ p.cs := by
    rw [List.getD_eq_getElem?_getD, List.getElem?_eq_getElem hk]; exact List.getElem_mem hk
  have hs := (valid_of hv).self _ hc
  rw [nbr_of hv hk h]
  have hb : matB (p.cs.getD k default) (farC (p.cs.getD k default) x y k).1 (farC (p.cs.getD k default) x y k).2.1 = true := by
    unfold farC matB
    cases decide ((p.cs.getD k default).a = x) && decide ((p.cs.getD k default).ap = y) <;> simp
  rw [nbr_of hv hk hb]
  generalize p.cs.getD k default = c at *
  unfold farC othE
  unfold matB at h
  simp only [Bool.or_eq_true, Bool.and_eq_true, decide_eq_true_eq] at h
  by_cases e : c.a = x ∧ c.ap = y
  · obtain ⟨rfl, rfl⟩ := e
    simp [hs]
  · have e2 : c.b = x ∧ c.bp = y := h.resolve_left e
    have e3 : ¬ c.a = x := fun e4 => hs (by rw [e4, e2.1])
    obtain ⟨rfl, rfl⟩ := e2
    simp [e3]
end Go.Proofs.YtchpncmmlhfemaaDoor
namespace Go.Proofs.YtchpncmmlhfemaaDoor
set_option linter.unusedSimpArgs false
set_option linter.unusedVariables false
open Go.RowKit
set_option maxRecDepth 20000

theorem ev_oth (c : Cb) (x : Int) : Ev Tryd.prog 20 [.agg (cbL c), .sc (.int .i64 x)] (.sc (.int .i64 (othE c x))) := by
  unfold cbL
  refine ev_fn Tryd.func20 comp20 (show 2 ≤ Tryd.f20.ntmps by decide) ?_; unfold cf20 rf20; simp only [↓EVP0, EVQ0, EVQ1, EVQ2, EVQ3, EVQ4, EVA, EVK, EVF, ↓reduceIte, Nat.reduceEqDiff, Nat.reduceAdd, Nat.reduceSub, Nat.reduceMul, Nat.reduceLT, Nat.reduceLeDiff, reduceCtorEq, Int.reduceToNat, Int.reduceLT, Int.reduceLE, Int.reduceAdd, Int.reduceSub, Int.reduceMul, Int.reduceNeg, Int.reduceEq, Nat.reduceMod, forall_eq_or_imp, forall_eq, forall_const, cond_true, cond_false, decide_true, decide_false, true_imp_iff, implies_true, Int.cast_ofNat_Int, forall_eq']
  unfold othE
  refine ⟨fun h => by rw [h]; rfl, fun h => ⟨fun h2 => by rw [h, h2]; rfl, fun h2 => by rw [h, h2]; rfl⟩⟩
theorem ev_lawNbrs (p : Pl) (hp : PlOk p) (x y : Int) : Ev Tryd.prog 6 [plV p, .sc (.int .i64 x), .sc (.int .i64 y)] (.sc (.bool true)) := by
  have h1 := ev_awake14
  have h2 := ev_great14 p
  have h3 := fun x y => ev_neighbor p hp x y
  have h4 := ev_cables p hp x
  have h5 := ev_ref14 p
  have h6 := ev_oth
  have h7 := ev_equal
  unfold plV intsV at *
  unfold cbL at h6
  refine ev_fn Tryd.func6 comp6 (show 3 ≤ Tryd.f6.ntmps by decide) ?_; unfold cf6 rf6; simp only [↓EVP0, EVQ0, EVQ1, EVQ2, EVQ3, EVQ4, EVA, EVK, EVF, ↓reduceIte, Nat.reduceEqDiff, Nat.reduceAdd, Nat.reduceSub, Nat.reduceMul, Nat.reduceLT, Nat.reduceLeDiff, reduceCtorEq, Int.reduceToNat, Int.reduceLT, Int.reduceLE, Int.reduceAdd, Int.reduceSub, Int.reduceMul, Int.reduceNeg, Int.reduceEq, Nat.reduceMod, forall_eq_or_imp, forall_eq, forall_const, cond_true, cond_false, decide_true, decide_false, true_imp_iff, implies_true, Int.cast_ofNat_Int, forall_eq']
  refine callK_ro (h1) ?_ ?_
  · simp only [↓EVP0, EVQ0, EVQ1, EVQ2, EVQ3, EVQ4, EVA, EVK, EVF, ↓reduceIte, Nat.reduceEqDiff, Nat.reduceAdd, Nat.reduceSub, Nat.reduceMul, Nat.reduceLT, Nat.reduceLeDiff, reduceCtorEq, Int.reduceToNat, Int.reduceLT, Int.reduceLE, Int.reduceAdd, Int.reduceSub, Int.reduceMul, Int.reduceNeg, Int.reduceEq, Nat.reduceMod, forall_eq_or_imp, forall_eq, forall_const, cond_true, cond_false, decide_true, decide_false, true_imp_iff, implies_true, Int.cast_ofNat_Int, forall_eq']
  simp only [↓EVP0, EVQ0, EVQ1, EVQ2, EVQ3, EVQ4, EVA, EVK, EVF, ↓reduceIte, Nat.reduceEqDiff, Nat.reduceAdd, Nat.reduceSub, Nat.reduceMul, Nat.reduceLT, Nat.reduceLeDiff, reduceCtorEq, Int.reduceToNat, Int.reduceLT, Int.reduceLE, Int.reduceAdd, Int.reduceSub, Int.reduceMul, Int.reduceNeg, Int.reduceEq, Nat.reduceMod, forall_eq_or_imp, forall_eq, forall_const, cond_true, cond_false, decide_true, decide_false, true_imp_iff, implies_true, Int.cast_ofNat_Int, forall_eq']
  refine callK_ro (h2) ?_ ?_
  · simp only [↓EVP0, EVQ0, EVQ1, EVQ2, EVQ3, EVQ4, EVA, EVK, EVF, ↓reduceIte, Nat.reduceEqDiff, Nat.reduceAdd, Nat.reduceSub, Nat.reduceMul, Nat.reduceLT, Nat.reduceLeDiff, reduceCtorEq, Int.reduceToNat, Int.reduceLT, Int.reduceLE, Int.reduceAdd, Int.reduceSub, Int.reduceMul, Int.reduceNeg, Int.reduceEq, Nat.reduceMod, forall_eq_or_imp, forall_eq, forall_const, cond_true, cond_false, decide_true, decide_false, true_imp_iff, implies_true, Int.cast_ofNat_Int, forall_eq']
  simp only [↓EVP0, EVQ0, EVQ1, EVQ2, EVQ3, EVQ4, EVA, EVK, EVF, ↓reduceIte, Nat.reduceEqDiff, Nat.reduceAdd, Nat.reduceSub, Nat.reduceMul, Nat.reduceLT, Nat.reduceLeDiff, reduceCtorEq, Int.reduceToNat, Int.reduceLT, Int.reduceLE, Int.reduceAdd, Int.reduceSub, Int.reduceMul, Int.reduceNeg, Int.reduceEq, Nat.reduceMod, forall_eq_or_imp, forall_eq, forall_const, cond_true, cond_false, decide_true, decide_false, true_imp_iff, implies_true, Int.cast_ofNat_Int, forall_eq']
  refine ⟨fun _ => trivial, fun g => ?_⟩
  refine callK_ro (h3 x y) ?_ ?_
  · simp only [↓EVP0, EVQ0, EVQ1, EVQ2, EVQ3, EVQ4, EVA, EVK, EVF, ↓reduceIte, Nat.reduceEqDiff, Nat.reduceAdd, Nat.reduceSub, Nat.reduceMul, Nat.reduceLT, Nat.reduceLeDiff, reduceCtorEq, Int.reduceToNat, Int.reduceLT, Int.reduceLE, Int.reduceAdd, Int.reduceSub, Int.reduceMul, Int.reduceNeg, Int.reduceEq, Nat.reduceMod, forall_eq_or_imp, forall_eq, forall_const, cond_true, cond_false, decide_true, decide_false, true_imp_iff, implies_true, Int.cast_ofNat_Int, forall_eq']
  simp only [↓EVP0, EVQ0, EVQ1, EVQ2, EVQ3, EVQ4, EVA, EVK, EVF, ↓reduceIte, Nat.reduceEqDiff, Nat.reduceAdd, Nat.reduceSub, Nat.reduceMul, Nat.reduceLT, Nat.reduceLeDiff, reduceCtorEq, Int.reduceToNat, Int.reduceLT, Int.reduceLE, Int.reduceAdd, Int.reduceSub, Int.reduceMul, Int.reduceNeg, Int.reduceEq, Nat.reduceMod, forall_eq_or_imp, forall_eq, forall_const, cond_true, cond_false, decide_true, decide_false, true_imp_iff, implies_true, Int.cast_ofNat_Int, forall_eq']
  refine callK_ro (h4) ?_ ?_
  · simp only [↓EVP0, EVQ0, EVQ1, EVQ2, EVQ3, EVQ4, EVA, EVK, EVF, ↓reduceIte, Nat.reduceEqDiff, Nat.reduceAdd, Nat.reduceSub, Nat.reduceMul, Nat.reduceLT, Nat.reduceLeDiff, reduceCtorEq, Int.reduceToNat, Int.reduceLT, Int.reduceLE, Int.reduceAdd, Int.reduceSub, Int.reduceMul, Int.reduceNeg, Int.reduceEq, Nat.reduceMod, forall_eq_or_imp, forall_eq, forall_const, cond_true, cond_false, decide_true, decide_false, true_imp_iff, implies_true, Int.cast_ofNat_Int, forall_eq']
  simp only [↓EVP0, EVQ0, EVQ1, EVQ2, EVQ3, EVQ4, EVA, EVK, EVF, ↓reduceIte, Nat.reduceEqDiff, Nat.reduceAdd, Nat.reduceSub, Nat.reduceMul, Nat.reduceLT, Nat.reduceLeDiff, reduceCtorEq, Int.reduceToNat, Int.reduceLT, Int.reduceLE, Int.reduceAdd, Int.reduceSub, Int.reduceMul, Int.reduceNeg, Int.reduceEq, Nat.reduceMod, forall_eq_or_imp, forall_eq, forall_const, cond_true, cond_false, decide_true, decide_false, true_imp_iff, implies_true, Int.cast_ofNat_Int, forall_eq']
  refine callK_ro (h5) ?_ ?_
  · simp only [↓EVP0, EVQ0, EVQ1, EVQ2, EVQ3, EVQ4, EVA, EVK, EVF, ↓reduceIte, Nat.reduceEqDiff, Nat.reduceAdd, Nat.reduceSub, Nat.reduceMul, Nat.reduceLT, Nat.reduceLeDiff, reduceCtorEq, Int.reduceToNat, Int.reduceLT, Int.reduceLE, Int.reduceAdd, Int.reduceSub, Int.reduceMul, Int.reduceNeg, Int.reduceEq, Nat.reduceMod, forall_eq_or_imp, forall_eq, forall_const, cond_true, cond_false, decide_true, decide_false, true_imp_iff, implies_true, Int.cast_ofNat_Int, forall_eq']
  simp only [↓EVP0, EVQ0, EVQ1, EVQ2, EVQ3, EVQ4, EVA, EVK, EVF, ↓reduceIte, Nat.reduceEqDiff, Nat.reduceAdd, Nat.reduceSub, Nat.reduceMul, Nat.reduceLT, Nat.reduceLeDiff, reduceCtorEq, Int.reduceToNat, Int.reduceLT, Int.reduceLE, Int.reduceAdd, Int.reduceSub, Int.reduceMul, Int.reduceNeg, Int.reduceEq, Nat.reduceMod, forall_eq_or_imp, forall_eq, forall_const, cond_true, cond_false, decide_true, decide_false, true_imp_iff, implies_true, Int.cast_ofNat_Int, forall_eq']
  refine ⟨fun hv => ?_, fun hv => ?_⟩
  · have hv' : validE p = 0 := of_decide_eq_true hv
    have hV := valid_of hv'
    have h32 := hV.c32
    have e : cablesE p x = cabT p x p.cs.length := by unfold cablesE; rw [if_pos hv']
    rw [e]
    intro _
    refine lwp_for (α := Unit) p.cs.length (fun _ _ => True) (fun k _ => [(1, .sc (.int .i64 x)), (2, .sc (.int .i64 y)), (3, .ptr 0 0 0 0 0), (7, .sc (.int .i64 (nbrE p x y).1)), (8, .sc (.int .i64 (nbrE p x y).2.1)), (9, .sc (.int .i64 (nbrE p x y).2.2.1)), (10, .sc (.bool (nbrE p x y).2.2.2)), (11, .rsl 1 (cabT p x p.cs.length).length (intsF (cabT p x p.cs.length))), (12, if cabT p x k = [] then .nsl else .sl 3 ((cabT p x k).length - 1) 1 0 (cabT p x k).length), (13, .sc (.int .i64 (atT p x y k))), (40, .rsl 6 p.cs.length (cbsF p.cs)), (41, .sc (.int .i64 p.cs.length)), (42, .sc (.int .i64 k))])
      (fun k _ => (0, .box [.rsl 3 p.ns.length (ndsF p.ns), .rsl 6 p.cs.length (cbsF p.cs)]) :: if cabT p x k = [] then [] else [(0, .box (cbL (p.cs.getD ((cabT p x k).getD 0 0).toNat default))), (0, .ints [(cabT p x k).getD 0 0]), ((cabT p x k).length - 1, .ints (cabT p x k))]) () trivial ?_ (fun _ _ => Nat.zero_le _) ?_
    · rw [show cabT p x 0 = [] from rfl, show atT p x y 0 = -1 from rfl]
      simp only [if_true]
      simp only [↓EVP0, EVQ0, EVQ1, EVQ2, EVQ3, EVQ4, EVA, EVK, EVF, ↓reduceIte, Nat.reduceEqDiff, Nat.reduceAdd, Nat.reduceSub, Nat.reduceMul, Nat.reduceLT, Nat.reduceLeDiff, reduceCtorEq, Int.reduceToNat, Int.reduceLT, Int.reduceLE, Int.reduceAdd, Int.reduceSub, Int.reduceMul, Int.reduceNeg, Int.reduceEq, Nat.reduceMod, forall_eq_or_imp, forall_eq, forall_const, cond_true, cond_false, decide_true, decide_false, true_imp_iff, implies_true, Int.cast_ofNat_Int, forall_eq']
    intro k _ hk _
    have hps : cabT p x (k + 1) = cabT p x k ++ if touB (p.cs.getD k default) x = true then [(k : Int)] else [] := pickT_succ _ k
    have hple : (cabT p x k).length ≤ k := pickT_len _ _
    have hat : atT p x y (k + 1) = if matB (p.cs.getD k default) x y = true then (k : Int) else atT p x y k := rfl
    have hoth : k < p.cs.length → decide (0 ≤ othE (p.cs.getD k default) x) = touB (p.cs.getD k default) x := fun h => oth_ge hv' (by
      rw [List.getD_eq_getElem?_getD, List.getElem?_eq_getElem h]; exact List.getElem_mem h) x
    by_cases hq : cabT p x k = []
    · by_cases hdk : touB (p.cs.getD k default) x = true
      · have hp1 : cabT p x (k + 1) = [(k : Int)] := by rw [hps, if_pos hdk, hq]; rfl
        simp only [hp1, hq, List.cons_ne_nil, if_true, if_false]
        unfold lb6_0
        simp only [↓EVP0, EVQ0, EVQ1, EVQ2, EVQ3, EVQ4, EVA, EVK, EVF, ↓reduceIte, Nat.reduceEqDiff, Nat.reduceAdd, Nat.reduceSub, Nat.reduceMul, Nat.reduceLT, Nat.reduceLeDiff, reduceCtorEq, Int.reduceToNat, Int.reduceLT, Int.reduceLE, Int.reduceAdd, Int.reduceSub, Int.reduceMul, Int.reduceNeg, Int.reduceEq, Nat.reduceMod, forall_eq_or_imp, forall_eq, forall_const, cond_true, cond_false, decide_true, decide_false, true_imp_iff, implies_true, Int.cast_ofNat_Int, forall_eq']
        have hdk' := hdk
        refine ⟨fun hg => ?_, fun hg => ?_⟩
        · have hk2 : k < p.cs.length := by have := of_decide_eq_true hg; omega
          refine ⟨⟨by omega, by omega⟩, ?_⟩
          refine callK_ro (h6 (p.cs.getD k default) x) ?_ ?_
          · simp only [↓EVP0, EVQ0, EVQ1, EVQ2, EVQ3, EVQ4, EVA, EVK, EVF, ↓reduceIte, Nat.reduceEqDiff, Nat.reduceAdd, Nat.reduceSub, Nat.reduceMul, Nat.reduceLT, Nat.reduceLeDiff, reduceCtorEq, Int.reduceToNat, Int.reduceLT, Int.reduceLE, Int.reduceAdd, Int.reduceSub, Int.reduceMul, Int.reduceNeg, Int.reduceEq, Nat.reduceMod, forall_eq_or_imp, forall_eq, forall_const, cond_true, cond_false, decide_true, decide_false, true_imp_iff, implies_true, Int.cast_ofNat_Int, forall_eq']
          simp only [↓EVP0, EVQ0, EVQ1, EVQ2, EVQ3, EVQ4, EVA, EVK, EVF, ↓reduceIte, Nat.reduceEqDiff, Nat.reduceAdd, Nat.reduceSub, Nat.reduceMul, Nat.reduceLT, Nat.reduceLeDiff, reduceCtorEq, Int.reduceToNat, Int.reduceLT, Int.reduceLE, Int.reduceAdd, Int.reduceSub, Int.reduceMul, Int.reduceNeg, Int.reduceEq, Nat.reduceMod, forall_eq_or_imp, forall_eq, forall_const, cond_true, cond_false, decide_true, decide_false, true_imp_iff, implies_true, Int.cast_ofNat_Int, forall_eq']
          rw [hoth hk2, hdk']
          simp only [show (bif bif decide ((p.cs.getD k default).a = x) then decide ((p.cs.getD k default).ap = y) else false then true else bif decide ((p.cs.getD k default).b = x) then decide ((p.cs.getD k default).bp = y) else false) = matB (p.cs.getD k default) x y by unfold matB; rw [condT, condF, condF]]
          exact ⟨fun _ => ⟨by unfold appRoom; omega, fun h => ⟨by unfold In64; omega, hk2, (), by rw [hat, if_pos h], rfl, cb_all _ _⟩, fun h => ⟨by unfold In64; omega, hk2, (), by rw [hat, if_neg (by rw [h]; simp)], rfl, cb_all _ _⟩⟩, fun h => by simp at h⟩
        · have hkk : k = p.cs.length := by have := of_decide_eq_false hg; omega
          subst hkk
          refine callK_frz (h7 (cabT p x p.cs.length) (cabT p x p.cs.length)) ?_ ?_ ?_
          · rw [hq]; simp only [↓EVP0, EVQ0, EVQ1, EVQ2, EVQ3, EVQ4, EVA, EVK, EVF, ↓reduceIte, Nat.reduceEqDiff, Nat.reduceAdd, Nat.reduceSub, Nat.reduceMul, Nat.reduceLT, Nat.reduceLeDiff, reduceCtorEq, Int.reduceToNat, Int.reduceLT, Int.reduceLE, Int.reduceAdd, Int.reduceSub, Int.reduceMul, Int.reduceNeg, Int.reduceEq, Nat.reduceMod, forall_eq_or_imp, forall_eq, forall_const, cond_true, cond_false, decide_true, decide_false, true_imp_iff, implies_true, Int.cast_ofNat_Int, forall_eq']
          · simp only [↓EVP0, EVQ0, EVQ1, EVQ2, EVQ3, EVQ4, EVA, EVK, EVF, ↓reduceIte, Nat.reduceEqDiff, Nat.reduceAdd, Nat.reduceSub, Nat.reduceMul, Nat.reduceLT, Nat.reduceLeDiff, reduceCtorEq, Int.reduceToNat, Int.reduceLT, Int.reduceLE, Int.reduceAdd, Int.reduceSub, Int.reduceMul, Int.reduceNeg, Int.reduceEq, Nat.reduceMod, forall_eq_or_imp, forall_eq, forall_const, cond_true, cond_false, decide_true, decide_false, true_imp_iff, implies_true, Int.cast_ofNat_Int, forall_eq']
          simp only [↓EVP0, EVQ0, EVQ1, EVQ2, EVQ3, EVQ4, EVA, EVK, EVF, ↓reduceIte, Nat.reduceEqDiff, Nat.reduceAdd, Nat.reduceSub, Nat.reduceMul, Nat.reduceLT, Nat.reduceLeDiff, reduceCtorEq, Int.reduceToNat, Int.reduceLT, Int.reduceLE, Int.reduceAdd, Int.reduceSub, Int.reduceMul, Int.reduceNeg, Int.reduceEq, Nat.reduceMod, forall_eq_or_imp, forall_eq, forall_const, cond_true, cond_false, decide_true, decide_false, true_imp_iff, implies_true, Int.cast_ofNat_Int, forall_eq']
          by_cases h0 : 0 ≤ atT p x y p.cs.length
          · obtain ⟨j, hj, e9, hm⟩ := atT_of h0
            obtain ⟨b1, b2, b3⟩ := nbr_back hv' hj hm
            rw [show (nbrE p x y).2.2.2 = true from congrArg (·.2) b2, show (nbrE p x y).2.2.1 = (j : Int) from congrArg (·.1) b2, e9]
            refine ⟨fun h => by simp at h, fun _ => ⟨fun h => by simp at h, fun _ => ?_⟩⟩
            refine callK_ro (h3 (nbrE p x y).1 (nbrE p x y).2.1) ?_ ?_
            · simp only [↓EVP0, EVQ0, EVQ1, EVQ2, EVQ3, EVQ4, EVA, EVK, EVF, ↓reduceIte, Nat.reduceEqDiff, Nat.reduceAdd, Nat.reduceSub, Nat.reduceMul, Nat.reduceLT, Nat.reduceLeDiff, reduceCtorEq, Int.reduceToNat, Int.reduceLT, Int.reduceLE, Int.reduceAdd, Int.reduceSub, Int.reduceMul, Int.reduceNeg, Int.reduceEq, Nat.reduceMod, forall_eq_or_imp, forall_eq, forall_const, cond_true, cond_false, decide_true, decide_false, true_imp_iff, implies_true, Int.cast_ofNat_Int, forall_eq']
            simp only [↓EVP0, EVQ0, EVQ1, EVQ2, EVQ3, EVQ4, EVA, EVK, EVF, ↓reduceIte, Nat.reduceEqDiff, Nat.reduceAdd, Nat.reduceSub, Nat.reduceMul, Nat.reduceLT, Nat.reduceLeDiff, reduceCtorEq, Int.reduceToNat, Int.reduceLT, Int.reduceLE, Int.reduceAdd, Int.reduceSub, Int.reduceMul, Int.reduceNeg, Int.reduceEq, Nat.reduceMod, forall_eq_or_imp, forall_eq, forall_const, cond_true, cond_false, decide_true, decide_false, true_imp_iff, implies_true, Int.cast_ofNat_Int, forall_eq']
            rw [b1]
            simp only [decide_true, cond_true]
            refine ⟨fun _ => ⟨by omega, by omega⟩, ?_⟩
            (refine lops_ge_imp ?_; simp only [↓EVP0, EVQ0, EVQ1, EVQ2, EVQ3, EVQ4, EVA, EVK, EVF, ↓reduceIte, Nat.reduceEqDiff, Nat.reduceAdd, Nat.reduceSub, Nat.reduceMul, Nat.reduceLT, Nat.reduceLeDiff, reduceCtorEq, Int.reduceToNat, Int.reduceLT, Int.reduceLE, Int.reduceAdd, Int.reduceSub, Int.reduceMul, Int.reduceNeg, Int.reduceEq, Nat.reduceMod, forall_eq_or_imp, forall_eq, forall_const, cond_true, cond_false, decide_true, decide_false, true_imp_iff, implies_true, Int.cast_ofNat_Int, forall_eq'])
            refine gCallK_ro _ (fun _ => h6 (p.cs.getD j default) x) (fun _ => ?_) ?_
            · simp only [↓EVP0, EVQ0, EVQ1, EVQ2, EVQ3, EVQ4, EVA, EVK, EVF, ↓reduceIte, Nat.reduceEqDiff, Nat.reduceAdd, Nat.reduceSub, Nat.reduceMul, Nat.reduceLT, Nat.reduceLeDiff, reduceCtorEq, Int.reduceToNat, Int.reduceLT, Int.reduceLE, Int.reduceAdd, Int.reduceSub, Int.reduceMul, Int.reduceNeg, Int.reduceEq, Nat.reduceMod, forall_eq_or_imp, forall_eq, forall_const, cond_true, cond_false, decide_true, decide_false, true_imp_iff, implies_true, Int.cast_ofNat_Int, forall_eq']
            simp only [↓EVP0, EVQ0, EVQ1, EVQ2, EVQ3, EVQ4, EVA, EVK, EVF, ↓reduceIte, Nat.reduceEqDiff, Nat.reduceAdd, Nat.reduceSub, Nat.reduceMul, Nat.reduceLT, Nat.reduceLeDiff, reduceCtorEq, Int.reduceToNat, Int.reduceLT, Int.reduceLE, Int.reduceAdd, Int.reduceSub, Int.reduceMul, Int.reduceNeg, Int.reduceEq, Nat.reduceMod, forall_eq_or_imp, forall_eq, forall_const, cond_true, cond_false, decide_true, decide_false, true_imp_iff, implies_true, Int.cast_ofNat_Int, forall_eq']
            exact decide_eq_true b3
          · obtain ⟨e9, hm⟩ := atT_neg h0
            have b1 : nbrE p x y = (-1, -1, -1, false) := by
              unfold nbrE
              rw [if_pos hv']
              refine nbrGo_none fun c hc => ?_
              obtain ⟨j, hj, rfl⟩ := List.getElem_of_mem hc
              have := hm j hj
              rwa [List.getD_eq_getElem?_getD, List.getElem?_eq_getElem hj] at this
            rw [b1, e9]
            exact ⟨fun h => by simp at h, fun _ => ⟨fun _ => by simp, fun h => by simp at h⟩⟩
      · have hp1 : cabT p x (k + 1) = [] := by rw [hps, if_neg hdk, hq]; rfl
        simp only [hp1, hq, if_true]
        unfold lb6_0
        simp only [↓EVP0, EVQ0, EVQ1, EVQ2, EVQ3, EVQ4, EVA, EVK, EVF, ↓reduceIte, Nat.reduceEqDiff, Nat.reduceAdd, Nat.reduceSub, Nat.reduceMul, Nat.reduceLT, Nat.reduceLeDiff, reduceCtorEq, Int.reduceToNat, Int.reduceLT, Int.reduceLE, Int.reduceAdd, Int.reduceSub, Int.reduceMul, Int.reduceNeg, Int.reduceEq, Nat.reduceMod, forall_eq_or_imp, forall_eq, forall_const, cond_true, cond_false, decide_true, decide_false, true_imp_iff, implies_true, Int.cast_ofNat_Int, forall_eq']
        have hdk'' : touB (p.cs.getD k default) x = false := by simpa using hdk
        refine ⟨fun hg => ?_, fun hg => ?_⟩
        · have hk2 : k < p.cs.length := by have := of_decide_eq_true hg; omega
          refine ⟨⟨by omega, by omega⟩, ?_⟩
          refine callK_ro (h6 (p.cs.getD k default) x) ?_ ?_
          · simp only [↓EVP0, EVQ0, EVQ1, EVQ2, EVQ3, EVQ4, EVA, EVK, EVF, ↓reduceIte, Nat.reduceEqDiff, Nat.reduceAdd, Nat.reduceSub, Nat.reduceMul, Nat.reduceLT, Nat.reduceLeDiff, reduceCtorEq, Int.reduceToNat, Int.reduceLT, Int.reduceLE, Int.reduceAdd, Int.reduceSub, Int.reduceMul, Int.reduceNeg, Int.reduceEq, Nat.reduceMod, forall_eq_or_imp, forall_eq, forall_const, cond_true, cond_false, decide_true, decide_false, true_imp_iff, implies_true, Int.cast_ofNat_Int, forall_eq']
          simp only [↓EVP0, EVQ0, EVQ1, EVQ2, EVQ3, EVQ4, EVA, EVK, EVF, ↓reduceIte, Nat.reduceEqDiff, Nat.reduceAdd, Nat.reduceSub, Nat.reduceMul, Nat.reduceLT, Nat.reduceLeDiff, reduceCtorEq, Int.reduceToNat, Int.reduceLT, Int.reduceLE, Int.reduceAdd, Int.reduceSub, Int.reduceMul, Int.reduceNeg, Int.reduceEq, Nat.reduceMod, forall_eq_or_imp, forall_eq, forall_const, cond_true, cond_false, decide_true, decide_false, true_imp_iff, implies_true, Int.cast_ofNat_Int, forall_eq']
          rw [hoth hk2, hdk'']
          simp only [show (bif bif decide ((p.cs.getD k default).a = x) then decide ((p.cs.getD k default).ap = y) else false then true else bif decide ((p.cs.getD k default).b = x) then decide ((p.cs.getD k default).bp = y) else false) = matB (p.cs.getD k default) x y by unfold matB; rw [condT, condF, condF]]
          exact ⟨fun h => by simp at h, fun _ => ⟨fun h => ⟨by unfold In64; omega, hk2, (), by rw [hat, if_pos h]⟩, fun h => ⟨by unfold In64; omega, hk2, (), by rw [hat, if_neg (by rw [h]; simp)]⟩⟩⟩
        · have hkk : k = p.cs.length := by have := of_decide_eq_false hg; omega
          subst hkk
          refine callK_frz (h7 (cabT p x p.cs.length) (cabT p x p.cs.length)) ?_ ?_ ?_
          · rw [hq]; simp only [↓EVP0, EVQ0, EVQ1, EVQ2, EVQ3, EVQ4, EVA, EVK, EVF, ↓reduceIte, Nat.reduceEqDiff, Nat.reduceAdd, Nat.reduceSub, Nat.reduceMul, Nat.reduceLT, Nat.reduceLeDiff, reduceCtorEq, Int.reduceToNat, Int.reduceLT, Int.reduceLE, Int.reduceAdd, Int.reduceSub, Int.reduceMul, Int.reduceNeg, Int.reduceEq, Nat.reduceMod, forall_eq_or_imp, forall_eq, forall_const, cond_true, cond_false, decide_true, decide_false, true_imp_iff, implies_true, Int.cast_ofNat_Int, forall_eq']
          · simp only [↓EVP0, EVQ0, EVQ1, EVQ2, EVQ3, EVQ4, EVA, EVK, EVF, ↓reduceIte, Nat.reduceEqDiff, Nat.reduceAdd, Nat.reduceSub, Nat.reduceMul, Nat.reduceLT, Nat.reduceLeDiff, reduceCtorEq, Int.reduceToNat, Int.reduceLT, Int.reduceLE, Int.reduceAdd, Int.reduceSub, Int.reduceMul, Int.reduceNeg, Int.reduceEq, Nat.reduceMod, forall_eq_or_imp, forall_eq, forall_const, cond_true, cond_false, decide_true, decide_false, true_imp_iff, implies_true, Int.cast_ofNat_Int, forall_eq']
          simp only [↓EVP0, EVQ0, EVQ1, EVQ2, EVQ3, EVQ4, EVA, EVK, EVF, ↓reduceIte, Nat.reduceEqDiff, Nat.reduceAdd, Nat.reduceSub, Nat.reduceMul, Nat.reduceLT, Nat.reduceLeDiff, reduceCtorEq, Int.reduceToNat, Int.reduceLT, Int.reduceLE, Int.reduceAdd, Int.reduceSub, Int.reduceMul, Int.reduceNeg, Int.reduceEq, Nat.reduceMod, forall_eq_or_imp, forall_eq, forall_const, cond_true, cond_false, decide_true, decide_false, true_imp_iff, implies_true, Int.cast_ofNat_Int, forall_eq']
          by_cases h0 : 0 ≤ atT p x y p.cs.length
          · obtain ⟨j, hj, e9, hm⟩ := atT_of h0
            obtain ⟨b1, b2, b3⟩ := nbr_back hv' hj hm
            rw [show (nbrE p x y).2.2.2 = true from congrArg (·.2) b2, show (nbrE p x y).2.2.1 = (j : Int) from congrArg (·.1) b2, e9]
            refine ⟨fun h => by simp at h, fun _ => ⟨fun h => by simp at h, fun _ => ?_⟩⟩
            refine callK_ro (h3 (nbrE p x y).1 (nbrE p x y).2.1) ?_ ?_
            · simp only [↓EVP0, EVQ0, EVQ1, EVQ2, EVQ3, EVQ4, EVA, EVK, EVF, ↓reduceIte, Nat.reduceEqDiff, Nat.reduceAdd, Nat.reduceSub, Nat.reduceMul, Nat.reduceLT, Nat.reduceLeDiff, reduceCtorEq, Int.reduceToNat, Int.reduceLT, Int.reduceLE, Int.reduceAdd, Int.reduceSub, Int.reduceMul, Int.reduceNeg, Int.reduceEq, Nat.reduceMod, forall_eq_or_imp, forall_eq, forall_const, cond_true, cond_false, decide_true, decide_false, true_imp_iff, implies_true, Int.cast_ofNat_Int, forall_eq']
            simp only [↓EVP0, EVQ0, EVQ1, EVQ2, EVQ3, EVQ4, EVA, EVK, EVF, ↓reduceIte, Nat.reduceEqDiff, Nat.reduceAdd, Nat.reduceSub, Nat.reduceMul, Nat.reduceLT, Nat.reduceLeDiff, reduceCtorEq, Int.reduceToNat, Int.reduceLT, Int.reduceLE, Int.reduceAdd, Int.reduceSub, Int.reduceMul, Int.reduceNeg, Int.reduceEq, Nat.reduceMod, forall_eq_or_imp, forall_eq, forall_const, cond_true, cond_false, decide_true, decide_false, true_imp_iff, implies_true, Int.cast_ofNat_Int, forall_eq']
            rw [b1]
            simp only [decide_true, cond_true]
            refine ⟨fun _ => ⟨by omega, by omega⟩, ?_⟩
            (refine lops_ge_imp ?_; simp only [↓EVP0, EVQ0, EVQ1, EVQ2, EVQ3, EVQ4, EVA, EVK, EVF, ↓reduceIte, Nat.reduceEqDiff, Nat.reduceAdd, Nat.reduceSub, Nat.reduceMul, Nat.reduceLT, Nat.reduceLeDiff, reduceCtorEq, Int.reduceToNat, Int.reduceLT, Int.reduceLE, Int.reduceAdd, Int.reduceSub, Int.reduceMul, Int.reduceNeg, Int.reduceEq, Nat.reduceMod, forall_eq_or_imp, forall_eq, forall_const, cond_true, cond_false, decide_true, decide_false, true_imp_iff, implies_true, Int.cast_ofNat_Int, forall_eq'])
            refine gCallK_ro _ (fun _ => h6 (p.cs.getD j default) x) (fun _ => ?_) ?_
            · simp only [↓EVP0, EVQ0, EVQ1, EVQ2, EVQ3, EVQ4, EVA, EVK, EVF, ↓reduceIte, Nat.reduceEqDiff, Nat.reduceAdd, Nat.reduceSub, Nat.reduceMul, Nat.reduceLT, Nat.reduceLeDiff, reduceCtorEq, Int.reduceToNat, Int.reduceLT, Int.reduceLE, Int.reduceAdd, Int.reduceSub, Int.reduceMul, Int.reduceNeg, Int.reduceEq, Nat.reduceMod, forall_eq_or_imp, forall_eq, forall_const, cond_true, cond_false, decide_true, decide_false, true_imp_iff, implies_true, Int.cast_ofNat_Int, forall_eq']
            simp only [↓EVP0, EVQ0, EVQ1, EVQ2, EVQ3, EVQ4, EVA, EVK, EVF, ↓reduceIte, Nat.reduceEqDiff, Nat.reduceAdd, Nat.reduceSub, Nat.reduceMul, Nat.reduceLT, Nat.reduceLeDiff, reduceCtorEq, Int.reduceToNat, Int.reduceLT, Int.reduceLE, Int.reduceAdd, Int.reduceSub, Int.reduceMul, Int.reduceNeg, Int.reduceEq, Nat.reduceMod, forall_eq_or_imp, forall_eq, forall_const, cond_true, cond_false, decide_true, decide_false, true_imp_iff, implies_true, Int.cast_ofNat_Int, forall_eq']
            exact decide_eq_true b3
          · obtain ⟨e9, hm⟩ := atT_neg h0
            have b1 : nbrE p x y = (-1, -1, -1, false) := by
              unfold nbrE
              rw [if_pos hv']
              refine nbrGo_none fun c hc => ?_
              obtain ⟨j, hj, rfl⟩ := List.getElem_of_mem hc
              have := hm j hj
              rwa [List.getD_eq_getElem?_getD, List.getElem?_eq_getElem hj] at this
            rw [b1, e9]
            exact ⟨fun h => by simp at h, fun _ => ⟨fun _ => by simp, fun h => by simp at h⟩⟩
    · by_cases hdk : touB (p.cs.getD k default) x = true
      · have hp1 : cabT p x (k + 1) = cabT p x k ++ [(k : Int)] := by rw [hps, if_pos hdk]
        simp only [hp1, hq, List.append_eq_nil_iff, List.cons_ne_nil, and_false, if_false]
        unfold lb6_0
        simp only [↓EVP0, EVQ0, EVQ1, EVQ2, EVQ3, EVQ4, EVA, EVK, EVF, ↓reduceIte, Nat.reduceEqDiff, Nat.reduceAdd, Nat.reduceSub, Nat.reduceMul, Nat.reduceLT, Nat.reduceLeDiff, reduceCtorEq, Int.reduceToNat, Int.reduceLT, Int.reduceLE, Int.reduceAdd, Int.reduceSub, Int.reduceMul, Int.reduceNeg, Int.reduceEq, Nat.reduceMod, forall_eq_or_imp, forall_eq, forall_const, cond_true, cond_false, decide_true, decide_false, true_imp_iff, implies_true, Int.cast_ofNat_Int, forall_eq']
        have hdk' := hdk
        refine ⟨fun hg => ?_, fun hg => ?_⟩
        · have hk2 : k < p.cs.length := by have := of_decide_eq_true hg; omega
          refine ⟨⟨by omega, by omega⟩, ?_⟩
          refine callK_ro (h6 (p.cs.getD k default) x) ?_ ?_
          · simp only [↓EVP0, EVQ0, EVQ1, EVQ2, EVQ3, EVQ4, EVA, EVK, EVF, ↓reduceIte, Nat.reduceEqDiff, Nat.reduceAdd, Nat.reduceSub, Nat.reduceMul, Nat.reduceLT, Nat.reduceLeDiff, reduceCtorEq, Int.reduceToNat, Int.reduceLT, Int.reduceLE, Int.reduceAdd, Int.reduceSub, Int.reduceMul, Int.reduceNeg, Int.reduceEq, Nat.reduceMod, forall_eq_or_imp, forall_eq, forall_const, cond_true, cond_false, decide_true, decide_false, true_imp_iff, implies_true, Int.cast_ofNat_Int, forall_eq']
          simp only [↓EVP0, EVQ0, EVQ1, EVQ2, EVQ3, EVQ4, EVA, EVK, EVF, ↓reduceIte, Nat.reduceEqDiff, Nat.reduceAdd, Nat.reduceSub, Nat.reduceMul, Nat.reduceLT, Nat.reduceLeDiff, reduceCtorEq, Int.reduceToNat, Int.reduceLT, Int.reduceLE, Int.reduceAdd, Int.reduceSub, Int.reduceMul, Int.reduceNeg, Int.reduceEq, Nat.reduceMod, forall_eq_or_imp, forall_eq, forall_const, cond_true, cond_false, decide_true, decide_false, true_imp_iff, implies_true, Int.cast_ofNat_Int, forall_eq']
          rw [hoth hk2, hdk']
          simp only [show (bif bif decide ((p.cs.getD k default).a = x) then decide ((p.cs.getD k default).ap = y) else false then true else bif decide ((p.cs.getD k default).b = x) then decide ((p.cs.getD k default).bp = y) else false) = matB (p.cs.getD k default) x y by unfold matB; rw [condT, condF, condF]]
          have hpl : 0 < (cabT p x k).length := List.length_pos_iff.2 hq
          have hl1 : (cabT p x k ++ [(k : Int)]).length = (cabT p x k).length + 1 := by simp
          refine ⟨fun _ => ⟨Nat.le_refl _, by unfold appRoom; omega, ?_⟩, fun h => by simp at h⟩
          rw [show (cabT p x k).length - 1 + 1 = (cabT p x k).length + 1 - 1 by omega, List.take_of_length_le (Nat.le_refl _), hl1, getD_app0 hpl]
          exact ⟨fun h => ⟨by unfold In64; omega, hk2, (), ⟨rfl, by rw [hat, if_pos h]⟩, rfl, cb_all _ _, rfl, rfl, rfl⟩, fun h => ⟨by unfold In64; omega, hk2, (), ⟨rfl, by rw [hat, if_neg (by rw [h]; simp)]⟩, rfl, cb_all _ _, rfl, rfl, rfl⟩⟩
        · have hkk : k = p.cs.length := by have := of_decide_eq_false hg; omega
          subst hkk
          refine callK_frz (h7 (cabT p x p.cs.length) (cabT p x p.cs.length)) ?_ ?_ ?_
          · simp only [↓EVP0, EVQ0, EVQ1, EVQ2, EVQ3, EVQ4, EVA, EVK, EVF, ↓reduceIte, Nat.reduceEqDiff, Nat.reduceAdd, Nat.reduceSub, Nat.reduceMul, Nat.reduceLT, Nat.reduceLeDiff, reduceCtorEq, Int.reduceToNat, Int.reduceLT, Int.reduceLE, Int.reduceAdd, Int.reduceSub, Int.reduceMul, Int.reduceNeg, Int.reduceEq, Nat.reduceMod, forall_eq_or_imp, forall_eq, forall_const, cond_true, cond_false, decide_true, decide_false, true_imp_iff, implies_true, Int.cast_ofNat_Int, forall_eq']; exact Nat.le_refl _
          · simp only [↓EVP0, EVQ0, EVQ1, EVQ2, EVQ3, EVQ4, EVA, EVK, EVF, ↓reduceIte, Nat.reduceEqDiff, Nat.reduceAdd, Nat.reduceSub, Nat.reduceMul, Nat.reduceLT, Nat.reduceLeDiff, reduceCtorEq, Int.reduceToNat, Int.reduceLT, Int.reduceLE, Int.reduceAdd, Int.reduceSub, Int.reduceMul, Int.reduceNeg, Int.reduceEq, Nat.reduceMod, forall_eq_or_imp, forall_eq, forall_const, cond_true, cond_false, decide_true, decide_false, true_imp_iff, implies_true, Int.cast_ofNat_Int, forall_eq']
          simp only [↓EVP0, EVQ0, EVQ1, EVQ2, EVQ3, EVQ4, EVA, EVK, EVF, ↓reduceIte, Nat.reduceEqDiff, Nat.reduceAdd, Nat.reduceSub, Nat.reduceMul, Nat.reduceLT, Nat.reduceLeDiff, reduceCtorEq, Int.reduceToNat, Int.reduceLT, Int.reduceLE, Int.reduceAdd, Int.reduceSub, Int.reduceMul, Int.reduceNeg, Int.reduceEq, Nat.reduceMod, forall_eq_or_imp, forall_eq, forall_const, cond_true, cond_false, decide_true, decide_false, true_imp_iff, implies_true, Int.cast_ofNat_Int, forall_eq']
          by_cases h0 : 0 ≤ atT p x y p.cs.length
          · obtain ⟨j, hj, e9, hm⟩ := atT_of h0
            obtain ⟨b1, b2, b3⟩ := nbr_back hv' hj hm
            rw [show (nbrE p x y).2.2.2 = true from congrArg (·.2) b2, show (nbrE p x y).2.2.1 = (j : Int) from congrArg (·.1) b2, e9]
            refine ⟨fun h => by simp at h, fun _ => ⟨fun h => by simp at h, fun _ => ?_⟩⟩
            refine callK_ro (h3 (nbrE p x y).1 (nbrE p x y).2.1) ?_ ?_
            · simp only [↓EVP0, EVQ0, EVQ1, EVQ2, EVQ3, EVQ4, EVA, EVK, EVF, ↓reduceIte, Nat.reduceEqDiff, Nat.reduceAdd, Nat.reduceSub, Nat.reduceMul, Nat.reduceLT, Nat.reduceLeDiff, reduceCtorEq, Int.reduceToNat, Int.reduceLT, Int.reduceLE, Int.reduceAdd, Int.reduceSub, Int.reduceMul, Int.reduceNeg, Int.reduceEq, Nat.reduceMod, forall_eq_or_imp, forall_eq, forall_const, cond_true, cond_false, decide_true, decide_false, true_imp_iff, implies_true, Int.cast_ofNat_Int, forall_eq']
            simp only [↓EVP0, EVQ0, EVQ1, EVQ2, EVQ3, EVQ4, EVA, EVK, EVF, ↓reduceIte, Nat.reduceEqDiff, Nat.reduceAdd, Nat.reduceSub, Nat.reduceMul, Nat.reduceLT, Nat.reduceLeDiff, reduceCtorEq, Int.reduceToNat, Int.reduceLT, Int.reduceLE, Int.reduceAdd, Int.reduceSub, Int.reduceMul, Int.reduceNeg, Int.reduceEq, Nat.reduceMod, forall_eq_or_imp, forall_eq, forall_const, cond_true, cond_false, decide_true, decide_false, true_imp_iff, implies_true, Int.cast_ofNat_Int, forall_eq']
            rw [b1]
            simp only [decide_true, cond_true]
            refine ⟨fun _ => ⟨by omega, by omega⟩, ?_⟩
            (refine lops_ge_imp ?_; simp only [↓EVP0, EVQ0, EVQ1, EVQ2, EVQ3, EVQ4, EVA, EVK, EVF, ↓reduceIte, Nat.reduceEqDiff, Nat.reduceAdd, Nat.reduceSub, Nat.reduceMul, Nat.reduceLT, Nat.reduceLeDiff, reduceCtorEq, Int.reduceToNat, Int.reduceLT, Int.reduceLE, Int.reduceAdd, Int.reduceSub, Int.reduceMul, Int.reduceNeg, Int.reduceEq, Nat.reduceMod, forall_eq_or_imp, forall_eq, forall_const, cond_true, cond_false, decide_true, decide_false, true_imp_iff, implies_true, Int.cast_ofNat_Int, forall_eq'])
            refine gCallK_ro _ (fun _ => h6 (p.cs.getD j default) x) (fun _ => ?_) ?_
            · simp only [↓EVP0, EVQ0, EVQ1, EVQ2, EVQ3, EVQ4, EVA, EVK, EVF, ↓reduceIte, Nat.reduceEqDiff, Nat.reduceAdd, Nat.reduceSub, Nat.reduceMul, Nat.reduceLT, Nat.reduceLeDiff, reduceCtorEq, Int.reduceToNat, Int.reduceLT, Int.reduceLE, Int.reduceAdd, Int.reduceSub, Int.reduceMul, Int.reduceNeg, Int.reduceEq, Nat.reduceMod, forall_eq_or_imp, forall_eq, forall_const, cond_true, cond_false, decide_true, decide_false, true_imp_iff, implies_true, Int.cast_ofNat_Int, forall_eq']
            simp only [↓EVP0, EVQ0, EVQ1, EVQ2, EVQ3, EVQ4, EVA, EVK, EVF, ↓reduceIte, Nat.reduceEqDiff, Nat.reduceAdd, Nat.reduceSub, Nat.reduceMul, Nat.reduceLT, Nat.reduceLeDiff, reduceCtorEq, Int.reduceToNat, Int.reduceLT, Int.reduceLE, Int.reduceAdd, Int.reduceSub, Int.reduceMul, Int.reduceNeg, Int.reduceEq, Nat.reduceMod, forall_eq_or_imp, forall_eq, forall_const, cond_true, cond_false, decide_true, decide_false, true_imp_iff, implies_true, Int.cast_ofNat_Int, forall_eq']
            exact decide_eq_true b3
          · obtain ⟨e9, hm⟩ := atT_neg h0
            have b1 : nbrE p x y = (-1, -1, -1, false) := by
              unfold nbrE
              rw [if_pos hv']
              refine nbrGo_none fun c hc => ?_
              obtain ⟨j, hj, rfl⟩ := List.getElem_of_mem hc
              have := hm j hj
              rwa [List.getD_eq_getElem?_getD, List.getElem?_eq_getElem hj] at this
            rw [b1, e9]
            exact ⟨fun h => by simp at h, fun _ => ⟨fun _ => by simp, fun h => by simp at h⟩⟩
      · have hp1 : cabT p x (k + 1) = cabT p x k := by rw [hps, if_neg hdk]; simp
        simp only [hp1, hq, if_false]
        unfold lb6_0
        simp only [↓EVP0, EVQ0, EVQ1, EVQ2, EVQ3, EVQ4, EVA, EVK, EVF, ↓reduceIte, Nat.reduceEqDiff, Nat.reduceAdd, Nat.reduceSub, Nat.reduceMul, Nat.reduceLT, Nat.reduceLeDiff, reduceCtorEq, Int.reduceToNat, Int.reduceLT, Int.reduceLE, Int.reduceAdd, Int.reduceSub, Int.reduceMul, Int.reduceNeg, Int.reduceEq, Nat.reduceMod, forall_eq_or_imp, forall_eq, forall_const, cond_true, cond_false, decide_true, decide_false, true_imp_iff, implies_true, Int.cast_ofNat_Int, forall_eq']
        have hdk'' : touB (p.cs.getD k default) x = false := by simpa using hdk
        refine ⟨fun hg => ?_, fun hg => ?_⟩
        · have hk2 : k < p.cs.length := by have := of_decide_eq_true hg; omega
          refine ⟨⟨by omega, by omega⟩, ?_⟩
          refine callK_ro (h6 (p.cs.getD k default) x) ?_ ?_
          · simp only [↓EVP0, EVQ0, EVQ1, EVQ2, EVQ3, EVQ4, EVA, EVK, EVF, ↓reduceIte, Nat.reduceEqDiff, Nat.reduceAdd, Nat.reduceSub, Nat.reduceMul, Nat.reduceLT, Nat.reduceLeDiff, reduceCtorEq, Int.reduceToNat, Int.reduceLT, Int.reduceLE, Int.reduceAdd, Int.reduceSub, Int.reduceMul, Int.reduceNeg, Int.reduceEq, Nat.reduceMod, forall_eq_or_imp, forall_eq, forall_const, cond_true, cond_false, decide_true, decide_false, true_imp_iff, implies_true, Int.cast_ofNat_Int, forall_eq']
          simp only [↓EVP0, EVQ0, EVQ1, EVQ2, EVQ3, EVQ4, EVA, EVK, EVF, ↓reduceIte, Nat.reduceEqDiff, Nat.reduceAdd, Nat.reduceSub, Nat.reduceMul, Nat.reduceLT, Nat.reduceLeDiff, reduceCtorEq, Int.reduceToNat, Int.reduceLT, Int.reduceLE, Int.reduceAdd, Int.reduceSub, Int.reduceMul, Int.reduceNeg, Int.reduceEq, Nat.reduceMod, forall_eq_or_imp, forall_eq, forall_const, cond_true, cond_false, decide_true, decide_false, true_imp_iff, implies_true, Int.cast_ofNat_Int, forall_eq']
          rw [hoth hk2, hdk'']
          simp only [show (bif bif decide ((p.cs.getD k default).a = x) then decide ((p.cs.getD k default).ap = y) else false then true else bif decide ((p.cs.getD k default).b = x) then decide ((p.cs.getD k default).bp = y) else false) = matB (p.cs.getD k default) x y by unfold matB; rw [condT, condF, condF]]
          exact ⟨fun h => by simp at h, fun _ => ⟨fun h => ⟨by unfold In64; omega, hk2, (), by rw [hat, if_pos h], cb_all _ _⟩, fun h => ⟨by unfold In64; omega, hk2, (), by rw [hat, if_neg (by rw [h]; simp)], cb_all _ _⟩⟩⟩
        · have hkk : k = p.cs.length := by have := of_decide_eq_false hg; omega
          subst hkk
          refine callK_frz (h7 (cabT p x p.cs.length) (cabT p x p.cs.length)) ?_ ?_ ?_
          · simp only [↓EVP0, EVQ0, EVQ1, EVQ2, EVQ3, EVQ4, EVA, EVK, EVF, ↓reduceIte, Nat.reduceEqDiff, Nat.reduceAdd, Nat.reduceSub, Nat.reduceMul, Nat.reduceLT, Nat.reduceLeDiff, reduceCtorEq, Int.reduceToNat, Int.reduceLT, Int.reduceLE, Int.reduceAdd, Int.reduceSub, Int.reduceMul, Int.reduceNeg, Int.reduceEq, Nat.reduceMod, forall_eq_or_imp, forall_eq, forall_const, cond_true, cond_false, decide_true, decide_false, true_imp_iff, implies_true, Int.cast_ofNat_Int, forall_eq']; exact Nat.le_refl _
          · simp only [↓EVP0, EVQ0, EVQ1, EVQ2, EVQ3, EVQ4, EVA, EVK, EVF, ↓reduceIte, Nat.reduceEqDiff, Nat.reduceAdd, Nat.reduceSub, Nat.reduceMul, Nat.reduceLT, Nat.reduceLeDiff, reduceCtorEq, Int.reduceToNat, Int.reduceLT, Int.reduceLE, Int.reduceAdd, Int.reduceSub, Int.reduceMul, Int.reduceNeg, Int.reduceEq, Nat.reduceMod, forall_eq_or_imp, forall_eq, forall_const, cond_true, cond_false, decide_true, decide_false, true_imp_iff, implies_true, Int.cast_ofNat_Int, forall_eq']
          simp only [↓EVP0, EVQ0, EVQ1, EVQ2, EVQ3, EVQ4, EVA, EVK, EVF, ↓reduceIte, Nat.reduceEqDiff, Nat.reduceAdd, Nat.reduceSub, Nat.reduceMul, Nat.reduceLT, Nat.reduceLeDiff, reduceCtorEq, Int.reduceToNat, Int.reduceLT, Int.reduceLE, Int.reduceAdd, Int.reduceSub, Int.reduceMul, Int.reduceNeg, Int.reduceEq, Nat.reduceMod, forall_eq_or_imp, forall_eq, forall_const, cond_true, cond_false, decide_true, decide_false, true_imp_iff, implies_true, Int.cast_ofNat_Int, forall_eq']
          by_cases h0 : 0 ≤ atT p x y p.cs.length
          · obtain ⟨j, hj, e9, hm⟩ := atT_of h0
            obtain ⟨b1, b2, b3⟩ := nbr_back hv' hj hm
            rw [show (nbrE p x y).2.2.2 = true from congrArg (·.2) b2, show (nbrE p x y).2.2.1 = (j : Int) from congrArg (·.1) b2, e9]
            refine ⟨fun h => by simp at h, fun _ => ⟨fun h => by simp at h, fun _ => ?_⟩⟩
            refine callK_ro (h3 (nbrE p x y).1 (nbrE p x y).2.1) ?_ ?_
            · simp only [↓EVP0, EVQ0, EVQ1, EVQ2, EVQ3, EVQ4, EVA, EVK, EVF, ↓reduceIte, Nat.reduceEqDiff, Nat.reduceAdd, Nat.reduceSub, Nat.reduceMul, Nat.reduceLT, Nat.reduceLeDiff, reduceCtorEq, Int.reduceToNat, Int.reduceLT, Int.reduceLE, Int.reduceAdd, Int.reduceSub, Int.reduceMul, Int.reduceNeg, Int.reduceEq, Nat.reduceMod, forall_eq_or_imp, forall_eq, forall_const, cond_true, cond_false, decide_true, decide_false, true_imp_iff, implies_true, Int.cast_ofNat_Int, forall_eq']
            simp only [↓EVP0, EVQ0, EVQ1, EVQ2, EVQ3, EVQ4, EVA, EVK, EVF, ↓reduceIte, Nat.reduceEqDiff, Nat.reduceAdd, Nat.reduceSub, Nat.reduceMul, Nat.reduceLT, Nat.reduceLeDiff, reduceCtorEq, Int.reduceToNat, Int.reduceLT, Int.reduceLE, Int.reduceAdd, Int.reduceSub, Int.reduceMul, Int.reduceNeg, Int.reduceEq, Nat.reduceMod, forall_eq_or_imp, forall_eq, forall_const, cond_true, cond_false, decide_true, decide_false, true_imp_iff, implies_true, Int.cast_ofNat_Int, forall_eq']
            rw [b1]
            simp only [decide_true, cond_true]
            refine ⟨fun _ => ⟨by omega, by omega⟩, ?_⟩
            (refine lops_ge_imp ?_; simp only [↓EVP0, EVQ0, EVQ1, EVQ2, EVQ3, EVQ4, EVA, EVK, EVF, ↓reduceIte, Nat.reduceEqDiff, Nat.reduceAdd, Nat.reduceSub, Nat.reduceMul, Nat.reduceLT, Nat.reduceLeDiff, reduceCtorEq, Int.reduceToNat, Int.reduceLT, Int.reduceLE, Int.reduceAdd, Int.reduceSub, Int.reduceMul, Int.reduceNeg, Int.reduceEq, Nat.reduceMod, forall_eq_or_imp, forall_eq, forall_const, cond_true, cond_false, decide_true, decide_false, true_imp_iff, implies_true, Int.cast_ofNat_Int, forall_eq'])
            refine gCallK_ro _ (fun _ => h6 (p.cs.getD j default) x) (fun _ => ?_) ?_
            · simp only [↓EVP0, EVQ0, EVQ1, EVQ2, EVQ3, EVQ4, EVA, EVK, EVF, ↓reduceIte, Nat.reduceEqDiff, Nat.reduceAdd, Nat.reduceSub, Nat.reduceMul, Nat.reduceLT, Nat.reduceLeDiff, reduceCtorEq, Int.reduceToNat, Int.reduceLT, Int.reduceLE, Int.reduceAdd, Int.reduceSub, Int.reduceMul, Int.reduceNeg, Int.reduceEq, Nat.reduceMod, forall_eq_or_imp, forall_eq, forall_const, cond_true, cond_false, decide_true, decide_false, true_imp_iff, implies_true, Int.cast_ofNat_Int, forall_eq']
            simp only [↓EVP0, EVQ0, EVQ1, EVQ2, EVQ3, EVQ4, EVA, EVK, EVF, ↓reduceIte, Nat.reduceEqDiff, Nat.reduceAdd, Nat.reduceSub, Nat.reduceMul, Nat.reduceLT, Nat.reduceLeDiff, reduceCtorEq, Int.reduceToNat, Int.reduceLT, Int.reduceLE, Int.reduceAdd, Int.reduceSub, Int.reduceMul, Int.reduceNeg, Int.reduceEq, Nat.reduceMod, forall_eq_or_imp, forall_eq, forall_const, cond_true, cond_false, decide_true, decide_false, true_imp_iff, implies_true, Int.cast_ofNat_Int, forall_eq']
            exact decide_eq_true b3
          · obtain ⟨e9, hm⟩ := atT_neg h0
            have b1 : nbrE p x y = (-1, -1, -1, false) := by
              unfold nbrE
              rw [if_pos hv']
              refine nbrGo_none fun c hc => ?_
              obtain ⟨j, hj, rfl⟩ := List.getElem_of_mem hc
              have := hm j hj
              rwa [List.getD_eq_getElem?_getD, List.getElem?_eq_getElem hj] at this
            rw [b1, e9]
            exact ⟨fun h => by simp at h, fun _ => ⟨fun _ => by simp, fun h => by simp at h⟩⟩
  · have e1 : cablesE p x = [] := by unfold cablesE; rw [if_neg (of_decide_eq_false hv)]
    have e2 : nbrE p x y = (-1, -1, -1, false) := by unfold nbrE; rw [if_neg (of_decide_eq_false hv)]
    rw [e1, e2]
    refine callK_frz (h7 [] []) ?_ ?_ ?_
    · simp only [↓EVP0, EVQ0, EVQ1, EVQ2, EVQ3, EVQ4, EVA, EVK, EVF, ↓reduceIte, Nat.reduceEqDiff, Nat.reduceAdd, Nat.reduceSub, Nat.reduceMul, Nat.reduceLT, Nat.reduceLeDiff, reduceCtorEq, Int.reduceToNat, Int.reduceLT, Int.reduceLE, Int.reduceAdd, Int.reduceSub, Int.reduceMul, Int.reduceNeg, Int.reduceEq, Nat.reduceMod, forall_eq_or_imp, forall_eq, forall_const, cond_true, cond_false, decide_true, decide_false, true_imp_iff, implies_true, Int.cast_ofNat_Int, forall_eq']
    · simp only [↓EVP0, EVQ0, EVQ1, EVQ2, EVQ3, EVQ4, EVA, EVK, EVF, ↓reduceIte, Nat.reduceEqDiff, Nat.reduceAdd, Nat.reduceSub, Nat.reduceMul, Nat.reduceLT, Nat.reduceLeDiff, reduceCtorEq, Int.reduceToNat, Int.reduceLT, Int.reduceLE, Int.reduceAdd, Int.reduceSub, Int.reduceMul, Int.reduceNeg, Int.reduceEq, Nat.reduceMod, forall_eq_or_imp, forall_eq, forall_const, cond_true, cond_false, decide_true, decide_false, true_imp_iff, implies_true, Int.cast_ofNat_Int, forall_eq']
    simp only [↓EVP0, EVQ0, EVQ1, EVQ2, EVQ3, EVQ4, EVA, EVK, EVF, ↓reduceIte, Nat.reduceEqDiff, Nat.reduceAdd, Nat.reduceSub, Nat.reduceMul, Nat.reduceLT, Nat.reduceLeDiff, reduceCtorEq, Int.reduceToNat, Int.reduceLT, Int.reduceLE, Int.reduceAdd, Int.reduceSub, Int.reduceMul, Int.reduceNeg, Int.reduceEq, Nat.reduceMod, forall_eq_or_imp, forall_eq, forall_const, cond_true, cond_false, decide_true, decide_false, true_imp_iff, implies_true, Int.cast_ofNat_Int, forall_eq']
    exact ⟨fun h => by simp at h, fun _ => trivial⟩
end Go.Proofs.YtchpncmmlhfemaaDoor
namespace Go.Proofs.YtchpncmmlhfemaaDoor
set_option linter.unusedSimpArgs false
set_option linter.unusedVariables false
open Go.RowKit
set_option maxRecDepth 20000

theorem roTo1_self {h : LH} {x : LV} (hx : roish1 x) : roTo1 h x x := by cases x <;> first | exact hx.elim | exact ⟨rfl, hx⟩
theorem roToL_self {h : LH} : ∀ {l : List LV}, roishL l → roToL h l l
  | [], _ => trivial
  | _ :: _, hl => ⟨roTo1_self hl.1, roToL_self hl.2⟩
theorem roish2_of {x : LV} (hx : roish1 x) : roish2 x := by cases x <;> first | exact hx.elim | exact hx
theorem roishL2_of : ∀ {l : List LV}, roishL l → roishL2 l
  | [], _ => trivial
  | _ :: _, hl => ⟨roish2_of hl.1, roishL2_of hl.2⟩
theorem allC_of {n : Nat} : ∀ {l : List LV}, roishL l → allC n l
  | [], _ => trivial
  | x :: _, hl => ⟨by have := hl.1; cases x <;> first | exact this.elim | trivial, allC_of hl.2⟩
theorem roTo2_box {h : LH} {k ver : Nat} {cs ds : List LV} (hk : k < h.n) (hv : h.f k = (ver, .box cs)) (hl : roToL h cs ds) : roTo2 h (.ptr k ver 0 0 0) (.rptr ds) := by
  refine ⟨hk, by rw [hv], rfl, rfl, rfl, ?_⟩
  rw [hv]; exact hl
theorem getD_mem {α : Type} (d : α) {l : List α} {i : Nat} (h : i < l.length) : l.getD i d ∈ l := by
  rw [List.getD_eq_getElem?_getD, List.getElem?_eq_getElem h]; exact List.getElem_mem h
/-- As roTo2; what a closure has caught may be a variable. -/
def roToF (h : LH) : LV → LV → Prop
  | .fn f cs, .fn g ds => f = g ∧ roToL2 h cs ds
  | x, y => roTo2 h x y
def roToLF (h : LH) : List LV → List LV → Prop
  | [], [] => True
  | x :: r, y :: q => roToF h x y ∧ roToLF h r q
  | _, _ => False
section
variable {P : Program} {B : Nat} {R R' : RO} {ι : IM} {h : LH} {w : World}
theorem roToF_ok (hrep : Rep R ι h B w) (hl : RoLe R R') (hfz : ∀ k, k < h.n → (h.f k).2.live = true → ((ι k).m ≠ 0 ∨ (h.f k).2.isMap = true) → R' (ι k).b = w.heap[(ι k).b]?)
    {lv r : LV} {v : Value} (hr : Rv R ι h lv v) (ht : roToF h lv r) : Ro R' r v := by
  unfold roToF at ht
  split at ht
  · rename_i f cs g ds
    obtain ⟨rfl, ht⟩ := ht
    obtain ⟨vs, rfl, h1, h2⟩ := hr.fn_inv
    obtain ⟨g1, g2⟩ := roToL2_get ht
    refine .fn _ _ _ (by omega) (fun i c hi => ?_)
    obtain ⟨x, hx, hx2⟩ := g2 i c hi
    exact roTo2_ok hrep hl hfz (h2 i x hx) hx2
  · exact roTo2_ok hrep hl hfz hr ht
theorem roToLF_get : ∀ {xs ys : List LV}, roToLF h xs ys → xs.length = ys.length ∧ ∀ (i : Nat) (y : LV), ys[i]? = some y → ∃ x, xs[i]? = some x ∧ roToF h x y
  | [], [], _ => ⟨rfl, fun i y hy => by simp at hy⟩
  | x :: r, y :: q, ht => by
    obtain ⟨h1, h2⟩ := roToLF_get ht.2
    refine ⟨by simp [h1], fun i z hz => ?_⟩
    cases i with
    | zero => simp at hz; subst hz; exact ⟨x, rfl, ht.1⟩
    | succ i =>
      obtain ⟨u, hu, hu2⟩ := h2 i z (by simpa using hz)
      exact ⟨u, by simpa using hu, hu2⟩
  | [], _ :: _, ht => ht.elim
  | _ :: _, [], ht => ht.elim
theorem lcall_frzF {f : FuncId} {args args' : List LV} {r : LV} (he : Ev P f args' r) (ha : roToLF h args args') (hs : scal r) : LCall P f args h r h := by
  intro B R ι w vs hB hr hsz hargs
  obtain ⟨g1, g2⟩ := roToLF_get ha
  refine (he (fun b => w.heap[b]?) w vs (fun _ _ h => h) (by omega) (fun i a hi => ?_)).mono ?_
  · obtain ⟨x, hx, hx2⟩ := g2 i a hi
    exact roToF_ok hr (fun b o hb => hr.ro b o hb) (fun _ _ _ _ => rfl) (hargs i x hx) hx2
  · intro e w' hx
    obtain ⟨v, R', rfl, h1, h2, h3, h4, h5⟩ := hx
    refine ⟨v, R, ι, rfl, trans_call hB hr (R2 := R) (fun b o hbo => ?_) h4 (fun _ _ h => h) (fun _ _ => rfl) rfl, .ro (scal_ok hs h5)⟩
    have := hr.ro b o hbo
    rw [h4.block b (Array.getElem?_eq_some_iff.1 this).1]; exact this
end
theorem callK_frzF {P : Program} {f : FuncId} {al al' : List LV} {h : LH} {k : LV → LH → Prop} {r : LV} (he : Ev P f al' r) (ha : roToLF h al al') (hs : scal r) (hk : k r h) : @callK P f al h ⟨k⟩ := ⟨r, h, lcall_frzF he ha hs, hk⟩
theorem roTo2_self {h : LH} {x : LV} (hx : roish2 x) : roTo2 h x x := by
  cases x with
  | agg cs => exact roToL_self hx
  | fn f cs => exact ⟨rfl, roToL_self hx⟩
  | sc v => exact ⟨rfl, trivial⟩
  | nsl => exact ⟨rfl, trivial⟩
  | rsl a b c => exact ⟨rfl, trivial⟩
  | rptr cs => exact ⟨rfl, trivial⟩
  | rmp es => exact ⟨rfl, trivial⟩
  | _ => exact hx.elim
theorem roToF_self {h : LH} {x : LV} (hx : roish1 x) : roToF h x x := by cases x <;> first | exact hx.elim | exact roTo2_self (h := h) (roish2_of hx)
theorem roToF_agg {h : LH} {cs : List LV} (hx : roishL cs) : roToF h (.agg cs) (.agg cs) := roToL_self hx
def fidx (b : Int → Bool) : List Int → Int → Int
  | [], _ => -1
  | x :: r, i => if b x = true then i else fidx b r (i + 1)
theorem fidx_cons (b : Int → Bool) (x : Int) (r : List Int) (i : Int) : fidx b (x :: r) i = if b x = true then i else fidx b r (i + 1) := rfl
theorem fidx_any (b : Int → Bool) : ∀ (q : List Int) (i : Int), 0 ≤ i → decide (0 ≤ fidx b q i) = q.any b
  | [], i, h => rfl
  | x :: r, i, h => by
    unfold fidx
    rw [List.any_cons]
    by_cases hb : b x = true
    · rw [if_pos hb, hb, decide_eq_true h]; rfl
    · rw [if_neg hb, fidx_any b r (i + 1) (by omega), Bool.eq_false_iff.2 hb]; rfl
theorem ev_indexF (q : List Int) (hl : q.length ≤ 1000) (vf : FuncId) (caps : List LV) (hok : okF Tryd.prog vf = true) (hc : roishL caps) (b : Int → Bool) (hb : ∀ x, x ∈ q → Ev Tryd.prog vf (.sc (.int .i64 x) :: caps) (.sc (.bool (b x)))) :
    Ev Tryd.prog 44 [intsV q, .fn vf caps] (.sc (.int .i64 (fidx b q 0))) := by
  have hc2 := roishL2_of hc
  unfold intsV
  refine ev_fn Tryd.func44 comp44 (show 2 ≤ Tryd.f44.ntmps by decide) ?_; unfold cf44 rf44; simp only [↓EVP0, EVQ0, EVQ1, EVQ2, EVQ3, EVQ4, EVA, EVK, EVF, ↓reduceIte, Nat.reduceEqDiff, Nat.reduceAdd, Nat.reduceSub, Nat.reduceMul, Nat.reduceLT, Nat.reduceLeDiff, reduceCtorEq, Int.reduceToNat, Int.reduceLT, Int.reduceLE, Int.reduceAdd, Int.reduceSub, Int.reduceMul, Int.reduceNeg, Int.reduceEq, Nat.reduceMod, forall_eq_or_imp, forall_eq, forall_const, cond_true, cond_false, decide_true, decide_false, true_imp_iff, implies_true, Int.cast_ofNat_Int, forall_eq']
  intro _
  refine lwp_for (α := Unit) q.length (fun i _ => fidx b q 0 = fidx b (q.drop i) i) (fun i _ => [(0, .rsl 1 q.length (intsF q)), (1, .fn vf caps), (7, .sc (.int .i64 q.length)), (8, .sc (.int .i64 i))]) (fun _ _ => []) () rfl ?_ (fun _ _ => Nat.zero_le _) ?_
  · simp only [↓EVP0, EVQ0, EVQ1, EVQ2, EVQ3, EVQ4, EVA, EVK, EVF, ↓reduceIte, Nat.reduceEqDiff, Nat.reduceAdd, Nat.reduceSub, Nat.reduceMul, Nat.reduceLT, Nat.reduceLeDiff, reduceCtorEq, Int.reduceToNat, Int.reduceLT, Int.reduceLE, Int.reduceAdd, Int.reduceSub, Int.reduceMul, Int.reduceNeg, Int.reduceEq, Nat.reduceMod, forall_eq_or_imp, forall_eq, forall_const, cond_true, cond_false, decide_true, decide_false, true_imp_iff, implies_true, Int.cast_ofNat_Int, forall_eq']
    exact allC_of hc
  intro i _ hi hx
  unfold lb44_0
  simp only [↓EVP0, EVQ0, EVQ1, EVQ2, EVQ3, EVQ4, EVA, EVK, EVF, ↓reduceIte, Nat.reduceEqDiff, Nat.reduceAdd, Nat.reduceSub, Nat.reduceMul, Nat.reduceLT, Nat.reduceLeDiff, reduceCtorEq, Int.reduceToNat, Int.reduceLT, Int.reduceLE, Int.reduceAdd, Int.reduceSub, Int.reduceMul, Int.reduceNeg, Int.reduceEq, Nat.reduceMod, forall_eq_or_imp, forall_eq, forall_const, cond_true, cond_false, decide_true, decide_false, true_imp_iff, implies_true, Int.cast_ofNat_Int, forall_eq']
  refine ⟨fun hg => ?_, fun hg => ?_⟩
  · have hi2 : i < q.length := by have := of_decide_eq_true hg; omega
    have hq := hb _ (getD_mem 0 hi2)
    rw [drop_getG 0 hi2, fidx_cons] at hx
    refine ⟨⟨by omega, by omega⟩, hok, callK_ro hq ⟨trivial, hc2⟩ ?_⟩
    simp only [↓EVP0, EVQ0, EVQ1, EVQ2, EVQ3, EVQ4, EVA, EVK, EVF, ↓reduceIte, Nat.reduceEqDiff, Nat.reduceAdd, Nat.reduceSub, Nat.reduceMul, Nat.reduceLT, Nat.reduceLeDiff, reduceCtorEq, Int.reduceToNat, Int.reduceLT, Int.reduceLE, Int.reduceAdd, Int.reduceSub, Int.reduceMul, Int.reduceNeg, Int.reduceEq, Nat.reduceMod, forall_eq_or_imp, forall_eq, forall_const, cond_true, cond_false, decide_true, decide_false, true_imp_iff, implies_true, Int.cast_ofNat_Int, forall_eq']
    refine ⟨fun h => ?_, fun h => ⟨by unfold In64; omega, hi2, (), ?_, allC_of hc⟩⟩
    · rw [if_pos h] at hx; rw [hx]
    · rw [if_neg (by rw [h]; simp)] at hx; rw [hx]
  · have hii : i = q.length := by have := of_decide_eq_false hg; omega
    rw [hx, hii, List.drop_length]; rfl
theorem ev_containsF (q : List Int) (hl : q.length ≤ 1000) (vf : FuncId) (caps : List LV) (hok : okF Tryd.prog vf = true) (hc : roishL caps) (b : Int → Bool) (hb : ∀ x, x ∈ q → Ev Tryd.prog vf (.sc (.int .i64 x) :: caps) (.sc (.bool (b x)))) :
    Ev Tryd.prog 26 [intsV q, .fn vf caps] (.sc (.bool (q.any b))) := by
  have h1 := ev_indexF q hl vf caps hok hc b hb
  rw [← fidx_any b q 0 (Int.le_refl _)]
  unfold intsV at *
  refine ev_fn Tryd.func26 comp26 (show 2 ≤ Tryd.f26.ntmps by decide) ?_; unfold cf26 rf26; simp only [↓EVP0, EVQ0, EVQ1, EVQ2, EVQ3, EVQ4, EVA, EVK, EVF, ↓reduceIte, Nat.reduceEqDiff, Nat.reduceAdd, Nat.reduceSub, Nat.reduceMul, Nat.reduceLT, Nat.reduceLeDiff, reduceCtorEq, Int.reduceToNat, Int.reduceLT, Int.reduceLE, Int.reduceAdd, Int.reduceSub, Int.reduceMul, Int.reduceNeg, Int.reduceEq, Nat.reduceMod, forall_eq_or_imp, forall_eq, forall_const, cond_true, cond_false, decide_true, decide_false, true_imp_iff, implies_true, Int.cast_ofNat_Int, forall_eq']
  refine callK_ro h1 ⟨trivial, hc, trivial⟩ ?_
  simp only [↓EVP0, EVQ0, EVQ1, EVQ2, EVQ3, EVQ4, EVA, EVK, EVF, ↓reduceIte, Nat.reduceEqDiff, Nat.reduceAdd, Nat.reduceSub, Nat.reduceMul, Nat.reduceLT, Nat.reduceLeDiff, reduceCtorEq, Int.reduceToNat, Int.reduceLT, Int.reduceLE, Int.reduceAdd, Int.reduceSub, Int.reduceMul, Int.reduceNeg, Int.reduceEq, Nat.reduceMod, forall_eq_or_imp, forall_eq, forall_const, cond_true, cond_false, decide_true, decide_false, true_imp_iff, implies_true, Int.cast_ofNat_Int, forall_eq']
end Go.Proofs.YtchpncmmlhfemaaDoor
namespace Go.Proofs.YtchpncmmlhfemaaDoor
set_option linter.unusedSimpArgs false
set_option linter.unusedVariables false
open Go.RowKit
set_option maxRecDepth 20000

theorem near_one {n : Nat} {U : List Cb} {r : Int} (hU : CabN n U) (hr : inN n r) {v : Int} (h : 0 < distX n U r v) : ∃ z, nbr U z v ∧ distX n U r z = distX n U r v - 1 := by
  obtain ⟨h1, _⟩ | ⟨k, h1, _, h2, h3⟩ := distX_cases hU hr v
  · omega
  · cases k with
    | zero => omega
    | succ k =>
      obtain h4 | ⟨z, h4, h5⟩ := W_succ.1 h2
      · rw [h3 k (by omega)] at h4; simp at h4
      · refine ⟨z, h4, ?_⟩
        rw [distX_of hU hr h5 (fun j hj => ?_), h1]
        · omega
        · cases hw : W U r j z
          · rfl
          · have h6 := W_succ.2 (.inr ⟨z, h4, hw⟩)
            rw [h3 (j + 1) (by omega)] at h6; simp at h6
def nearB (up : List Bool) (cs : List Cb) (d : List Int) (v x i : Int) : Bool := up.getD i.toNat false && decide (d.getD (othE (cs.getD i.toNat default) v).toNat 0 = x - 1)
theorem pickT_mem {q : Nat → Bool} {k : Nat} {i : Int} : i ∈ pickT q k ↔ ∃ j : Nat, j < k ∧ q j = true ∧ i = j := by
  unfold pickT
  simp only [List.mem_map, List.mem_filter, List.mem_range]
  constructor
  · rintro ⟨j, ⟨h1, h2⟩, rfl⟩; exact ⟨j, h1, h2, rfl⟩
  · rintro ⟨j, h1, h2, rfl⟩; exact ⟨j, ⟨h1, h2⟩, rfl⟩
theorem near_any {p : Pl} (hv : validE p = 0) (up : List Bool) {r : Int} (hr : inN p.ns.length r) {v : Nat} (h : 0 < distX p.ns.length (upU p.cs up) r v) :
    (cabT p v p.cs.length).any (nearB up p.cs (distL p.ns.length (upU p.cs up) r) v (distX p.ns.length (upU p.cs up) r v)) = true := by
  have hV := valid_of hv
  have hU := upU_in (up := up) hV.cab
  obtain ⟨z, ⟨c, hc, ho⟩, hz⟩ := near_one hU hr h
  obtain ⟨j, hj, hu, e⟩ := upP_mem.1 hc
  have hci : c ∈ p.cs := by rw [← e]; exact getD_mem default hj
  have hs := hV.self c hci
  obtain ⟨ha, hb⟩ := hV.cab c hci
  have hot : othE c v = z := by
    unfold othE
    rcases ho with ⟨rfl, e2⟩ | ⟨rfl, e2⟩
    · rw [decide_eq_false (fun e3 => hs (by rw [e3, e2])), decide_eq_true e2]; rfl
    · rw [decide_eq_true e2]; rfl
  have hzn : inN p.ns.length z := by
    rcases ho with ⟨rfl, _⟩ | ⟨rfl, _⟩ <;> assumption
  have ht : touB c v = true := by
    unfold touB
    rcases ho with ⟨_, e2⟩ | ⟨_, e2⟩ <;> rw [e2] <;> simp
  refine List.any_eq_true.2 ⟨(j : Int), pickT_mem.2 ⟨j, hj, by rw [e]; exact ht, rfl⟩, ?_⟩
  unfold nearB
  rw [show (j : Int).toNat = j by omega, e, hot, hu]
  unfold inN at hzn
  rw [distL_getD (by omega), show ((z.toNat : Nat) : Int) = z by omega, hz]
  simp
theorem ev_steps1 (p : Pl) (hv : validE p = 0) (up : List Bool) (hup : up.length = p.cs.length) (d : List Int) (hd : d.length = p.ns.length) (v x : Int) (hx : In64 (x - 1)) (i : Int) (hi : i ∈ cabT p v p.cs.length) :
    Ev Tryd.prog 27 [.sc (.int .i64 i), .rptr [boolsV up], .rptr [intsV d], .rptr [.rsl 3 p.ns.length (ndsF p.ns), .rsl 6 p.cs.length (cbsF p.cs)], .rptr [.sc (.int .i64 v)], .rptr [.sc (.int .i64 x)]] (.sc (.bool (nearB up p.cs d v x i))) := by
  have h6 := ev_oth
  obtain ⟨j, hj, ht, rfl⟩ := pickT_mem.1 hi
  have hV := valid_of hv
  have h32 := hV.c32
  have h16 := hV.n16
  unfold boolsV intsV
  unfold cbL at h6
  refine ev_fn Tryd.func27 comp27 (show 6 ≤ Tryd.f27.ntmps by decide) ?_; unfold cf27 rf27; simp only [↓EVP0, EVQ0, EVQ1, EVQ2, EVQ3, EVQ4, EVA, EVK, EVF, ↓reduceIte, Nat.reduceEqDiff, Nat.reduceAdd, Nat.reduceSub, Nat.reduceMul, Nat.reduceLT, Nat.reduceLeDiff, reduceCtorEq, Int.reduceToNat, Int.reduceLT, Int.reduceLE, Int.reduceAdd, Int.reduceSub, Int.reduceMul, Int.reduceNeg, Int.reduceEq, Nat.reduceMod, forall_eq_or_imp, forall_eq, forall_const, cond_true, cond_false, decide_true, decide_false, true_imp_iff, implies_true, Int.cast_ofNat_Int, forall_eq']
  have hju : j < up.length := by omega
  have hoj : inN p.ns.length (othE (p.cs.getD j default) v) := by
    obtain ⟨ha, hb⟩ := hV.cab _ (getD_mem default hj)
    unfold touB at ht
    unfold othE
    by_cases e1 : (p.cs.getD j default).a = v
    · rw [decide_eq_true e1]; exact hb
    · rw [decide_eq_false e1] at ht ⊢
      rw [Bool.false_or] at ht
      rw [ht]; exact ha
  unfold inN at hoj
  rw [decide_eq_false (show ¬ ((j : Int) < 0) by omega), decide_eq_false (show ¬ ((up.length : Int) ≤ (j : Int)) by omega)]
  simp only [cond_false]
  refine ⟨fun _ => ⟨by omega, by omega⟩, fun h => ?_, fun h => ⟨⟨by omega, by omega⟩, ?_⟩⟩
  · have hf : up.getD j false = false := by simpa using h
    unfold nearB
    rw [show (j : Int).toNat = j by omega, hf]; rfl
  have hf : up.getD j false = true := by simpa using h
  first | refine qCallK_ro (h6 (p.cs.getD j default) v) ?_ ?_ | refine eCallK_ro (h6 (p.cs.getD j default) v) ?_ ?_
  · simp only [↓EVP0, EVQ0, EVQ1, EVQ2, EVQ3, EVQ4, EVA, EVK, EVF, ↓reduceIte, Nat.reduceEqDiff, Nat.reduceAdd, Nat.reduceSub, Nat.reduceMul, Nat.reduceLT, Nat.reduceLeDiff, reduceCtorEq, Int.reduceToNat, Int.reduceLT, Int.reduceLE, Int.reduceAdd, Int.reduceSub, Int.reduceMul, Int.reduceNeg, Int.reduceEq, Nat.reduceMod, forall_eq_or_imp, forall_eq, forall_const, cond_true, cond_false, decide_true, decide_false, true_imp_iff, implies_true, Int.cast_ofNat_Int, forall_eq']
  simp only [↓EVP0, EVQ0, EVQ1, EVQ2, EVQ3, EVQ4, EVA, EVK, EVF, ↓reduceIte, Nat.reduceEqDiff, Nat.reduceAdd, Nat.reduceSub, Nat.reduceMul, Nat.reduceLT, Nat.reduceLeDiff, reduceCtorEq, Int.reduceToNat, Int.reduceLT, Int.reduceLE, Int.reduceAdd, Int.reduceSub, Int.reduceMul, Int.reduceNeg, Int.reduceEq, Nat.reduceMod, forall_eq_or_imp, forall_eq, forall_const, cond_true, cond_false, decide_true, decide_false, true_imp_iff, implies_true, Int.cast_ofNat_Int, forall_eq']
  refine ⟨⟨by omega, by omega⟩, hx, ?_⟩
  unfold nearB
  rw [show (j : Int).toNat = j by omega, hf, Bool.true_and]
theorem ev_lawSteps (p : Pl) (hp : PlOk p) (r : Int) (up : List Bool) : Ev Tryd.prog 8 [plV p, .sc (.int .i64 r), boolsV up] (.sc (.bool true)) := by
  have h1 := ev_awake14
  have h2 := ev_great14 p
  have h3 := ev_valid p hp
  have h4 := ev_dists p hp r up
  have h5 := fun v => ev_cables p hp v
  unfold plV boolsV intsV at *
  refine ev_fn Tryd.func8 comp8 (show 3 ≤ Tryd.f8.ntmps by decide) ?_; unfold cf8 rf8; simp only [↓EVP0, EVQ0, EVQ1, EVQ2, EVQ3, EVQ4, EVA, EVK, EVF, ↓reduceIte, Nat.reduceEqDiff, Nat.reduceAdd, Nat.reduceSub, Nat.reduceMul, Nat.reduceLT, Nat.reduceLeDiff, reduceCtorEq, Int.reduceToNat, Int.reduceLT, Int.reduceLE, Int.reduceAdd, Int.reduceSub, Int.reduceMul, Int.reduceNeg, Int.reduceEq, Nat.reduceMod, forall_eq_or_imp, forall_eq, forall_const, cond_true, cond_false, decide_true, decide_false, true_imp_iff, implies_true, Int.cast_ofNat_Int, forall_eq']
  refine callK_ro (h1) ?_ ?_
  · simp only [↓EVP0, EVQ0, EVQ1, EVQ2, EVQ3, EVQ4, EVA, EVK, EVF, ↓reduceIte, Nat.reduceEqDiff, Nat.reduceAdd, Nat.reduceSub, Nat.reduceMul, Nat.reduceLT, Nat.reduceLeDiff, reduceCtorEq, Int.reduceToNat, Int.reduceLT, Int.reduceLE, Int.reduceAdd, Int.reduceSub, Int.reduceMul, Int.reduceNeg, Int.reduceEq, Nat.reduceMod, forall_eq_or_imp, forall_eq, forall_const, cond_true, cond_false, decide_true, decide_false, true_imp_iff, implies_true, Int.cast_ofNat_Int, forall_eq']
  simp only [↓EVP0, EVQ0, EVQ1, EVQ2, EVQ3, EVQ4, EVA, EVK, EVF, ↓reduceIte, Nat.reduceEqDiff, Nat.reduceAdd, Nat.reduceSub, Nat.reduceMul, Nat.reduceLT, Nat.reduceLeDiff, reduceCtorEq, Int.reduceToNat, Int.reduceLT, Int.reduceLE, Int.reduceAdd, Int.reduceSub, Int.reduceMul, Int.reduceNeg, Int.reduceEq, Nat.reduceMod, forall_eq_or_imp, forall_eq, forall_const, cond_true, cond_false, decide_true, decide_false, true_imp_iff, implies_true, Int.cast_ofNat_Int, forall_eq']
  refine callK_ro (h2) ?_ ?_
  · simp only [↓EVP0, EVQ0, EVQ1, EVQ2, EVQ3, EVQ4, EVA, EVK, EVF, ↓reduceIte, Nat.reduceEqDiff, Nat.reduceAdd, Nat.reduceSub, Nat.reduceMul, Nat.reduceLT, Nat.reduceLeDiff, reduceCtorEq, Int.reduceToNat, Int.reduceLT, Int.reduceLE, Int.reduceAdd, Int.reduceSub, Int.reduceMul, Int.reduceNeg, Int.reduceEq, Nat.reduceMod, forall_eq_or_imp, forall_eq, forall_const, cond_true, cond_false, decide_true, decide_false, true_imp_iff, implies_true, Int.cast_ofNat_Int, forall_eq']
  simp only [↓EVP0, EVQ0, EVQ1, EVQ2, EVQ3, EVQ4, EVA, EVK, EVF, ↓reduceIte, Nat.reduceEqDiff, Nat.reduceAdd, Nat.reduceSub, Nat.reduceMul, Nat.reduceLT, Nat.reduceLeDiff, reduceCtorEq, Int.reduceToNat, Int.reduceLT, Int.reduceLE, Int.reduceAdd, Int.reduceSub, Int.reduceMul, Int.reduceNeg, Int.reduceEq, Nat.reduceMod, forall_eq_or_imp, forall_eq, forall_const, cond_true, cond_false, decide_true, decide_false, true_imp_iff, implies_true, Int.cast_ofNat_Int, forall_eq']
  (refine lops_ge_imp ?_; simp only [↓EVP0, EVQ0, EVQ1, EVQ2, EVQ3, EVQ4, EVA, EVK, EVF, ↓reduceIte, Nat.reduceEqDiff, Nat.reduceAdd, Nat.reduceSub, Nat.reduceMul, Nat.reduceLT, Nat.reduceLeDiff, reduceCtorEq, Int.reduceToNat, Int.reduceLT, Int.reduceLE, Int.reduceAdd, Int.reduceSub, Int.reduceMul, Int.reduceNeg, Int.reduceEq, Nat.reduceMod, forall_eq_or_imp, forall_eq, forall_const, cond_true, cond_false, decide_true, decide_false, true_imp_iff, implies_true, Int.cast_ofNat_Int, forall_eq'])
  refine gCallK_ro _ (fun _ => h3) (fun _ => ?_) ?_
  · simp only [↓EVP0, EVQ0, EVQ1, EVQ2, EVQ3, EVQ4, EVA, EVK, EVF, ↓reduceIte, Nat.reduceEqDiff, Nat.reduceAdd, Nat.reduceSub, Nat.reduceMul, Nat.reduceLT, Nat.reduceLeDiff, reduceCtorEq, Int.reduceToNat, Int.reduceLT, Int.reduceLE, Int.reduceAdd, Int.reduceSub, Int.reduceMul, Int.reduceNeg, Int.reduceEq, Nat.reduceMod, forall_eq_or_imp, forall_eq, forall_const, cond_true, cond_false, decide_true, decide_false, true_imp_iff, implies_true, Int.cast_ofNat_Int, forall_eq']
  simp only [↓EVP0, EVQ0, EVQ1, EVQ2, EVQ3, EVQ4, EVA, EVK, EVF, ↓reduceIte, Nat.reduceEqDiff, Nat.reduceAdd, Nat.reduceSub, Nat.reduceMul, Nat.reduceLT, Nat.reduceLeDiff, reduceCtorEq, Int.reduceToNat, Int.reduceLT, Int.reduceLE, Int.reduceAdd, Int.reduceSub, Int.reduceMul, Int.reduceNeg, Int.reduceEq, Nat.reduceMod, forall_eq_or_imp, forall_eq, forall_const, cond_true, cond_false, decide_true, decide_false, true_imp_iff, implies_true, Int.cast_ofNat_Int, forall_eq']
  by_cases hc : (great14 p = false ∧ validE p = 0) ∧ (up.length = p.cs.length ∧ inN p.ns.length r)
  · obtain ⟨⟨c1, c2⟩, c3, c4⟩ := hc
    unfold inN at c4
    rw [c1, decide_eq_true c2, decide_eq_true (show (up.length : Int) = p.cs.length by omega), decide_eq_false (show ¬ r < 0 by omega), decide_eq_false (show ¬ (p.ns.length : Int) ≤ r by omega)]
    simp only [Bool.not_true, cond_false]
    have hV := valid_of c2
    have h16 := hV.n16
    have h32 := hV.c32
    have hU := upU_in (up := up) hV.cab
    have e : distsE p r up = distL p.ns.length (upU p.cs up) r := by
      unfold distsE usableB
      rw [decide_eq_true c2, decide_eq_true c3, decide_eq_true c4.1, decide_eq_true c4.2]; rfl
    refine ⟨fun h => by simp at h, fun _ => ?_⟩
    refine callK_ro (h4) ?_ ?_
    · simp only [↓EVP0, EVQ0, EVQ1, EVQ2, EVQ3, EVQ4, EVA, EVK, EVF, ↓reduceIte, Nat.reduceEqDiff, Nat.reduceAdd, Nat.reduceSub, Nat.reduceMul, Nat.reduceLT, Nat.reduceLeDiff, reduceCtorEq, Int.reduceToNat, Int.reduceLT, Int.reduceLE, Int.reduceAdd, Int.reduceSub, Int.reduceMul, Int.reduceNeg, Int.reduceEq, Nat.reduceMod, forall_eq_or_imp, forall_eq, forall_const, cond_true, cond_false, decide_true, decide_false, true_imp_iff, implies_true, Int.cast_ofNat_Int, forall_eq']
    simp only [↓EVP0, EVQ0, EVQ1, EVQ2, EVQ3, EVQ4, EVA, EVK, EVF, ↓reduceIte, Nat.reduceEqDiff, Nat.reduceAdd, Nat.reduceSub, Nat.reduceMul, Nat.reduceLT, Nat.reduceLeDiff, reduceCtorEq, Int.reduceToNat, Int.reduceLT, Int.reduceLE, Int.reduceAdd, Int.reduceSub, Int.reduceMul, Int.reduceNeg, Int.reduceEq, Nat.reduceMod, forall_eq_or_imp, forall_eq, forall_const, cond_true, cond_false, decide_true, decide_false, true_imp_iff, implies_true, Int.cast_ofNat_Int, forall_eq']
    rw [e, distL_length]
    intro _ _
    refine ⟨fun h => by simp at h, fun _ _ => ?_⟩
    refine lwp_for (α := Unit) p.ns.length (fun _ _ => True) (fun k _ => [(3, .ptr 0 0 0 0 0), (5, .ptr 1 0 0 0 0), (7, .ptr 2 0 0 0 0), (48, .rsl 1 p.ns.length (intsF (distL p.ns.length (upU p.cs up) r))), (49, .sc (.int .i64 p.ns.length)), (50, .sc (.int .i64 k))])
      (fun _ _ => [(0, .box [.rsl 3 p.ns.length (ndsF p.ns), .rsl 6 p.cs.length (cbsF p.cs)]), (0, .box [.rsl 1 up.length (boolsF up)]), (0, .box [.rsl 1 p.ns.length (intsF (distL p.ns.length (upU p.cs up) r))])]) () trivial ?_ (fun _ _ => Nat.zero_le _) ?_
    · simp only [↓EVP0, EVQ0, EVQ1, EVQ2, EVQ3, EVQ4, EVA, EVK, EVF, ↓reduceIte, Nat.reduceEqDiff, Nat.reduceAdd, Nat.reduceSub, Nat.reduceMul, Nat.reduceLT, Nat.reduceLeDiff, reduceCtorEq, Int.reduceToNat, Int.reduceLT, Int.reduceLE, Int.reduceAdd, Int.reduceSub, Int.reduceMul, Int.reduceNeg, Int.reduceEq, Nat.reduceMod, forall_eq_or_imp, forall_eq, forall_const, cond_true, cond_false, decide_true, decide_false, true_imp_iff, implies_true, Int.cast_ofNat_Int, forall_eq']
    intro k _ hk _
    unfold lb8_0
    simp only [↓EVP0, EVQ0, EVQ1, EVQ2, EVQ3, EVQ4, EVA, EVK, EVF, ↓reduceIte, Nat.reduceEqDiff, Nat.reduceAdd, Nat.reduceSub, Nat.reduceMul, Nat.reduceLT, Nat.reduceLeDiff, reduceCtorEq, Int.reduceToNat, Int.reduceLT, Int.reduceLE, Int.reduceAdd, Int.reduceSub, Int.reduceMul, Int.reduceNeg, Int.reduceEq, Nat.reduceMod, forall_eq_or_imp, forall_eq, forall_const, cond_true, cond_false, decide_true, decide_false, true_imp_iff, implies_true, Int.cast_ofNat_Int, forall_eq']
    refine ⟨fun hg => ?_, fun _ => trivial⟩
    have hk2 : k < p.ns.length := by have := of_decide_eq_true hg; omega
    have hdg : (distL p.ns.length (upU p.cs up) r).getD k 0 = distX p.ns.length (upU p.cs up) r (k : Int) := distL_getD hk2
    refine ⟨⟨by omega, by omega⟩, fun _ => ⟨by unfold In64; omega, hk2, (), trivial⟩, fun h => ?_⟩
    have hpos : 0 < distX p.ns.length (upU p.cs up) r (k : Int) := by rw [← hdg]; have := of_decide_eq_false h; omega
    have hx : In64 ((distL p.ns.length (upU p.cs up) r).getD k 0 - 1) := by
      rw [hdg]
      obtain ⟨h1, _⟩ | ⟨m, h1, h2, _, _⟩ := distX_cases hU (show inN p.ns.length r from c4) (k : Int)
      · unfold In64; omega
      · unfold In64; omega
    have hce : cablesE p (k : Int) = cabT p k p.cs.length := by unfold cablesE; rw [if_pos c2]
    have hcl : (cabT p k p.cs.length).length ≤ p.cs.length := pickT_len _ _
    have h9 := ev_containsF (cabT p k p.cs.length) (by omega) 27 [.rptr [boolsV up], .rptr [intsV (distL p.ns.length (upU p.cs up) r)], .rptr [.rsl 3 p.ns.length (ndsF p.ns), .rsl 6 p.cs.length (cbsF p.cs)], .rptr [.sc (.int .i64 (k : Int))], .rptr [.sc (.int .i64 ((distL p.ns.length (upU p.cs up) r).getD k 0))]] (by kernel_rfl) ⟨trivial, trivial, trivial, trivial, trivial, trivial⟩ _ (fun i hi => ev_steps1 p c2 up c3 _ distL_length (k : Int) _ hx i hi)
    rw [hdg, near_any c2 up c4 hpos] at h9
    unfold boolsV intsV at h9
    rw [distL_length] at h9
    refine callK_ro (h5 (k : Int)) ?_ ?_
    · simp only [↓EVP0, EVQ0, EVQ1, EVQ2, EVQ3, EVQ4, EVA, EVK, EVF, ↓reduceIte, Nat.reduceEqDiff, Nat.reduceAdd, Nat.reduceSub, Nat.reduceMul, Nat.reduceLT, Nat.reduceLeDiff, reduceCtorEq, Int.reduceToNat, Int.reduceLT, Int.reduceLE, Int.reduceAdd, Int.reduceSub, Int.reduceMul, Int.reduceNeg, Int.reduceEq, Nat.reduceMod, forall_eq_or_imp, forall_eq, forall_const, cond_true, cond_false, decide_true, decide_false, true_imp_iff, implies_true, Int.cast_ofNat_Int, forall_eq']
    simp only [↓EVP0, EVQ0, EVQ1, EVQ2, EVQ3, EVQ4, EVA, EVK, EVF, ↓reduceIte, Nat.reduceEqDiff, Nat.reduceAdd, Nat.reduceSub, Nat.reduceMul, Nat.reduceLT, Nat.reduceLeDiff, reduceCtorEq, Int.reduceToNat, Int.reduceLT, Int.reduceLE, Int.reduceAdd, Int.reduceSub, Int.reduceMul, Int.reduceNeg, Int.reduceEq, Nat.reduceMod, forall_eq_or_imp, forall_eq, forall_const, cond_true, cond_false, decide_true, decide_false, true_imp_iff, implies_true, Int.cast_ofNat_Int, forall_eq']
    rw [hce, hdg]
    refine callK_frzF h9 ⟨roToF_self trivial, ⟨rfl, ?_, ?_, ?_, ?_, ?_, trivial⟩, trivial⟩ trivial ?_
    · exact roTo2_box (by simp [mkH]) rfl (roToL_self ⟨trivial, trivial⟩)
    · exact roTo2_box (by simp [mkH]) rfl (roToL_self ⟨trivial, trivial⟩)
    · exact roTo2_box (by simp [mkH]) rfl (roToL_self ⟨trivial, trivial, trivial⟩)
    · exact roTo2_box (by simp [mkH]) rfl (roToL_self ⟨trivial, trivial⟩)
    · exact roTo2_box (by simp [mkH]) rfl (roToL_self ⟨trivial, trivial⟩)
    simp only [↓EVP0, EVQ0, EVQ1, EVQ2, EVQ3, EVQ4, EVA, EVK, EVF, ↓reduceIte, Nat.reduceEqDiff, Nat.reduceAdd, Nat.reduceSub, Nat.reduceMul, Nat.reduceLT, Nat.reduceLeDiff, reduceCtorEq, Int.reduceToNat, Int.reduceLT, Int.reduceLE, Int.reduceAdd, Int.reduceSub, Int.reduceMul, Int.reduceNeg, Int.reduceEq, Nat.reduceMod, forall_eq_or_imp, forall_eq, forall_const, cond_true, cond_false, decide_true, decide_false, true_imp_iff, implies_true, Int.cast_ofNat_Int, forall_eq']
    exact ⟨by unfold In64; omega, hk2, (), trivial⟩
  · refine ⟨fun _ => trivial, fun h => absurd ?_ hc⟩
    unfold inN
    cases hg : great14 p
    · by_cases e1 : validE p = 0
      · by_cases e2 : (up.length : Int) = p.cs.length
        · by_cases e3 : r < 0
          · rw [hg, decide_eq_true e1, decide_eq_true e2, decide_eq_true e3] at h; simp at h
          · by_cases e4 : (p.ns.length : Int) ≤ r
            · rw [hg, decide_eq_true e1, decide_eq_true e2, decide_eq_false e3, decide_eq_true e4] at h; simp at h
            · exact ⟨⟨rfl, e1⟩, by omega, by omega, by omega⟩
        · rw [hg, decide_eq_true e1, decide_eq_false e2] at h; simp at h
      · rw [hg, decide_eq_false e1] at h; simp at h
    · rw [hg] at h; simp at h
end Go.Proofs.YtchpncmmlhfemaaDoor
namespace Go.Proofs.YtchpncmmlhfemaaDoor
set_option linter.unusedSimpArgs false
set_option linter.unusedVariables false
open Go.ChangeShapes Go.WideShapes Go.ChangeAt Go.RowKit

theorem card_paramsGraphSteps (fn : Func) (h : fn.params.toList.all (fun t => !Tryd.prog.wantsStandIn t) = true) (j : Nat) (t : TypeId) (ht : fn.params[j]? = some t) : Tryd.prog.wantsStandIn t = false := by
  have := List.all_eq_true.1 h t (by rw [← Array.getElem?_toList] at ht; exact List.mem_of_getElem? ht)
  simpa using this
theorem law_graphSteps (lvs : List LV) (h : fitAll Tryd.prog Tryd.f8.params.toList lvs) : Ev Tryd.prog 8 lvs (.sc (.bool true)) := by
  rw [Tryd.params8] at h
  obtain ⟨a0, l0, rfl, g0, h⟩ := all1 h
  obtain ⟨a1, l1, rfl, g1, h⟩ := all1 h
  obtain ⟨a2, l2, rfl, g2, h⟩ := all1 h
  obtain rfl := all0 h
  obtain ⟨p, ip, hp⟩ := arg_plan g0
  obtain ⟨r, rfl, hr⟩ := arg_int g1
  obtain ⟨up, iup, nup⟩ := arg_bools g2
  exact ev_im (bs := [plV p, .sc (.int .i64 r), boolsV up]) ⟨ip, Im.refl _, iup, trivial⟩ (ev_lawSteps p hp r up)
set_option maxRecDepth 100000 in
theorem lifted_graphSteps (os : Os) (started : os.Started) (H : Type) (enc : TypeId × Value → H) :
    ReturnsInHanded {} Tryd.checked os 8 .any (fun w args => (Rows.graphStepsSpec.pre enc Tryd.prog Tryd.f8 [] false w args ∧ laidMetH Tryd.prog Rows.graphStepsRow.laid w) ∧ sizedMet enc Tryd.prog Tryd.f8 (OpenSpec.ofChange Rows.graphStepsSpec) false w args) (Rows.graphStepsSpec.post enc Tryd.prog Tryd.f8 false true false false) := by
  refine law_liftedL (C := Tryd.checked) (tb := 4) Rows.graphStepsRow.laid Tryd.own' started Tryd.laidOut' (by kernel_rfl) Tryd.func8
    (ChangeSpec.witness_shaped (enc := enc) (C := Tryd.checked) (os := os) (X := fun w _ => laidMetH Tryd.prog Rows.graphStepsRow.laid w) false (World.laidAll Tryd.prog os Rows.graphStepsRow.laid) #[.agg #[.slice none 0 0, .slice none 0 0], .int .i64 0, .slice none 0 0] 8 (World.laidAll_os _ _ _)
      (World.shaped_of_ZipB (by kernel_rfl) (by kernel_rfl)) (by kernel_rfl) (by kernel_rfl) (by kernel_rfl)
      (by rw [MakeChecks.laidMetH_plain _ _ _ (by kernel_rfl)]; exact laidMet_laidAll _ (by kernel_rfl) (by kernel_rfl)))
    (by kernel_rfl) Tryd.underlying4 rfl (fun ds hd => ?_) (by kernel_rfl) (fun _ _ hh h => h.of_heap hh) law_graphSteps
  have hd : ds.length = 3 := hd
  match ds, hd with
  | [d1, d2, d3], _ => exact ⟨rfl, rfl, rfl⟩
theorem graphSteps_holds : Rows.GraphStepsSaid :=
  OpenClaim.holds_of_wide 8 Tryd.f8 rfl rfl rfl rfl rfl rfl rfl ⟨rfl, rfl, rfl, rfl, rfl⟩ rfl rfl rfl rfl rfl (by kernel_rfl) Tryd.func8 (by kernel_rfl)
    (of_decide_eq_true (by kernel_rfl)) (by unfold Func.isWrapper; first | (rw [if_pos (by decide +kernel)]; kernel_rfl) | (rw [if_neg (by decide +kernel)]; exact ⟨rfl, rfl⟩))
    (fun os started H enc _ => lifted_graphSteps os started H enc)
theorem graphSteps_card : Rows.GraphStepsCardSaid :=
  Claim7.holds_tied_plain_at .later [] Rows.graphStepsCard.laidKinds true Rows.graphStepsCard.stood.harness false
    graphSteps_holds (fun _ h => by cases h) (by kernel_rfl) (fun _ h => by cases h) graphSteps_row_tie rfl ⟨rfl, rfl⟩ (by kernel_rfl) rfl
    (fun f fn hf hfn => by
      obtain rfl : f = 8 := Option.some.inj ((show Tryd.prog.funcNamed Rows.graphStepsRow.func = some 8 by kernel_rfl).symm.trans hf) |>.symm
      obtain rfl : fn = Tryd.f8 := (Option.some.inj (Tryd.func8.symm.trans hfn)).symm
      exact ⟨by kernel_rfl, fun j t ht => card_paramsGraphSteps Tryd.f8 (by kernel_rfl) j t ht⟩)
    (by kernel_rfl)
end Go.Proofs.YtchpncmmlhfemaaDoor
