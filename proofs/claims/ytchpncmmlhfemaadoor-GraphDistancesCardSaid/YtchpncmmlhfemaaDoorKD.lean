/- Chapter 17's Above and what it needs; equality of lists; The cables at a node; a port of a valid plan is at one cable at most; A port of a valid plan is at one cable at most: what Neighbor returns, and the neighbor's neighbor; For every plan, node and port Neighbor and Cables return what the cables say; Closures whose captures are variables are frozen; slices.IndexFunc, slices.ContainsFunc; Distances by relaxing all cables again and again: the plain law, and the reference's levels; The reference's Distances; The reference's Parts; For every plan, node and state of the cables Distances, Parts and Connected agree with the specification; For every plan, node and state of the cables Distances, Parts and Connected agree with the specification. Conditions: none. -/
import Derived.Test.YtchpncmmlhfemaaDoorMF
import Derived.Test.YtchpncmmlhfemaaDoorTie
import Derived.Test.YtchpncmmlhfemaaDoorCards
import Derived.SevenTiedAt
import Derived.Stop.Joined
namespace Go.Proofs.YtchpncmmlhfemaaDoor
set_option linter.unusedSimpArgs false
set_option linter.unusedVariables false
open Go.RowKit

/-- A cell that holds one list, seen as read-only. -/
theorem roTo2_cell {h : LH} {k ver : Nat} {z n : Nat} {f : Nat → List LV} (hk : k < h.n) (hv : h.f k = (ver, .box [.rsl z n f])) : roTo2 h (.ptr k ver 0 0 0) (.rptr [.rsl z n f]) := by
  refine ⟨hk, by rw [hv], rfl, rfl, rfl, ?_⟩
  rw [hv]
  exact ⟨by rw [roTo1_rsl], trivial⟩
def cmpI (x y : Int) : Int := bif decide (x < y) then -1 else bif decide (y < x) then 1 else 0
def orI : List Int → Int
  | [] => 0
  | x :: r => bif decide (x = 0) then orI r else x
theorem orI_take (l : List Int) (i : Nat) (hi : i < l.length) (h : ∀ j, j < i → l.getD j 0 = 0) : orI l = orI (l.drop i) := by
  induction i generalizing l with
  | zero => rfl
  | succ i ih =>
    cases l with
    | nil => simp at hi
    | cons x r =>
      have h0 := h 0 (by omega)
      simp only [List.getD_cons_zero] at h0
      have := ih r (by simpa using hi) (fun j hj => by have := h (j + 1) (by omega); simpa using this)
      simp only [orI, h0, decide_true, cond_true, List.drop_succ_cons]
      exact this
theorem ev_equal (l m : List Int) : Ev Tryd.prog 21 [intsV l, intsV m] (.sc (.bool (decide (l = m)))) := by
  unfold intsV
  refine ev_fn Tryd.func21 comp21 (show 2 ≤ Tryd.f21.ntmps by decide) ?_; unfold cf21 rf21; simp only [↓EVP0, EVQ0, EVQ1, EVQ2, EVQ3, EVQ4, EVA, EVK, EVF, ↓reduceIte, Nat.reduceEqDiff, Nat.reduceAdd, Nat.reduceSub, Nat.reduceMul, Nat.reduceLT, Nat.reduceLeDiff, reduceCtorEq, Int.reduceToNat, Int.reduceLT, Int.reduceLE, Int.reduceAdd, Int.reduceSub, Int.reduceMul, Int.reduceNeg, Int.reduceEq, Nat.reduceMod, forall_eq_or_imp, forall_eq, forall_const, cond_true, cond_false, decide_true, decide_false, true_imp_iff, implies_true, Int.cast_ofNat_Int, forall_eq']
  intro hl hm
  refine ⟨fun hg => ?_, fun hg _ => ?_⟩
  · have : l ≠ m := fun e => by subst e; simp at hg
    simp [this]
  have hlm : l.length = m.length := by simp at hg; omega
  refine lwp_for (α := Unit) l.length (fun i _ => ∀ j, j < i → l.getD j 0 = m.getD j 0) (fun i _ => [(0, .rsl 1 l.length (intsF l)), (1, .rsl 1 m.length (intsF m)), (12, .sc (.int .i64 l.length)), (13, .sc (.int .i64 i))]) (fun _ _ => []) () (fun j hj => absurd hj (Nat.not_lt_zero _)) ?_ (fun _ _ => Nat.zero_le _) ?_
  · simp only [↓EVP0, EVQ0, EVQ1, EVQ2, EVQ3, EVQ4, EVA, EVK, EVF, ↓reduceIte, Nat.reduceEqDiff, Nat.reduceAdd, Nat.reduceSub, Nat.reduceMul, Nat.reduceLT, Nat.reduceLeDiff, reduceCtorEq, Int.reduceToNat, Int.reduceLT, Int.reduceLE, Int.reduceAdd, Int.reduceSub, Int.reduceMul, Int.reduceNeg, Int.reduceEq, Nat.reduceMod, forall_eq_or_imp, forall_eq, forall_const, cond_true, cond_false, decide_true, decide_false, true_imp_iff, implies_true, Int.cast_ofNat_Int, forall_eq']
  intro i _ hi hx
  unfold lb21_0
  simp only [↓EVP0, EVQ0, EVQ1, EVQ2, EVQ3, EVQ4, EVA, EVK, EVF, ↓reduceIte, Nat.reduceEqDiff, Nat.reduceAdd, Nat.reduceSub, Nat.reduceMul, Nat.reduceLT, Nat.reduceLeDiff, reduceCtorEq, Int.reduceToNat, Int.reduceLT, Int.reduceLE, Int.reduceAdd, Int.reduceSub, Int.reduceMul, Int.reduceNeg, Int.reduceEq, Nat.reduceMod, forall_eq_or_imp, forall_eq, forall_const, cond_true, cond_false, decide_true, decide_false, true_imp_iff, implies_true, Int.cast_ofNat_Int, forall_eq']
  refine ⟨fun hg => ?_, fun hg => ?_⟩
  · have hi2 : i < l.length := by simpa using hg
    refine ⟨⟨by omega, by omega⟩, ⟨by omega, by omega⟩, fun h => ?_, fun h => ⟨by unfold In64; omega, hi2, (), fun j hj => ?_⟩⟩
    · have : l ≠ m := fun e => by subst e; simp at h
      simp [this]
    · by_cases e : j = i
      · subst e; simpa using h
      · exact hx j (by omega)
  · have hii : i = l.length := by simp at hg; omega
    have : l = m := getD_len hlm (by subst hii; exact hx)
    simp [this]

def hasB (l : List Int) (x : Int) : Bool := decide (0 ≤ x) && (decide (x < l.length) && decide (0 ≤ l.getD x.toNat 0))
def aboveB (l : List Int) (a b : Int) : Bool := hasB l a && (hasB l b && (decide (l.getD a.toNat 0 < l.getD b.toNat 0) || (decide (l.getD a.toNat 0 = l.getD b.toNat 0) && decide (a < b))))
end Go.Proofs.YtchpncmmlhfemaaDoor
namespace Go.Proofs.YtchpncmmlhfemaaDoor
set_option linter.unusedSimpArgs false
set_option linter.unusedVariables false
open Go.RowKit
set_option maxRecDepth 20000

theorem cb_all (n : Nat) (c : Cb) : allC n (cbL c) := ⟨trivial, trivial, trivial, trivial, trivial, trivial, trivial⟩
def touB (c : Cb) (x : Int) : Bool := decide (c.a = x) || decide (c.b = x)
/-- Those of the first k indices that a test picks. -/
def pickT (q : Nat → Bool) (k : Nat) : List Int := ((List.range k).filter q).map fun (v : Nat) => (v : Int)
theorem pickT_succ (q : Nat → Bool) (k : Nat) : pickT q (k + 1) = pickT q k ++ if q k = true then [(k : Int)] else [] := by
  unfold pickT
  rw [List.range_succ, List.filter_append, List.map_append]
  by_cases h : q k = true <;> simp [h]
theorem pickT_len (q : Nat → Bool) (k : Nat) : (pickT q k).length ≤ k := by
  unfold pickT
  rw [List.length_map]
  have := List.length_filter_le q (List.range k)
  simpa using this
def cabT (p : Pl) (x : Int) (k : Nat) : List Int := pickT (fun v => touB (p.cs.getD v default) x) k
def cablesE (p : Pl) (x : Int) : List Int := if validE p = 0 then cabT p x p.cs.length else []
theorem ev_cables (p : Pl) (hp : PlOk p) (x : Int) : Ev Tryd.prog 19 [plV p, .sc (.int .i64 x)] (intsV (cablesE p x)) := by
  have h1 := ev_valid p hp
  unfold plV intsV at *
  refine ev_fn Tryd.func19 comp19 (show 2 ≤ Tryd.f19.ntmps by decide) ?_; unfold cf19 rf19; simp only [↓EVP0, EVQ0, EVQ1, EVQ2, EVQ3, EVQ4, EVA, EVK, EVF, ↓reduceIte, Nat.reduceEqDiff, Nat.reduceAdd, Nat.reduceSub, Nat.reduceMul, Nat.reduceLT, Nat.reduceLeDiff, reduceCtorEq, Int.reduceToNat, Int.reduceLT, Int.reduceLE, Int.reduceAdd, Int.reduceSub, Int.reduceMul, Int.reduceNeg, Int.reduceEq, Nat.reduceMod, forall_eq_or_imp, forall_eq, forall_const, cond_true, cond_false, decide_true, decide_false, true_imp_iff, implies_true, Int.cast_ofNat_Int, forall_eq']
  refine callK_ro (h1) ?_ ?_
  · simp only [↓EVP0, EVQ0, EVQ1, EVQ2, EVQ3, EVQ4, EVA, EVK, EVF, ↓reduceIte, Nat.reduceEqDiff, Nat.reduceAdd, Nat.reduceSub, Nat.reduceMul, Nat.reduceLT, Nat.reduceLeDiff, reduceCtorEq, Int.reduceToNat, Int.reduceLT, Int.reduceLE, Int.reduceAdd, Int.reduceSub, Int.reduceMul, Int.reduceNeg, Int.reduceEq, Nat.reduceMod, forall_eq_or_imp, forall_eq, forall_const, cond_true, cond_false, decide_true, decide_false, true_imp_iff, implies_true, Int.cast_ofNat_Int, forall_eq']
  simp only [↓EVP0, EVQ0, EVQ1, EVQ2, EVQ3, EVQ4, EVA, EVK, EVF, ↓reduceIte, Nat.reduceEqDiff, Nat.reduceAdd, Nat.reduceSub, Nat.reduceMul, Nat.reduceLT, Nat.reduceLeDiff, reduceCtorEq, Int.reduceToNat, Int.reduceLT, Int.reduceLE, Int.reduceAdd, Int.reduceSub, Int.reduceMul, Int.reduceNeg, Int.reduceEq, Nat.reduceMod, forall_eq_or_imp, forall_eq, forall_const, cond_true, cond_false, decide_true, decide_false, true_imp_iff, implies_true, Int.cast_ofNat_Int, forall_eq']
  refine ⟨fun hg => ?_, fun hg => ?_⟩
  · have e : cablesE p x = [] := by unfold cablesE; rw [if_neg (by simpa using hg)]
    rw [e]; exact rfl
  have hv : validE p = 0 := by simpa using hg
  have e : cablesE p x = cabT p x p.cs.length := by unfold cablesE; rw [if_pos hv]
  rw [e]
  have h32 := (valid_of hv).c32
  intro _
  refine lwp_for (α := Unit) p.cs.length (fun _ _ => True) (fun k _ => [(1, .sc (.int .i64 x)), (5, if cabT p x k = [] then .nsl else .sl 2 ((cabT p x k).length - 1) 1 0 (cabT p x k).length), (12, .rsl 6 p.cs.length (cbsF p.cs)), (13, .sc (.int .i64 p.cs.length)), (14, .sc (.int .i64 k))])
    (fun k _ => if cabT p x k = [] then [] else [(0, .box (cbL (p.cs.getD ((cabT p x k).getD 0 0).toNat default))), (0, .ints [(cabT p x k).getD 0 0]), ((cabT p x k).length - 1, .ints (cabT p x k))]) () trivial ?_ (fun _ _ => Nat.zero_le _) ?_
  · rw [show cabT p x 0 = [] from rfl]
    simp only [if_true]
    simp only [↓EVP0, EVQ0, EVQ1, EVQ2, EVQ3, EVQ4, EVA, EVK, EVF, ↓reduceIte, Nat.reduceEqDiff, Nat.reduceAdd, Nat.reduceSub, Nat.reduceMul, Nat.reduceLT, Nat.reduceLeDiff, reduceCtorEq, Int.reduceToNat, Int.reduceLT, Int.reduceLE, Int.reduceAdd, Int.reduceSub, Int.reduceMul, Int.reduceNeg, Int.reduceEq, Nat.reduceMod, forall_eq_or_imp, forall_eq, forall_const, cond_true, cond_false, decide_true, decide_false, true_imp_iff, implies_true, Int.cast_ofNat_Int, forall_eq']
  intro k _ hk _
  have hps : cabT p x (k + 1) = cabT p x k ++ if touB (p.cs.getD k default) x = true then [(k : Int)] else [] := pickT_succ _ k
  have hple : (cabT p x k).length ≤ k := pickT_len _ _
  by_cases hq : cabT p x k = []
  · by_cases hdk : touB (p.cs.getD k default) x = true
    · have hp1 : cabT p x (k + 1) = [(k : Int)] := by rw [hps, if_pos hdk, hq]; rfl
      simp only [hp1, hq, List.cons_ne_nil, if_true, if_false]
      unfold lb19_0
      simp only [↓EVP0, EVQ0, EVQ1, EVQ2, EVQ3, EVQ4, EVA, EVK, EVF, ↓reduceIte, Nat.reduceEqDiff, Nat.reduceAdd, Nat.reduceSub, Nat.reduceMul, Nat.reduceLT, Nat.reduceLeDiff, reduceCtorEq, Int.reduceToNat, Int.reduceLT, Int.reduceLE, Int.reduceAdd, Int.reduceSub, Int.reduceMul, Int.reduceNeg, Int.reduceEq, Nat.reduceMod, forall_eq_or_imp, forall_eq, forall_const, cond_true, cond_false, decide_true, decide_false, true_imp_iff, implies_true, Int.cast_ofNat_Int, forall_eq']
      refine ⟨fun hg => ?_, fun hg => ?_⟩
      · have hk2 : k < p.cs.length := by have := of_decide_eq_true hg; omega
        rw [condT]
        refine ⟨⟨by omega, by omega⟩, fun h => ?_, fun h => ?_⟩
        · exact ⟨by unfold appRoom; omega, by unfold In64; omega, hk2, (), rfl, cb_all _ _⟩
        · exact absurd hdk (by unfold touB; rw [h]; simp)
      · have hkk : k = p.cs.length := by have := of_decide_eq_false hg; omega
        subst hkk
        rw [hq]; rfl
    · have hp1 : cabT p x (k + 1) = [] := by rw [hps, if_neg hdk, hq]; rfl
      simp only [hp1, hq, if_true]
      unfold lb19_0
      simp only [↓EVP0, EVQ0, EVQ1, EVQ2, EVQ3, EVQ4, EVA, EVK, EVF, ↓reduceIte, Nat.reduceEqDiff, Nat.reduceAdd, Nat.reduceSub, Nat.reduceMul, Nat.reduceLT, Nat.reduceLeDiff, reduceCtorEq, Int.reduceToNat, Int.reduceLT, Int.reduceLE, Int.reduceAdd, Int.reduceSub, Int.reduceMul, Int.reduceNeg, Int.reduceEq, Nat.reduceMod, forall_eq_or_imp, forall_eq, forall_const, cond_true, cond_false, decide_true, decide_false, true_imp_iff, implies_true, Int.cast_ofNat_Int, forall_eq']
      refine ⟨fun hg => ?_, fun hg => ?_⟩
      · have hk2 : k < p.cs.length := by have := of_decide_eq_true hg; omega
        rw [condT]
        refine ⟨⟨by omega, by omega⟩, fun h => ?_, fun h => ?_⟩
        · exact absurd (show touB (p.cs.getD k default) x = true from h) hdk
        · exact ⟨by unfold In64; omega, hk2, (), trivial⟩
      · have hkk : k = p.cs.length := by have := of_decide_eq_false hg; omega
        subst hkk
        rw [hq]; rfl
  · by_cases hdk : touB (p.cs.getD k default) x = true
    · have hp1 : cabT p x (k + 1) = cabT p x k ++ [(k : Int)] := by rw [hps, if_pos hdk]
      simp only [hp1, hq, List.append_eq_nil_iff, List.cons_ne_nil, and_false, if_false]
      unfold lb19_0
      simp only [↓EVP0, EVQ0, EVQ1, EVQ2, EVQ3, EVQ4, EVA, EVK, EVF, ↓reduceIte, Nat.reduceEqDiff, Nat.reduceAdd, Nat.reduceSub, Nat.reduceMul, Nat.reduceLT, Nat.reduceLeDiff, reduceCtorEq, Int.reduceToNat, Int.reduceLT, Int.reduceLE, Int.reduceAdd, Int.reduceSub, Int.reduceMul, Int.reduceNeg, Int.reduceEq, Nat.reduceMod, forall_eq_or_imp, forall_eq, forall_const, cond_true, cond_false, decide_true, decide_false, true_imp_iff, implies_true, Int.cast_ofNat_Int, forall_eq']
      refine ⟨fun hg => ?_, fun hg => ?_⟩
      · have hk2 : k < p.cs.length := by have := of_decide_eq_true hg; omega
        rw [condT]
        refine ⟨⟨by omega, by omega⟩, fun h => ?_, fun h => ?_⟩
        · have hpl : 0 < (cabT p x k).length := List.length_pos_iff.2 hq
          have hl1 : (cabT p x k ++ [(k : Int)]).length = (cabT p x k).length + 1 := by simp
          rw [show (cabT p x k).length - 1 + 1 = (cabT p x k).length + 1 - 1 by omega, List.take_of_length_le (Nat.le_refl _), hl1, getD_app0 hpl]
          exact ⟨Nat.le_refl _, by unfold appRoom; omega, by unfold In64; omega, hk2, (), rfl, rfl, cb_all _ _, rfl, rfl, rfl⟩
        · exact absurd hdk (by unfold touB; rw [h]; simp)
      · have hkk : k = p.cs.length := by have := of_decide_eq_false hg; omega
        subst hkk
        exact ⟨rfl, Nat.le_refl _, fun _ _ => rfl⟩
    · have hp1 : cabT p x (k + 1) = cabT p x k := by rw [hps, if_neg hdk]; simp
      simp only [hp1, hq, if_false]
      unfold lb19_0
      simp only [↓EVP0, EVQ0, EVQ1, EVQ2, EVQ3, EVQ4, EVA, EVK, EVF, ↓reduceIte, Nat.reduceEqDiff, Nat.reduceAdd, Nat.reduceSub, Nat.reduceMul, Nat.reduceLT, Nat.reduceLeDiff, reduceCtorEq, Int.reduceToNat, Int.reduceLT, Int.reduceLE, Int.reduceAdd, Int.reduceSub, Int.reduceMul, Int.reduceNeg, Int.reduceEq, Nat.reduceMod, forall_eq_or_imp, forall_eq, forall_const, cond_true, cond_false, decide_true, decide_false, true_imp_iff, implies_true, Int.cast_ofNat_Int, forall_eq']
      refine ⟨fun hg => ?_, fun hg => ?_⟩
      · have hk2 : k < p.cs.length := by have := of_decide_eq_true hg; omega
        rw [condT]
        refine ⟨⟨by omega, by omega⟩, fun h => ?_, fun h => ?_⟩
        · exact absurd (show touB (p.cs.getD k default) x = true from h) hdk
        · exact ⟨by unfold In64; omega, hk2, (), cb_all _ _⟩
      · have hkk : k = p.cs.length := by have := of_decide_eq_false hg; omega
        subst hkk
        exact ⟨rfl, Nat.le_refl _, fun _ _ => rfl⟩
end Go.Proofs.YtchpncmmlhfemaaDoor
namespace Go.Proofs.YtchpncmmlhfemaaDoor
set_option linter.unusedSimpArgs false
set_option linter.unusedVariables false
open Go.RowKit
set_option maxRecDepth 20000

theorem valid_nodup {p : Pl} (h : validE p = 0) : (endsOf p.cs).Nodup := by
  unfold validE at h
  cases h1 : decide (16 < p.ns.length) || decide (32 < p.cs.length)
  · rw [h1, cond_false] at h
    cases h2 : p.ns.all nodeOk
    · rw [h2] at h; simp at h
    · rw [h2] at h
      cases h3 : p.cs.all (portsOk p)
      · rw [h3] at h; simp at h
      · rw [h3] at h
        cases h4 : repOk p
        · unfold repOk at h4
          simp at h4
          exact h4.2
        · rw [h4] at h; simp at h
  · rw [h1] at h; simp at h
def matB (c : Cb) (x y : Int) : Bool := (decide (c.a = x) && decide (c.ap = y)) || (decide (c.b = x) && decide (c.bp = y))
theorem matB_iff {c : Cb} {x y : Int} : matB c x y = true ↔ (x, y) ∈ endsC c := by
  unfold matB endsC
  simp only [Bool.or_eq_true, Bool.and_eq_true, decide_eq_true_eq, List.mem_cons, List.not_mem_nil, or_false, Prod.mk.injEq]
  constructor
  · rintro (⟨h1, h2⟩ | ⟨h1, h2⟩)
    · exact .inl ⟨h1.symm, h2.symm⟩
    · exact .inr ⟨h1.symm, h2.symm⟩
  · rintro (⟨h1, h2⟩ | ⟨h1, h2⟩)
    · exact .inl ⟨h1.symm, h2.symm⟩
    · exact .inr ⟨h1.symm, h2.symm⟩
theorem mat_uniq {l : List Cb} (h : (endsOf l).Nodup) {x y : Int} : ∀ {i j : Nat}, i < l.length → j < l.length → matB (l.getD i default) x y = true → matB (l.getD j default) x y = true → i = j := by
  have hp := (List.pairwise_flatMap.1 (show List.Pairwise (· ≠ ·) (l.flatMap endsC) from h)).2
  rw [List.pairwise_iff_getElem] at hp
  have key : ∀ i j : Nat, i < l.length → j < l.length → i < j → matB (l.getD i default) x y = true → matB (l.getD j default) x y = true → False := by
    intro i j hi hj hij h1 h2
    rw [matB_iff] at h1 h2
    rw [List.getD_eq_getElem?_getD, List.getElem?_eq_getElem hi] at h1
    rw [List.getD_eq_getElem?_getD, List.getElem?_eq_getElem hj] at h2
    exact hp i j hi hj hij _ h1 _ h2 rfl
  intro i j hi hj h1 h2
  rcases Nat.lt_trichotomy i j with h | h | h
  · exact (key i j hi hj h h1 h2).elim
  · exact h
  · exact (key j i hj hi h h2 h1).elim
/-- What Neighbor tells of a cable that has the port. -/
def farC (c : Cb) (x y : Int) (i : Int) : Int × Int × Int × Bool := bif decide (c.a = x) && decide (c.ap = y) then (c.b, c.bp, i, true) else (c.a, c.ap, i, true)
theorem nbrGo_step (x y : Int) (c : Cb) (r : List Cb) (i : Int) : nbrGo x y (c :: r) i = if matB c x y = true then farC c x y i else nbrGo x y r (i + 1) := by
  rw [nbrGo_cons]
  unfold matB farC
  cases decide (c.a = x) && decide (c.ap = y) <;> cases decide (c.b = x) && decide (c.bp = y) <;> simp
theorem nbrGo_none {x y : Int} : ∀ {l : List Cb} {i : Int}, (∀ c, c ∈ l → matB c x y = false) → nbrGo x y l i = (-1, -1, -1, false)
  | [], _, _ => rfl
  | c :: r, i, h => by
    rw [nbrGo_step, if_neg (by rw [h c (by simp)]; simp)]
    exact nbrGo_none fun c' h' => h c' (by simp [h'])
theorem nbrGo_some {x y : Int} : ∀ {l : List Cb} {i : Int} {k : Nat}, k < l.length → matB (l.getD k default) x y = true → (∀ j, j < k → matB (l.getD j default) x y = false) → nbrGo x y l i = farC (l.getD k default) x y (i + k)
  | [], _, _, h, _, _ => by simp at h
  | c :: r, i, 0, _, h, _ => by
    rw [nbrGo_step, if_pos (by simpa using h)]; simp
  | c :: r, i, k + 1, h, h1, h2 => by
    have h0 := h2 0 (by omega)
    rw [nbrGo_step, if_neg (by simp at h0; simp [h0])]
    rw [nbrGo_some (k := k) (by simpa using h) (by simpa using h1) (fun j hj => by have := h2 (j + 1) (by omega); simpa using this)]
    rw [List.getD_cons_succ, show i + 1 + (k : Int) = i + ((k + 1 : Nat) : Int) by omega]
theorem nbr_of {p : Pl} (hv : validE p = 0) {x y : Int} {k : Nat} (hk : k < p.cs.length) (h : matB (p.cs.getD k default) x y = true) : nbrE p x y = farC (p.cs.getD k default) x y k := by
  unfold nbrE
  rw [if_pos hv, nbrGo_some hk h (fun j hj => by
    cases hm : matB (p.cs.getD j default) x y
    · rfl
    · have := mat_uniq (valid_nodup hv) (by omega) hk hm h; omega)]
  rw [Int.zero_add]
/-- The index that the statement's own loop finds. -/
def atT (p : Pl) (x y : Int) : Nat → Int
  | 0 => -1
  | k + 1 => if matB (p.cs.getD k default) x y = true then (k : Int) else atT p x y k
theorem atT_none {p : Pl} {x y : Int} : ∀ {k : Nat}, (∀ j, j < k → matB (p.cs.getD j default) x y = false) → atT p x y k = -1
  | 0, _ => rfl
  | k + 1, h => by
    unfold atT
    rw [if_neg (by rw [h k (by omega)]; simp)]
    exact atT_none fun j hj => h j (by omega)
theorem atT_of {p : Pl} {x y : Int} : ∀ {k : Nat}, 0 ≤ atT p x y k → ∃ j : Nat, j < k ∧ atT p x y k = j ∧ matB (p.cs.getD j default) x y = true
  | 0, h => by simp [atT] at h
  | k + 1, h => by
    unfold atT at h ⊢
    split
    · rename_i hm; exact ⟨k, by omega, rfl, hm⟩
    · rename_i hm
      rw [if_neg hm] at h
      obtain ⟨j, h1, h2, h3⟩ := atT_of h
      exact ⟨j, by omega, h2, h3⟩
theorem atT_neg {p : Pl} {x y : Int} : ∀ {k : Nat}, ¬ 0 ≤ atT p x y k → atT p x y k = -1 ∧ ∀ j, j < k → matB (p.cs.getD j default) x y = false
  | 0, _ => ⟨rfl, fun j hj => by omega⟩
  | k + 1, h => by
    unfold atT at h ⊢
    by_cases hm : matB (p.cs.getD k default) x y = true
    · rw [if_pos hm] at h; omega
    · rw [if_neg hm] at h ⊢
      obtain ⟨h1, h2⟩ := atT_neg h
      refine ⟨h1, fun j hj => ?_⟩
      by_cases e : j = k
      · subst e; simpa using hm
      · exact h2 j (by omega)
def othE (c : Cb) (x : Int) : Int := bif decide (c.a = x) then c.b else bif decide (c.b = x) then c.a else -1
theorem oth_ge {p : Pl} (hv : validE p = 0) {c : Cb} (hc : c ∈ p.cs) (x : Int) : decide (0 ≤ othE c x) = touB c x := by
  obtain ⟨h1, h2⟩ := (valid_of hv).cab c hc
  unfold inN at h1 h2
  unfold othE touB
  by_cases e1 : c.a = x
  · rw [decide_eq_true e1]; simp; omega
  · rw [decide_eq_false e1]
    by_cases e2 : c.b = x
    · rw [decide_eq_true e2]; simp; omega
    · rw [decide_eq_false e2]; simp
/-- The neighbor's neighbor is the node itself. -/
theorem nbr_back {p : Pl} (hv : validE p = 0) {x y : Int} {k : Nat} (hk : k < p.cs.length) (h : matB (p.cs.getD k default) x y = true) :
    nbrE p (nbrE p x y).1 (nbrE p x y).2.1 = (x, y, (k : Int), true) ∧ (nbrE p x y).2.2 = ((k : Int), true) ∧ (nbrE p x y).1 = othE (p.cs.getD k default) x := by
  have hc : p.cs.getD k default ∈ p.cs := by
    rw [List.getD_eq_getElem?_getD, List.getElem?_eq_getElem hk]; exact List.getElem_mem hk
  have hs := (valid_of hv).self _ hc
  rw [nbr_of hv hk h]
  have hb : matB (p.cs.getD k default) (farC (p.cs.getD k default) x y k).1 (farC (p.cs.getD k default) x y k).2.1 = true := by
    unfold farC matB
    cases decide ((p.cs.getD k default).a = x) && decide ((p.cs.getD k default).ap = y) <;> simp
  rw [nbr_of hv hk hb]
  generalize p.cs.getD k default = c at *
  unfold farC othE
  unfold matB at h
  simp only [Bool.or_eq_true, Bool.and_eq_true, decide_eq_true_eq] at h
  by_cases e : c.a = x ∧ c.ap = y
  · obtain ⟨rfl, rfl⟩ := e
    simp [hs]
  · have e2 : c.b = x ∧ c.bp = y := h.resolve_left e
    have e3 : ¬ c.a = x := fun e4 => hs (by rw [e4, e2.1])
    obtain ⟨rfl, rfl⟩ := e2
    simp [e3]
end Go.Proofs.YtchpncmmlhfemaaDoor
namespace Go.Proofs.YtchpncmmlhfemaaDoor
set_option linter.unusedSimpArgs false
set_option linter.unusedVariables false
open Go.RowKit
set_option maxRecDepth 20000

theorem ev_oth (c : Cb) (x : Int) : Ev Tryd.prog 20 [.agg (cbL c), .sc (.int .i64 x)] (.sc (.int .i64 (othE c x))) := by
  unfold cbL
  refine ev_fn Tryd.func20 comp20 (show 2 ≤ Tryd.f20.ntmps by decide) ?_; unfold cf20 rf20; simp only [↓EVP0, EVQ0, EVQ1, EVQ2, EVQ3, EVQ4, EVA, EVK, EVF, ↓reduceIte, Nat.reduceEqDiff, Nat.reduceAdd, Nat.reduceSub, Nat.reduceMul, Nat.reduceLT, Nat.reduceLeDiff, reduceCtorEq, Int.reduceToNat, Int.reduceLT, Int.reduceLE, Int.reduceAdd, Int.reduceSub, Int.reduceMul, Int.reduceNeg, Int.reduceEq, Nat.reduceMod, forall_eq_or_imp, forall_eq, forall_const, cond_true, cond_false, decide_true, decide_false, true_imp_iff, implies_true, Int.cast_ofNat_Int, forall_eq']
  unfold othE
  refine ⟨fun h => by rw [h]; rfl, fun h => ⟨fun h2 => by rw [h, h2]; rfl, fun h2 => by rw [h, h2]; rfl⟩⟩
theorem ev_lawNbrs (p : Pl) (hp : PlOk p) (x y : Int) : Ev Tryd.prog 6 [plV p, .sc (.int .i64 x), .sc (.int .i64 y)] (.sc (.bool true)) := by
  have h1 := ev_awake14
  have h2 := ev_great14 p
  have h3 := fun x y => ev_neighbor p hp x y
  have h4 := ev_cables p hp x
  have h5 := ev_ref14 p
  have h6 := ev_oth
  have h7 := ev_equal
  unfold plV intsV at *
  unfold cbL at h6
  refine ev_fn Tryd.func6 comp6 (show 3 ≤ Tryd.f6.ntmps by decide) ?_; unfold cf6 rf6; simp only [↓EVP0, EVQ0, EVQ1, EVQ2, EVQ3, EVQ4, EVA, EVK, EVF, ↓reduceIte, Nat.reduceEqDiff, Nat.reduceAdd, Nat.reduceSub, Nat.reduceMul, Nat.reduceLT, Nat.reduceLeDiff, reduceCtorEq, Int.reduceToNat, Int.reduceLT, Int.reduceLE, Int.reduceAdd, Int.reduceSub, Int.reduceMul, Int.reduceNeg, Int.reduceEq, Nat.reduceMod, forall_eq_or_imp, forall_eq, forall_const, cond_true, cond_false, decide_true, decide_false, true_imp_iff, implies_true, Int.cast_ofNat_Int, forall_eq']
  refine callK_ro (h1) ?_ ?_
  · simp only [↓EVP0, EVQ0, EVQ1, EVQ2, EVQ3, EVQ4, EVA, EVK, EVF, ↓reduceIte, Nat.reduceEqDiff, Nat.reduceAdd, Nat.reduceSub, Nat.reduceMul, Nat.reduceLT, Nat.reduceLeDiff, reduceCtorEq, Int.reduceToNat, Int.reduceLT, Int.reduceLE, Int.reduceAdd, Int.reduceSub, Int.reduceMul, Int.reduceNeg, Int.reduceEq, Nat.reduceMod, forall_eq_or_imp, forall_eq, forall_const, cond_true, cond_false, decide_true, decide_false, true_imp_iff, implies_true, Int.cast_ofNat_Int, forall_eq']
  simp only [↓EVP0, EVQ0, EVQ1, EVQ2, EVQ3, EVQ4, EVA, EVK, EVF, ↓reduceIte, Nat.reduceEqDiff, Nat.reduceAdd, Nat.reduceSub, Nat.reduceMul, Nat.reduceLT, Nat.reduceLeDiff, reduceCtorEq, Int.reduceToNat, Int.reduceLT, Int.reduceLE, Int.reduceAdd, Int.reduceSub, Int.reduceMul, Int.reduceNeg, Int.reduceEq, Nat.reduceMod, forall_eq_or_imp, forall_eq, forall_const, cond_true, cond_false, decide_true, decide_false, true_imp_iff, implies_true, Int.cast_ofNat_Int, forall_eq']
  refine callK_ro (h2) ?_ ?_
  · simp only [↓EVP0, EVQ0, EVQ1, EVQ2, EVQ3, EVQ4, EVA, EVK, EVF, ↓reduceIte, Nat.reduceEqDiff, Nat.reduceAdd, Nat.reduceSub, Nat.reduceMul, Nat.reduceLT, Nat.reduceLeDiff, reduceCtorEq, Int.reduceToNat, Int.reduceLT, Int.reduceLE, Int.reduceAdd, Int.reduceSub, Int.reduceMul, Int.reduceNeg, Int.reduceEq, Nat.reduceMod, forall_eq_or_imp, forall_eq, forall_const, cond_true, cond_false, decide_true, decide_false, true_imp_iff, implies_true, Int.cast_ofNat_Int, forall_eq']
  simp only [↓EVP0, EVQ0, EVQ1, EVQ2, EVQ3, EVQ4, EVA, EVK, EVF, ↓reduceIte, Nat.reduceEqDiff, Nat.reduceAdd, Nat.reduceSub, Nat.reduceMul, Nat.reduceLT, Nat.reduceLeDiff, reduceCtorEq, Int.reduceToNat, Int.reduceLT, Int.reduceLE, Int.reduceAdd, Int.reduceSub, Int.reduceMul, Int.reduceNeg, Int.reduceEq, Nat.reduceMod, forall_eq_or_imp, forall_eq, forall_const, cond_true, cond_false, decide_true, decide_false, true_imp_iff, implies_true, Int.cast_ofNat_Int, forall_eq']
  refine ⟨fun _ => trivial, fun g => ?_⟩
  refine callK_ro (h3 x y) ?_ ?_
  · simp only [↓EVP0, EVQ0, EVQ1, EVQ2, EVQ3, EVQ4, EVA, EVK, EVF, ↓reduceIte, Nat.reduceEqDiff, Nat.reduceAdd, Nat.reduceSub, Nat.reduceMul, Nat.reduceLT, Nat.reduceLeDiff, reduceCtorEq, Int.reduceToNat, Int.reduceLT, Int.reduceLE, Int.reduceAdd, Int.reduceSub, Int.reduceMul, Int.reduceNeg, Int.reduceEq, Nat.reduceMod, forall_eq_or_imp, forall_eq, forall_const, cond_true, cond_false, decide_true, decide_false, true_imp_iff, implies_true, Int.cast_ofNat_Int, forall_eq']
  simp only [↓EVP0, EVQ0, EVQ1, EVQ2, EVQ3, EVQ4, EVA, EVK, EVF, ↓reduceIte, Nat.reduceEqDiff, Nat.reduceAdd, Nat.reduceSub, Nat.reduceMul, Nat.reduceLT, Nat.reduceLeDiff, reduceCtorEq, Int.reduceToNat, Int.reduceLT, Int.reduceLE, Int.reduceAdd, Int.reduceSub, Int.reduceMul, Int.reduceNeg, Int.reduceEq, Nat.reduceMod, forall_eq_or_imp, forall_eq, forall_const, cond_true, cond_false, decide_true, decide_false, true_imp_iff, implies_true, Int.cast_ofNat_Int, forall_eq']
  refine callK_ro (h4) ?_ ?_
  · simp only [↓EVP0, EVQ0, EVQ1, EVQ2, EVQ3, EVQ4, EVA, EVK, EVF, ↓reduceIte, Nat.reduceEqDiff, Nat.reduceAdd, Nat.reduceSub, Nat.reduceMul, Nat.reduceLT, Nat.reduceLeDiff, reduceCtorEq, Int.reduceToNat, Int.reduceLT, Int.reduceLE, Int.reduceAdd, Int.reduceSub, Int.reduceMul, Int.reduceNeg, Int.reduceEq, Nat.reduceMod, forall_eq_or_imp, forall_eq, forall_const, cond_true, cond_false, decide_true, decide_false, true_imp_iff, implies_true, Int.cast_ofNat_Int, forall_eq']
  simp only [↓EVP0, EVQ0, EVQ1, EVQ2, EVQ3, EVQ4, EVA, EVK, EVF, ↓reduceIte, Nat.reduceEqDiff, Nat.reduceAdd, Nat.reduceSub, Nat.reduceMul, Nat.reduceLT, Nat.reduceLeDiff, reduceCtorEq, Int.reduceToNat, Int.reduceLT, Int.reduceLE, Int.reduceAdd, Int.reduceSub, Int.reduceMul, Int.reduceNeg, Int.reduceEq, Nat.reduceMod, forall_eq_or_imp, forall_eq, forall_const, cond_true, cond_false, decide_true, decide_false, true_imp_iff, implies_true, Int.cast_ofNat_Int, forall_eq']
  refine callK_ro (h5) ?_ ?_
  · simp only [↓EVP0, EVQ0, EVQ1, EVQ2, EVQ3, EVQ4, EVA, EVK, EVF, ↓reduceIte, Nat.reduceEqDiff, Nat.reduceAdd, Nat.reduceSub, Nat.reduceMul, Nat.reduceLT, Nat.reduceLeDiff, reduceCtorEq, Int.reduceToNat, Int.reduceLT, Int.reduceLE, Int.reduceAdd, Int.reduceSub, Int.reduceMul, Int.reduceNeg, Int.reduceEq, Nat.reduceMod, forall_eq_or_imp, forall_eq, forall_const, cond_true, cond_false, decide_true, decide_false, true_imp_iff, implies_true, Int.cast_ofNat_Int, forall_eq']
  simp only [↓EVP0, EVQ0, EVQ1, EVQ2, EVQ3, EVQ4, EVA, EVK, EVF, ↓reduceIte, Nat.reduceEqDiff, Nat.reduceAdd, Nat.reduceSub, Nat.reduceMul, Nat.reduceLT, Nat.reduceLeDiff, reduceCtorEq, Int.reduceToNat, Int.reduceLT, Int.reduceLE, Int.reduceAdd, Int.reduceSub, Int.reduceMul, Int.reduceNeg, Int.reduceEq, Nat.reduceMod, forall_eq_or_imp, forall_eq, forall_const, cond_true, cond_false, decide_true, decide_false, true_imp_iff, implies_true, Int.cast_ofNat_Int, forall_eq']
  refine ⟨fun hv => ?_, fun hv => ?_⟩
  · have hv' : validE p = 0 := of_decide_eq_true hv
    have hV := valid_of hv'
    have h32 := hV.c32
    have e : cablesE p x = cabT p x p.cs.length := by unfold cablesE; rw [if_pos hv']
    rw [e]
    intro _
    refine lwp_for (α := Unit) p.cs.length (fun _ _ => True) (fun k _ => [(1, .sc (.int .i64 x)), (2, .sc (.int .i64 y)), (3, .ptr 0 0 0 0 0), (7, .sc (.int .i64 (nbrE p x y).1)), (8, .sc (.int .i64 (nbrE p x y).2.1)), (9, .sc (.int .i64 (nbrE p x y).2.2.1)), (10, .sc (.bool (nbrE p x y).2.2.2)), (11, .rsl 1 (cabT p x p.cs.length).length (intsF (cabT p x p.cs.length))), (12, if cabT p x k = [] then .nsl else .sl 3 ((cabT p x k).length - 1) 1 0 (cabT p x k).length), (13, .sc (.int .i64 (atT p x y k))), (40, .rsl 6 p.cs.length (cbsF p.cs)), (41, .sc (.int .i64 p.cs.length)), (42, .sc (.int .i64 k))])
      (fun k _ => (0, .box [.rsl 3 p.ns.length (ndsF p.ns), .rsl 6 p.cs.length (cbsF p.cs)]) :: if cabT p x k = [] then [] else [(0, .box (cbL (p.cs.getD ((cabT p x k).getD 0 0).toNat default))), (0, .ints [(cabT p x k).getD 0 0]), ((cabT p x k).length - 1, .ints (cabT p x k))]) () trivial ?_ (fun _ _ => Nat.zero_le _) ?_
    · rw [show cabT p x 0 = [] from rfl, show atT p x y 0 = -1 from rfl]
      simp only [if_true]
      simp only [↓EVP0, EVQ0, EVQ1, EVQ2, EVQ3, EVQ4, EVA, EVK, EVF, ↓reduceIte, Nat.reduceEqDiff, Nat.reduceAdd, Nat.reduceSub, Nat.reduceMul, Nat.reduceLT, Nat.reduceLeDiff, reduceCtorEq, Int.reduceToNat, Int.reduceLT, Int.reduceLE, Int.reduceAdd, Int.reduceSub, Int.reduceMul, Int.reduceNeg, Int.reduceEq, Nat.reduceMod, forall_eq_or_imp, forall_eq, forall_const, cond_true, cond_false, decide_true, decide_false, true_imp_iff, implies_true, Int.cast_ofNat_Int, forall_eq']
    intro k _ hk _
    have hps : cabT p x (k + 1) = cabT p x k ++ if touB (p.cs.getD k default) x = true then [(k : Int)] else [] := pickT_succ _ k
    have hple : (cabT p x k).length ≤ k := pickT_len _ _
    have hat : atT p x y (k + 1) = if matB (p.cs.getD k default) x y = true then (k : Int) else atT p x y k := rfl
    have hoth : k < p.cs.length → decide (0 ≤ othE (p.cs.getD k default) x) = touB (p.cs.getD k default) x := fun h => oth_ge hv' (by
      rw [List.getD_eq_getElem?_getD, List.getElem?_eq_getElem h]; exact List.getElem_mem h) x
    by_cases hq : cabT p x k = []
    · by_cases hdk : touB (p.cs.getD k default) x = true
      · have hp1 : cabT p x (k + 1) = [(k : Int)] := by rw [hps, if_pos hdk, hq]; rfl
        simp only [hp1, hq, List.cons_ne_nil, if_true, if_false]
        unfold lb6_0
        simp only [↓EVP0, EVQ0, EVQ1, EVQ2, EVQ3, EVQ4, EVA, EVK, EVF, ↓reduceIte, Nat.reduceEqDiff, Nat.reduceAdd, Nat.reduceSub, Nat.reduceMul, Nat.reduceLT, Nat.reduceLeDiff, reduceCtorEq, Int.reduceToNat, Int.reduceLT, Int.reduceLE, Int.reduceAdd, Int.reduceSub, Int.reduceMul, Int.reduceNeg, Int.reduceEq, Nat.reduceMod, forall_eq_or_imp, forall_eq, forall_const, cond_true, cond_false, decide_true, decide_false, true_imp_iff, implies_true, Int.cast_ofNat_Int, forall_eq']
        have hdk' := hdk
        refine ⟨fun hg => ?_, fun hg => ?_⟩
        · have hk2 : k < p.cs.length := by have := of_decide_eq_true hg; omega
          refine ⟨⟨by omega, by omega⟩, ?_⟩
          refine callK_ro (h6 (p.cs.getD k default) x) ?_ ?_
          · simp only [↓EVP0, EVQ0, EVQ1, EVQ2, EVQ3, EVQ4, EVA, EVK, EVF, ↓reduceIte, Nat.reduceEqDiff, Nat.reduceAdd, Nat.reduceSub, Nat.reduceMul, Nat.reduceLT, Nat.reduceLeDiff, reduceCtorEq, Int.reduceToNat, Int.reduceLT, Int.reduceLE, Int.reduceAdd, Int.reduceSub, Int.reduceMul, Int.reduceNeg, Int.reduceEq, Nat.reduceMod, forall_eq_or_imp, forall_eq, forall_const, cond_true, cond_false, decide_true, decide_false, true_imp_iff, implies_true, Int.cast_ofNat_Int, forall_eq']
          simp only [↓EVP0, EVQ0, EVQ1, EVQ2, EVQ3, EVQ4, EVA, EVK, EVF, ↓reduceIte, Nat.reduceEqDiff, Nat.reduceAdd, Nat.reduceSub, Nat.reduceMul, Nat.reduceLT, Nat.reduceLeDiff, reduceCtorEq, Int.reduceToNat, Int.reduceLT, Int.reduceLE, Int.reduceAdd, Int.reduceSub, Int.reduceMul, Int.reduceNeg, Int.reduceEq, Nat.reduceMod, forall_eq_or_imp, forall_eq, forall_const, cond_true, cond_false, decide_true, decide_false, true_imp_iff, implies_true, Int.cast_ofNat_Int, forall_eq']
          rw [hoth hk2, hdk']
          simp only [show (bif bif decide ((p.cs.getD k default).a = x) then decide ((p.cs.getD k default).ap = y) else false then true else bif decide ((p.cs.getD k default).b = x) then decide ((p.cs.getD k default).bp = y) else false) = matB (p.cs.getD k default) x y by unfold matB; rw [condT, condF, condF]]
          exact ⟨fun _ => ⟨by unfold appRoom; omega, fun h => ⟨by unfold In64; omega, hk2, (), by rw [hat, if_pos h], rfl, cb_all _ _⟩, fun h => ⟨by unfold In64; omega, hk2, (), by rw [hat, if_neg (by rw [h]; simp)], rfl, cb_all _ _⟩⟩, fun h => by simp at h⟩
        · have hkk : k = p.cs.length := by have := of_decide_eq_false hg; omega
          subst hkk
          refine callK_frz (h7 (cabT p x p.cs.length) (cabT p x p.cs.length)) ?_ ?_ ?_
          · rw [hq]; simp only [↓EVP0, EVQ0, EVQ1, EVQ2, EVQ3, EVQ4, EVA, EVK, EVF, ↓reduceIte, Nat.reduceEqDiff, Nat.reduceAdd, Nat.reduceSub, Nat.reduceMul, Nat.reduceLT, Nat.reduceLeDiff, reduceCtorEq, Int.reduceToNat, Int.reduceLT, Int.reduceLE, Int.reduceAdd, Int.reduceSub, Int.reduceMul, Int.reduceNeg, Int.reduceEq, Nat.reduceMod, forall_eq_or_imp, forall_eq, forall_const, cond_true, cond_false, decide_true, decide_false, true_imp_iff, implies_true, Int.cast_ofNat_Int, forall_eq']
          · simp only [↓EVP0, EVQ0, EVQ1, EVQ2, EVQ3, EVQ4, EVA, EVK, EVF, ↓reduceIte, Nat.reduceEqDiff, Nat.reduceAdd, Nat.reduceSub, Nat.reduceMul, Nat.reduceLT, Nat.reduceLeDiff, reduceCtorEq, Int.reduceToNat, Int.reduceLT, Int.reduceLE, Int.reduceAdd, Int.reduceSub, Int.reduceMul, Int.reduceNeg, Int.reduceEq, Nat.reduceMod, forall_eq_or_imp, forall_eq, forall_const, cond_true, cond_false, decide_true, decide_false, true_imp_iff, implies_true, Int.cast_ofNat_Int, forall_eq']
          simp only [↓EVP0, EVQ0, EVQ1, EVQ2, EVQ3, EVQ4, EVA, EVK, EVF, ↓reduceIte, Nat.reduceEqDiff, Nat.reduceAdd, Nat.reduceSub, Nat.reduceMul, Nat.reduceLT, Nat.reduceLeDiff, reduceCtorEq, Int.reduceToNat, Int.reduceLT, Int.reduceLE, Int.reduceAdd, Int.reduceSub, Int.reduceMul, Int.reduceNeg, Int.reduceEq, Nat.reduceMod, forall_eq_or_imp, forall_eq, forall_const, cond_true, cond_false, decide_true, decide_false, true_imp_iff, implies_true, Int.cast_ofNat_Int, forall_eq']
          by_cases h0 : 0 ≤ atT p x y p.cs.length
          · obtain ⟨j, hj, e9, hm⟩ := atT_of h0
            obtain ⟨b1, b2, b3⟩ := nbr_back hv' hj hm
            rw [show (nbrE p x y).2.2.2 = true from congrArg (·.2) b2, show (nbrE p x y).2.2.1 = (j : Int) from congrArg (·.1) b2, e9]
            refine ⟨fun h => by simp at h, fun _ => ⟨fun h => by simp at h, fun _ => ?_⟩⟩
            refine callK_ro (h3 (nbrE p x y).1 (nbrE p x y).2.1) ?_ ?_
            · simp only [↓EVP0, EVQ0, EVQ1, EVQ2, EVQ3, EVQ4, EVA, EVK, EVF, ↓reduceIte, Nat.reduceEqDiff, Nat.reduceAdd, Nat.reduceSub, Nat.reduceMul, Nat.reduceLT, Nat.reduceLeDiff, reduceCtorEq, Int.reduceToNat, Int.reduceLT, Int.reduceLE, Int.reduceAdd, Int.reduceSub, Int.reduceMul, Int.reduceNeg, Int.reduceEq, Nat.reduceMod, forall_eq_or_imp, forall_eq, forall_const, cond_true, cond_false, decide_true, decide_false, true_imp_iff, implies_true, Int.cast_ofNat_Int, forall_eq']
            simp only [↓EVP0, EVQ0, EVQ1, EVQ2, EVQ3, EVQ4, EVA, EVK, EVF, ↓reduceIte, Nat.reduceEqDiff, Nat.reduceAdd, Nat.reduceSub, Nat.reduceMul, Nat.reduceLT, Nat.reduceLeDiff, reduceCtorEq, Int.reduceToNat, Int.reduceLT, Int.reduceLE, Int.reduceAdd, Int.reduceSub, Int.reduceMul, Int.reduceNeg, Int.reduceEq, Nat.reduceMod, forall_eq_or_imp, forall_eq, forall_const, cond_true, cond_false, decide_true, decide_false, true_imp_iff, implies_true, Int.cast_ofNat_Int, forall_eq']
            rw [b1]
            simp only [decide_true, cond_true]
            refine ⟨fun _ => ⟨by omega, by omega⟩, ?_⟩
            (refine lops_ge_imp ?_; simp only [↓EVP0, EVQ0, EVQ1, EVQ2, EVQ3, EVQ4, EVA, EVK, EVF, ↓reduceIte, Nat.reduceEqDiff, Nat.reduceAdd, Nat.reduceSub, Nat.reduceMul, Nat.reduceLT, Nat.reduceLeDiff, reduceCtorEq, Int.reduceToNat, Int.reduceLT, Int.reduceLE, Int.reduceAdd, Int.reduceSub, Int.reduceMul, Int.reduceNeg, Int.reduceEq, Nat.reduceMod, forall_eq_or_imp, forall_eq, forall_const, cond_true, cond_false, decide_true, decide_false, true_imp_iff, implies_true, Int.cast_ofNat_Int, forall_eq'])
            refine gCallK_ro _ (fun _ => h6 (p.cs.getD j default) x) (fun _ => ?_) ?_
            · simp only [↓EVP0, EVQ0, EVQ1, EVQ2, EVQ3, EVQ4, EVA, EVK, EVF, ↓reduceIte, Nat.reduceEqDiff, Nat.reduceAdd, Nat.reduceSub, Nat.reduceMul, Nat.reduceLT, Nat.reduceLeDiff, reduceCtorEq, Int.reduceToNat, Int.reduceLT, Int.reduceLE, Int.reduceAdd, Int.reduceSub, Int.reduceMul, Int.reduceNeg, Int.reduceEq, Nat.reduceMod, forall_eq_or_imp, forall_eq, forall_const, cond_true, cond_false, decide_true, decide_false, true_imp_iff, implies_true, Int.cast_ofNat_Int, forall_eq']
            simp only [↓EVP0, EVQ0, EVQ1, EVQ2, EVQ3, EVQ4, EVA, EVK, EVF, ↓reduceIte, Nat.reduceEqDiff, Nat.reduceAdd, Nat.reduceSub, Nat.reduceMul, Nat.reduceLT, Nat.reduceLeDiff, reduceCtorEq, Int.reduceToNat, Int.reduceLT, Int.reduceLE, Int.reduceAdd, Int.reduceSub, Int.reduceMul, Int.reduceNeg, Int.reduceEq, Nat.reduceMod, forall_eq_or_imp, forall_eq, forall_const, cond_true, cond_false, decide_true, decide_false, true_imp_iff, implies_true, Int.cast_ofNat_Int, forall_eq']
            exact decide_eq_true b3
          · obtain ⟨e9, hm⟩ := atT_neg h0
            have b1 : nbrE p x y = (-1, -1, -1, false) := by
              unfold nbrE
              rw [if_pos hv']
              refine nbrGo_none fun c hc => ?_
              obtain ⟨j, hj, rfl⟩ := List.getElem_of_mem hc
              have := hm j hj
              rwa [List.getD_eq_getElem?_getD, List.getElem?_eq_getElem hj] at this
            rw [b1, e9]
            exact ⟨fun h => by simp at h, fun _ => ⟨fun _ => by simp, fun h => by simp at h⟩⟩
      · have hp1 : cabT p x (k + 1) = [] := by rw [hps, if_neg hdk, hq]; rfl
        simp only [hp1, hq, if_true]
        unfold lb6_0
        simp only [↓EVP0, EVQ0, EVQ1, EVQ2, EVQ3, EVQ4, EVA, EVK, EVF, ↓reduceIte, Nat.reduceEqDiff, Nat.reduceAdd, Nat.reduceSub, Nat.reduceMul, Nat.reduceLT, Nat.reduceLeDiff, reduceCtorEq, Int.reduceToNat, Int.reduceLT, Int.reduceLE, Int.reduceAdd, Int.reduceSub, Int.reduceMul, Int.reduceNeg, Int.reduceEq, Nat.reduceMod, forall_eq_or_imp, forall_eq, forall_const, cond_true, cond_false, decide_true, decide_false, true_imp_iff, implies_true, Int.cast_ofNat_Int, forall_eq']
        have hdk'' : touB (p.cs.getD k default) x = false := by simpa using hdk
        refine ⟨fun hg => ?_, fun hg => ?_⟩
        · have hk2 : k < p.cs.length := by have := of_decide_eq_true hg; omega
          refine ⟨⟨by omega, by omega⟩, ?_⟩
          refine callK_ro (h6 (p.cs.getD k default) x) ?_ ?_
          · simp only [↓EVP0, EVQ0, EVQ1, EVQ2, EVQ3, EVQ4, EVA, EVK, EVF, ↓reduceIte, Nat.reduceEqDiff, Nat.reduceAdd, Nat.reduceSub, Nat.reduceMul, Nat.reduceLT, Nat.reduceLeDiff, reduceCtorEq, Int.reduceToNat, Int.reduceLT, Int.reduceLE, Int.reduceAdd, Int.reduceSub, Int.reduceMul, Int.reduceNeg, Int.reduceEq, Nat.reduceMod, forall_eq_or_imp, forall_eq, forall_const, cond_true, cond_false, decide_true, decide_false, true_imp_iff, implies_true, Int.cast_ofNat_Int, forall_eq']
          simp only [↓EVP0, EVQ0, EVQ1, EVQ2, EVQ3, EVQ4, EVA, EVK, EVF, ↓reduceIte, Nat.reduceEqDiff, Nat.reduceAdd, Nat.reduceSub, Nat.reduceMul, Nat.reduceLT, Nat.reduceLeDiff, reduceCtorEq, Int.reduceToNat, Int.reduceLT, Int.reduceLE, Int.reduceAdd, Int.reduceSub, Int.reduceMul, Int.reduceNeg, Int.reduceEq, Nat.reduceMod, forall_eq_or_imp, forall_eq, forall_const, cond_true, cond_false, decide_true, decide_false, true_imp_iff, implies_true, Int.cast_ofNat_Int, forall_eq']
          rw [hoth hk2, hdk'']
          simp only [show (bif bif decide ((p.cs.getD k default).a = x) then decide ((p.cs.getD k default).ap = y) else false then true else bif decide ((p.cs.getD k default).b = x) then decide ((p.cs.getD k default).bp = y) else false) = matB (p.cs.getD k default) x y by unfold matB; rw [condT, condF, condF]]
          exact ⟨fun h => by simp at h, fun _ => ⟨fun h => ⟨by unfold In64; omega, hk2, (), by rw [hat, if_pos h]⟩, fun h => ⟨by unfold In64; omega, hk2, (), by rw [hat, if_neg (by rw [h]; simp)]⟩⟩⟩
        · have hkk : k = p.cs.length := by have := of_decide_eq_false hg; omega
          subst hkk
          refine callK_frz (h7 (cabT p x p.cs.length) (cabT p x p.cs.length)) ?_ ?_ ?_
          · rw [hq]; simp only [↓EVP0, EVQ0, EVQ1, EVQ2, EVQ3, EVQ4, EVA, EVK, EVF, ↓reduceIte, Nat.reduceEqDiff, Nat.reduceAdd, Nat.reduceSub, Nat.reduceMul, Nat.reduceLT, Nat.reduceLeDiff, reduceCtorEq, Int.reduceToNat, Int.reduceLT, Int.reduceLE, Int.reduceAdd, Int.reduceSub, Int.reduceMul, Int.reduceNeg, Int.reduceEq, Nat.reduceMod, forall_eq_or_imp, forall_eq, forall_const, cond_true, cond_false, decide_true, decide_false, true_imp_iff, implies_true, Int.cast_ofNat_Int, forall_eq']
          · simp only [↓EVP0, EVQ0, EVQ1, EVQ2, EVQ3, EVQ4, EVA, EVK, EVF, ↓reduceIte, Nat.reduceEqDiff, Nat.reduceAdd, Nat.reduceSub, Nat.reduceMul, Nat.reduceLT, Nat.reduceLeDiff, reduceCtorEq, Int.reduceToNat, Int.reduceLT, Int.reduceLE, Int.reduceAdd, Int.reduceSub, Int.reduceMul, Int.reduceNeg, Int.reduceEq, Nat.reduceMod, forall_eq_or_imp, forall_eq, forall_const, cond_true, cond_false, decide_true, decide_false, true_imp_iff, implies_true, Int.cast_ofNat_Int, forall_eq']
          simp only [↓EVP0, EVQ0, EVQ1, EVQ2, EVQ3, EVQ4, EVA, EVK, EVF, ↓reduceIte, Nat.reduceEqDiff, Nat.reduceAdd, Nat.reduceSub, Nat.reduceMul, Nat.reduceLT, Nat.reduceLeDiff, reduceCtorEq, Int.reduceToNat, Int.reduceLT, Int.reduceLE, Int.reduceAdd, Int.reduceSub, Int.reduceMul, Int.reduceNeg, Int.reduceEq, Nat.reduceMod, forall_eq_or_imp, forall_eq, forall_const, cond_true, cond_false, decide_true, decide_false, true_imp_iff, implies_true, Int.cast_ofNat_Int, forall_eq']
          by_cases h0 : 0 ≤ atT p x y p.cs.length
          · obtain ⟨j, hj, e9, hm⟩ := atT_of h0
            obtain ⟨b1, b2, b3⟩ := nbr_back hv' hj hm
            rw [show (nbrE p x y).2.2.2 = true from congrArg (·.2) b2, show (nbrE p x y).2.2.1 = (j : Int) from congrArg (·.1) b2, e9]
            refine ⟨fun h => by simp at h, fun _ => ⟨fun h => by simp at h, fun _ => ?_⟩⟩
            refine callK_ro (h3 (nbrE p x y).1 (nbrE p x y).2.1) ?_ ?_
            · simp only [↓EVP0, EVQ0, EVQ1, EVQ2, EVQ3, EVQ4, EVA, EVK, EVF, ↓reduceIte, Nat.reduceEqDiff, Nat.reduceAdd, Nat.reduceSub, Nat.reduceMul, Nat.reduceLT, Nat.reduceLeDiff, reduceCtorEq, Int.reduceToNat, Int.reduceLT, Int.reduceLE, Int.reduceAdd, Int.reduceSub, Int.reduceMul, Int.reduceNeg, Int.reduceEq, Nat.reduceMod, forall_eq_or_imp, forall_eq, forall_const, cond_true, cond_false, decide_true, decide_false, true_imp_iff, implies_true, Int.cast_ofNat_Int, forall_eq']
            simp only [↓EVP0, EVQ0, EVQ1, EVQ2, EVQ3, EVQ4, EVA, EVK, EVF, ↓reduceIte, Nat.reduceEqDiff, Nat.reduceAdd, Nat.reduceSub, Nat.reduceMul, Nat.reduceLT, Nat.reduceLeDiff, reduceCtorEq, Int.reduceToNat, Int.reduceLT, Int.reduceLE, Int.reduceAdd, Int.reduceSub, Int.reduceMul, Int.reduceNeg, Int.reduceEq, Nat.reduceMod, forall_eq_or_imp, forall_eq, forall_const, cond_true, cond_false, decide_true, decide_false, true_imp_iff, implies_true, Int.cast_ofNat_Int, forall_eq']
            rw [b1]
            simp only [decide_true, cond_true]
            refine ⟨fun _ => ⟨by omega, by omega⟩, ?_⟩
            (refine lops_ge_imp ?_; simp only [↓EVP0, EVQ0, EVQ1, EVQ2, EVQ3, EVQ4, EVA, EVK, EVF, ↓reduceIte, Nat.reduceEqDiff, Nat.reduceAdd, Nat.reduceSub, Nat.reduceMul, Nat.reduceLT, Nat.reduceLeDiff, reduceCtorEq, Int.reduceToNat, Int.reduceLT, Int.reduceLE, Int.reduceAdd, Int.reduceSub, Int.reduceMul, Int.reduceNeg, Int.reduceEq, Nat.reduceMod, forall_eq_or_imp, forall_eq, forall_const, cond_true, cond_false, decide_true, decide_false, true_imp_iff, implies_true, Int.cast_ofNat_Int, forall_eq'])
            refine gCallK_ro _ (fun _ => h6 (p.cs.getD j default) x) (fun _ => ?_) ?_
            · simp only [↓EVP0, EVQ0, EVQ1, EVQ2, EVQ3, EVQ4, EVA, EVK, EVF, ↓reduceIte, Nat.reduceEqDiff, Nat.reduceAdd, Nat.reduceSub, Nat.reduceMul, Nat.reduceLT, Nat.reduceLeDiff, reduceCtorEq, Int.reduceToNat, Int.reduceLT, Int.reduceLE, Int.reduceAdd, Int.reduceSub, Int.reduceMul, Int.reduceNeg, Int.reduceEq, Nat.reduceMod, forall_eq_or_imp, forall_eq, forall_const, cond_true, cond_false, decide_true, decide_false, true_imp_iff, implies_true, Int.cast_ofNat_Int, forall_eq']
            simp only [↓EVP0, EVQ0, EVQ1, EVQ2, EVQ3, EVQ4, EVA, EVK, EVF, ↓reduceIte, Nat.reduceEqDiff, Nat.reduceAdd, Nat.reduceSub, Nat.reduceMul, Nat.reduceLT, Nat.reduceLeDiff, reduceCtorEq, Int.reduceToNat, Int.reduceLT, Int.reduceLE, Int.reduceAdd, Int.reduceSub, Int.reduceMul, Int.reduceNeg, Int.reduceEq, Nat.reduceMod, forall_eq_or_imp, forall_eq, forall_const, cond_true, cond_false, decide_true, decide_false, true_imp_iff, implies_true, Int.cast_ofNat_Int, forall_eq']
            exact decide_eq_true b3
          · obtain ⟨e9, hm⟩ := atT_neg h0
            have b1 : nbrE p x y = (-1, -1, -1, false) := by
              unfold nbrE
              rw [if_pos hv']
              refine nbrGo_none fun c hc => ?_
              obtain ⟨j, hj, rfl⟩ := List.getElem_of_mem hc
              have := hm j hj
              rwa [List.getD_eq_getElem?_getD, List.getElem?_eq_getElem hj] at this
            rw [b1, e9]
            exact ⟨fun h => by simp at h, fun _ => ⟨fun _ => by simp, fun h => by simp at h⟩⟩
    · by_cases hdk : touB (p.cs.getD k default) x = true
      · have hp1 : cabT p x (k + 1) = cabT p x k ++ [(k : Int)] := by rw [hps, if_pos hdk]
        simp only [hp1, hq, List.append_eq_nil_iff, List.cons_ne_nil, and_false, if_false]
        unfold lb6_0
        simp only [↓EVP0, EVQ0, EVQ1, EVQ2, EVQ3, EVQ4, EVA, EVK, EVF, ↓reduceIte, Nat.reduceEqDiff, Nat.reduceAdd, Nat.reduceSub, Nat.reduceMul, Nat.reduceLT, Nat.reduceLeDiff, reduceCtorEq, Int.reduceToNat, Int.reduceLT, Int.reduceLE, Int.reduceAdd, Int.reduceSub, Int.reduceMul, Int.reduceNeg, Int.reduceEq, Nat.reduceMod, forall_eq_or_imp, forall_eq, forall_const, cond_true, cond_false, decide_true, decide_false, true_imp_iff, implies_true, Int.cast_ofNat_Int, forall_eq']
        have hdk' := hdk
        refine ⟨fun hg => ?_, fun hg => ?_⟩
        · have hk2 : k < p.cs.length := by have := of_decide_eq_true hg; omega
          refine ⟨⟨by omega, by omega⟩, ?_⟩
          refine callK_ro (h6 (p.cs.getD k default) x) ?_ ?_
          · simp only [↓EVP0, EVQ0, EVQ1, EVQ2, EVQ3, EVQ4, EVA, EVK, EVF, ↓reduceIte, Nat.reduceEqDiff, Nat.reduceAdd, Nat.reduceSub, Nat.reduceMul, Nat.reduceLT, Nat.reduceLeDiff, reduceCtorEq, Int.reduceToNat, Int.reduceLT, Int.reduceLE, Int.reduceAdd, Int.reduceSub, Int.reduceMul, Int.reduceNeg, Int.reduceEq, Nat.reduceMod, forall_eq_or_imp, forall_eq, forall_const, cond_true, cond_false, decide_true, decide_false, true_imp_iff, implies_true, Int.cast_ofNat_Int, forall_eq']
          simp only [↓EVP0, EVQ0, EVQ1, EVQ2, EVQ3, EVQ4, EVA, EVK, EVF, ↓reduceIte, Nat.reduceEqDiff, Nat.reduceAdd, Nat.reduceSub, Nat.reduceMul, Nat.reduceLT, Nat.reduceLeDiff, reduceCtorEq, Int.reduceToNat, Int.reduceLT, Int.reduceLE, Int.reduceAdd, Int.reduceSub, Int.reduceMul, Int.reduceNeg, Int.reduceEq, Nat.reduceMod, forall_eq_or_imp, forall_eq, forall_const, cond_true, cond_false, decide_true, decide_false, true_imp_iff, implies_true, Int.cast_ofNat_Int, forall_eq']
          rw [hoth hk2, hdk']
          simp only [show (bif bif decide ((p.cs.getD k default).a = x) then decide ((p.cs.getD k default).ap = y) else false then true else bif decide ((p.cs.getD k default).b = x) then decide ((p.cs.getD k default).bp = y) else false) = matB (p.cs.getD k default) x y by unfold matB; rw [condT, condF, condF]]
          have hpl : 0 < (cabT p x k).length := List.length_pos_iff.2 hq
          have hl1 : (cabT p x k ++ [(k : Int)]).length = (cabT p x k).length + 1 := by simp
          refine ⟨fun _ => ⟨Nat.le_refl _, by unfold appRoom; omega, ?_⟩, fun h => by simp at h⟩
          rw [show (cabT p x k).length - 1 + 1 = (cabT p x k).length + 1 - 1 by omega, List.take_of_length_le (Nat.le_refl _), hl1, getD_app0 hpl]
          exact ⟨fun h => ⟨by unfold In64; omega, hk2, (), ⟨rfl, by rw [hat, if_pos h]⟩, rfl, cb_all _ _, rfl, rfl, rfl⟩, fun h => ⟨by unfold In64; omega, hk2, (), ⟨rfl, by rw [hat, if_neg (by rw [h]; simp)]⟩, rfl, cb_all _ _, rfl, rfl, rfl⟩⟩
        · have hkk : k = p.cs.length := by have := of_decide_eq_false hg; omega
          subst hkk
          refine callK_frz (h7 (cabT p x p.cs.length) (cabT p x p.cs.length)) ?_ ?_ ?_
          · simp only [↓EVP0, EVQ0, EVQ1, EVQ2, EVQ3, EVQ4, EVA, EVK, EVF, ↓reduceIte, Nat.reduceEqDiff, Nat.reduceAdd, Nat.reduceSub, Nat.reduceMul, Nat.reduceLT, Nat.reduceLeDiff, reduceCtorEq, Int.reduceToNat, Int.reduceLT, Int.reduceLE, Int.reduceAdd, Int.reduceSub, Int.reduceMul, Int.reduceNeg, Int.reduceEq, Nat.reduceMod, forall_eq_or_imp, forall_eq, forall_const, cond_true, cond_false, decide_true, decide_false, true_imp_iff, implies_true, Int.cast_ofNat_Int, forall_eq']; exact Nat.le_refl _
          · simp only [↓EVP0, EVQ0, EVQ1, EVQ2, EVQ3, EVQ4, EVA, EVK, EVF, ↓reduceIte, Nat.reduceEqDiff, Nat.reduceAdd, Nat.reduceSub, Nat.reduceMul, Nat.reduceLT, Nat.reduceLeDiff, reduceCtorEq, Int.reduceToNat, Int.reduceLT, Int.reduceLE, Int.reduceAdd, Int.reduceSub, Int.reduceMul, Int.reduceNeg, Int.reduceEq, Nat.reduceMod, forall_eq_or_imp, forall_eq, forall_const, cond_true, cond_false, decide_true, decide_false, true_imp_iff, implies_true, Int.cast_ofNat_Int, forall_eq']
          simp only [↓EVP0, EVQ0, EVQ1, EVQ2, EVQ3, EVQ4, EVA, EVK, EVF, ↓reduceIte, Nat.reduceEqDiff, Nat.reduceAdd, Nat.reduceSub, Nat.reduceMul, Nat.reduceLT, Nat.reduceLeDiff, reduceCtorEq, Int.reduceToNat, Int.reduceLT, Int.reduceLE, Int.reduceAdd, Int.reduceSub, Int.reduceMul, Int.reduceNeg, Int.reduceEq, Nat.reduceMod, forall_eq_or_imp, forall_eq, forall_const, cond_true, cond_false, decide_true, decide_false, true_imp_iff, implies_true, Int.cast_ofNat_Int, forall_eq']
          by_cases h0 : 0 ≤ atT p x y p.cs.length
          · obtain ⟨j, hj, e9, hm⟩ := atT_of h0
            obtain ⟨b1, b2, b3⟩ := nbr_back hv' hj hm
            rw [show (nbrE p x y).2.2.2 = true from congrArg (·.2) b2, show (nbrE p x y).2.2.1 = (j : Int) from congrArg (·.1) b2, e9]
            refine ⟨fun h => by simp at h, fun _ => ⟨fun h => by simp at h, fun _ => ?_⟩⟩
            refine callK_ro (h3 (nbrE p x y).1 (nbrE p x y).2.1) ?_ ?_
            · simp only [↓EVP0, EVQ0, EVQ1, EVQ2, EVQ3, EVQ4, EVA, EVK, EVF, ↓reduceIte, Nat.reduceEqDiff, Nat.reduceAdd, Nat.reduceSub, Nat.reduceMul, Nat.reduceLT, Nat.reduceLeDiff, reduceCtorEq, Int.reduceToNat, Int.reduceLT, Int.reduceLE, Int.reduceAdd, Int.reduceSub, Int.reduceMul, Int.reduceNeg, Int.reduceEq, Nat.reduceMod, forall_eq_or_imp, forall_eq, forall_const, cond_true, cond_false, decide_true, decide_false, true_imp_iff, implies_true, Int.cast_ofNat_Int, forall_eq']
            simp only [↓EVP0, EVQ0, EVQ1, EVQ2, EVQ3, EVQ4, EVA, EVK, EVF, ↓reduceIte, Nat.reduceEqDiff, Nat.reduceAdd, Nat.reduceSub, Nat.reduceMul, Nat.reduceLT, Nat.reduceLeDiff, reduceCtorEq, Int.reduceToNat, Int.reduceLT, Int.reduceLE, Int.reduceAdd, Int.reduceSub, Int.reduceMul, Int.reduceNeg, Int.reduceEq, Nat.reduceMod, forall_eq_or_imp, forall_eq, forall_const, cond_true, cond_false, decide_true, decide_false, true_imp_iff, implies_true, Int.cast_ofNat_Int, forall_eq']
            rw [b1]
            simp only [decide_true, cond_true]
            refine ⟨fun _ => ⟨by omega, by omega⟩, ?_⟩
            (refine lops_ge_imp ?_; simp only [↓EVP0, EVQ0, EVQ1, EVQ2, EVQ3, EVQ4, EVA, EVK, EVF, ↓reduceIte, Nat.reduceEqDiff, Nat.reduceAdd, Nat.reduceSub, Nat.reduceMul, Nat.reduceLT, Nat.reduceLeDiff, reduceCtorEq, Int.reduceToNat, Int.reduceLT, Int.reduceLE, Int.reduceAdd, Int.reduceSub, Int.reduceMul, Int.reduceNeg, Int.reduceEq, Nat.reduceMod, forall_eq_or_imp, forall_eq, forall_const, cond_true, cond_false, decide_true, decide_false, true_imp_iff, implies_true, Int.cast_ofNat_Int, forall_eq'])
            refine gCallK_ro _ (fun _ => h6 (p.cs.getD j default) x) (fun _ => ?_) ?_
            · simp only [↓EVP0, EVQ0, EVQ1, EVQ2, EVQ3, EVQ4, EVA, EVK, EVF, ↓reduceIte, Nat.reduceEqDiff, Nat.reduceAdd, Nat.reduceSub, Nat.reduceMul, Nat.reduceLT, Nat.reduceLeDiff, reduceCtorEq, Int.reduceToNat, Int.reduceLT, Int.reduceLE, Int.reduceAdd, Int.reduceSub, Int.reduceMul, Int.reduceNeg, Int.reduceEq, Nat.reduceMod, forall_eq_or_imp, forall_eq, forall_const, cond_true, cond_false, decide_true, decide_false, true_imp_iff, implies_true, Int.cast_ofNat_Int, forall_eq']
            simp only [↓EVP0, EVQ0, EVQ1, EVQ2, EVQ3, EVQ4, EVA, EVK, EVF, ↓reduceIte, Nat.reduceEqDiff, Nat.reduceAdd, Nat.reduceSub, Nat.reduceMul, Nat.reduceLT, Nat.reduceLeDiff, reduceCtorEq, Int.reduceToNat, Int.reduceLT, Int.reduceLE, Int.reduceAdd, Int.reduceSub, Int.reduceMul, Int.reduceNeg, Int.reduceEq, Nat.reduceMod, forall_eq_or_imp, forall_eq, forall_const, cond_true, cond_false, decide_true, decide_false, true_imp_iff, implies_true, Int.cast_ofNat_Int, forall_eq']
            exact decide_eq_true b3
          · obtain ⟨e9, hm⟩ := atT_neg h0
            have b1 : nbrE p x y = (-1, -1, -1, false) := by
              unfold nbrE
              rw [if_pos hv']
              refine nbrGo_none fun c hc => ?_
              obtain ⟨j, hj, rfl⟩ := List.getElem_of_mem hc
              have := hm j hj
              rwa [List.getD_eq_getElem?_getD, List.getElem?_eq_getElem hj] at this
            rw [b1, e9]
            exact ⟨fun h => by simp at h, fun _ => ⟨fun _ => by simp, fun h => by simp at h⟩⟩
      · have hp1 : cabT p x (k + 1) = cabT p x k := by rw [hps, if_neg hdk]; simp
        simp only [hp1, hq, if_false]
        unfold lb6_0
        simp only [↓EVP0, EVQ0, EVQ1, EVQ2, EVQ3, EVQ4, EVA, EVK, EVF, ↓reduceIte, Nat.reduceEqDiff, Nat.reduceAdd, Nat.reduceSub, Nat.reduceMul, Nat.reduceLT, Nat.reduceLeDiff, reduceCtorEq, Int.reduceToNat, Int.reduceLT, Int.reduceLE, Int.reduceAdd, Int.reduceSub, Int.reduceMul, Int.reduceNeg, Int.reduceEq, Nat.reduceMod, forall_eq_or_imp, forall_eq, forall_const, cond_true, cond_false, decide_true, decide_false, true_imp_iff, implies_true, Int.cast_ofNat_Int, forall_eq']
        have hdk'' : touB (p.cs.getD k default) x = false := by simpa using hdk
        refine ⟨fun hg => ?_, fun hg => ?_⟩
        · have hk2 : k < p.cs.length := by have := of_decide_eq_true hg; omega
          refine ⟨⟨by omega, by omega⟩, ?_⟩
          refine callK_ro (h6 (p.cs.getD k default) x) ?_ ?_
          · simp only [↓EVP0, EVQ0, EVQ1, EVQ2, EVQ3, EVQ4, EVA, EVK, EVF, ↓reduceIte, Nat.reduceEqDiff, Nat.reduceAdd, Nat.reduceSub, Nat.reduceMul, Nat.reduceLT, Nat.reduceLeDiff, reduceCtorEq, Int.reduceToNat, Int.reduceLT, Int.reduceLE, Int.reduceAdd, Int.reduceSub, Int.reduceMul, Int.reduceNeg, Int.reduceEq, Nat.reduceMod, forall_eq_or_imp, forall_eq, forall_const, cond_true, cond_false, decide_true, decide_false, true_imp_iff, implies_true, Int.cast_ofNat_Int, forall_eq']
          simp only [↓EVP0, EVQ0, EVQ1, EVQ2, EVQ3, EVQ4, EVA, EVK, EVF, ↓reduceIte, Nat.reduceEqDiff, Nat.reduceAdd, Nat.reduceSub, Nat.reduceMul, Nat.reduceLT, Nat.reduceLeDiff, reduceCtorEq, Int.reduceToNat, Int.reduceLT, Int.reduceLE, Int.reduceAdd, Int.reduceSub, Int.reduceMul, Int.reduceNeg, Int.reduceEq, Nat.reduceMod, forall_eq_or_imp, forall_eq, forall_const, cond_true, cond_false, decide_true, decide_false, true_imp_iff, implies_true, Int.cast_ofNat_Int, forall_eq']
          rw [hoth hk2, hdk'']
          simp only [show (bif bif decide ((p.cs.getD k default).a = x) then decide ((p.cs.getD k default).ap = y) else false then true else bif decide ((p.cs.getD k default).b = x) then decide ((p.cs.getD k default).bp = y) else false) = matB (p.cs.getD k default) x y by unfold matB; rw [condT, condF, condF]]
          exact ⟨fun h => by simp at h, fun _ => ⟨fun h => ⟨by unfold In64; omega, hk2, (), by rw [hat, if_pos h], cb_all _ _⟩, fun h => ⟨by unfold In64; omega, hk2, (), by rw [hat, if_neg (by rw [h]; simp)], cb_all _ _⟩⟩⟩
        · have hkk : k = p.cs.length := by have := of_decide_eq_false hg; omega
          subst hkk
          refine callK_frz (h7 (cabT p x p.cs.length) (cabT p x p.cs.length)) ?_ ?_ ?_
          · simp only [↓EVP0, EVQ0, EVQ1, EVQ2, EVQ3, EVQ4, EVA, EVK, EVF, ↓reduceIte, Nat.reduceEqDiff, Nat.reduceAdd, Nat.reduceSub, Nat.reduceMul, Nat.reduceLT, Nat.reduceLeDiff, reduceCtorEq, Int.reduceToNat, Int.reduceLT, Int.reduceLE, Int.reduceAdd, Int.reduceSub, Int.reduceMul, Int.reduceNeg, Int.reduceEq, Nat.reduceMod, forall_eq_or_imp, forall_eq, forall_const, cond_true, cond_false, decide_true, decide_false, true_imp_iff, implies_true, Int.cast_ofNat_Int, forall_eq']; exact Nat.le_refl _
          · simp only [↓EVP0, EVQ0, EVQ1, EVQ2, EVQ3, EVQ4, EVA, EVK, EVF, ↓reduceIte, Nat.reduceEqDiff, Nat.reduceAdd, Nat.reduceSub, Nat.reduceMul, Nat.reduceLT, Nat.reduceLeDiff, reduceCtorEq, Int.reduceToNat, Int.reduceLT, Int.reduceLE, Int.reduceAdd, Int.reduceSub, Int.reduceMul, Int.reduceNeg, Int.reduceEq, Nat.reduceMod, forall_eq_or_imp, forall_eq, forall_const, cond_true, cond_false, decide_true, decide_false, true_imp_iff, implies_true, Int.cast_ofNat_Int, forall_eq']
          simp only [↓EVP0, EVQ0, EVQ1, EVQ2, EVQ3, EVQ4, EVA, EVK, EVF, ↓reduceIte, Nat.reduceEqDiff, Nat.reduceAdd, Nat.reduceSub, Nat.reduceMul, Nat.reduceLT, Nat.reduceLeDiff, reduceCtorEq, Int.reduceToNat, Int.reduceLT, Int.reduceLE, Int.reduceAdd, Int.reduceSub, Int.reduceMul, Int.reduceNeg, Int.reduceEq, Nat.reduceMod, forall_eq_or_imp, forall_eq, forall_const, cond_true, cond_false, decide_true, decide_false, true_imp_iff, implies_true, Int.cast_ofNat_Int, forall_eq']
          by_cases h0 : 0 ≤ atT p x y p.cs.length
          · obtain ⟨j, hj, e9, hm⟩ := atT_of h0
            obtain ⟨b1, b2, b3⟩ := nbr_back hv' hj hm
            rw [show (nbrE p x y).2.2.2 = true from congrArg (·.2) b2, show (nbrE p x y).2.2.1 = (j : Int) from congrArg (·.1) b2, e9]
            refine ⟨fun h => by simp at h, fun _ => ⟨fun h => by simp at h, fun _ => ?_⟩⟩
            refine callK_ro (h3 (nbrE p x y).1 (nbrE p x y).2.1) ?_ ?_
            · simp only [↓EVP0, EVQ0, EVQ1, EVQ2, EVQ3, EVQ4, EVA, EVK, EVF, ↓reduceIte, Nat.reduceEqDiff, Nat.reduceAdd, Nat.reduceSub, Nat.reduceMul, Nat.reduceLT, Nat.reduceLeDiff, reduceCtorEq, Int.reduceToNat, Int.reduceLT, Int.reduceLE, Int.reduceAdd, Int.reduceSub, Int.reduceMul, Int.reduceNeg, Int.reduceEq, Nat.reduceMod, forall_eq_or_imp, forall_eq, forall_const, cond_true, cond_false, decide_true, decide_false, true_imp_iff, implies_true, Int.cast_ofNat_Int, forall_eq']
            simp only [↓EVP0, EVQ0, EVQ1, EVQ2, EVQ3, EVQ4, EVA, EVK, EVF, ↓reduceIte, Nat.reduceEqDiff, Nat.reduceAdd, Nat.reduceSub, Nat.reduceMul, Nat.reduceLT, Nat.reduceLeDiff, reduceCtorEq, Int.reduceToNat, Int.reduceLT, Int.reduceLE, Int.reduceAdd, Int.reduceSub, Int.reduceMul, Int.reduceNeg, Int.reduceEq, Nat.reduceMod, forall_eq_or_imp, forall_eq, forall_const, cond_true, cond_false, decide_true, decide_false, true_imp_iff, implies_true, Int.cast_ofNat_Int, forall_eq']
            rw [b1]
            simp only [decide_true, cond_true]
            refine ⟨fun _ => ⟨by omega, by omega⟩, ?_⟩
            (refine lops_ge_imp ?_; simp only [↓EVP0, EVQ0, EVQ1, EVQ2, EVQ3, EVQ4, EVA, EVK, EVF, ↓reduceIte, Nat.reduceEqDiff, Nat.reduceAdd, Nat.reduceSub, Nat.reduceMul, Nat.reduceLT, Nat.reduceLeDiff, reduceCtorEq, Int.reduceToNat, Int.reduceLT, Int.reduceLE, Int.reduceAdd, Int.reduceSub, Int.reduceMul, Int.reduceNeg, Int.reduceEq, Nat.reduceMod, forall_eq_or_imp, forall_eq, forall_const, cond_true, cond_false, decide_true, decide_false, true_imp_iff, implies_true, Int.cast_ofNat_Int, forall_eq'])
            refine gCallK_ro _ (fun _ => h6 (p.cs.getD j default) x) (fun _ => ?_) ?_
            · simp only [↓EVP0, EVQ0, EVQ1, EVQ2, EVQ3, EVQ4, EVA, EVK, EVF, ↓reduceIte, Nat.reduceEqDiff, Nat.reduceAdd, Nat.reduceSub, Nat.reduceMul, Nat.reduceLT, Nat.reduceLeDiff, reduceCtorEq, Int.reduceToNat, Int.reduceLT, Int.reduceLE, Int.reduceAdd, Int.reduceSub, Int.reduceMul, Int.reduceNeg, Int.reduceEq, Nat.reduceMod, forall_eq_or_imp, forall_eq, forall_const, cond_true, cond_false, decide_true, decide_false, true_imp_iff, implies_true, Int.cast_ofNat_Int, forall_eq']
            simp only [↓EVP0, EVQ0, EVQ1, EVQ2, EVQ3, EVQ4, EVA, EVK, EVF, ↓reduceIte, Nat.reduceEqDiff, Nat.reduceAdd, Nat.reduceSub, Nat.reduceMul, Nat.reduceLT, Nat.reduceLeDiff, reduceCtorEq, Int.reduceToNat, Int.reduceLT, Int.reduceLE, Int.reduceAdd, Int.reduceSub, Int.reduceMul, Int.reduceNeg, Int.reduceEq, Nat.reduceMod, forall_eq_or_imp, forall_eq, forall_const, cond_true, cond_false, decide_true, decide_false, true_imp_iff, implies_true, Int.cast_ofNat_Int, forall_eq']
            exact decide_eq_true b3
          · obtain ⟨e9, hm⟩ := atT_neg h0
            have b1 : nbrE p x y = (-1, -1, -1, false) := by
              unfold nbrE
              rw [if_pos hv']
              refine nbrGo_none fun c hc => ?_
              obtain ⟨j, hj, rfl⟩ := List.getElem_of_mem hc
              have := hm j hj
              rwa [List.getD_eq_getElem?_getD, List.getElem?_eq_getElem hj] at this
            rw [b1, e9]
            exact ⟨fun h => by simp at h, fun _ => ⟨fun _ => by simp, fun h => by simp at h⟩⟩
  · have e1 : cablesE p x = [] := by unfold cablesE; rw [if_neg (of_decide_eq_false hv)]
    have e2 : nbrE p x y = (-1, -1, -1, false) := by unfold nbrE; rw [if_neg (of_decide_eq_false hv)]
    rw [e1, e2]
    refine callK_frz (h7 [] []) ?_ ?_ ?_
    · simp only [↓EVP0, EVQ0, EVQ1, EVQ2, EVQ3, EVQ4, EVA, EVK, EVF, ↓reduceIte, Nat.reduceEqDiff, Nat.reduceAdd, Nat.reduceSub, Nat.reduceMul, Nat.reduceLT, Nat.reduceLeDiff, reduceCtorEq, Int.reduceToNat, Int.reduceLT, Int.reduceLE, Int.reduceAdd, Int.reduceSub, Int.reduceMul, Int.reduceNeg, Int.reduceEq, Nat.reduceMod, forall_eq_or_imp, forall_eq, forall_const, cond_true, cond_false, decide_true, decide_false, true_imp_iff, implies_true, Int.cast_ofNat_Int, forall_eq']
    · simp only [↓EVP0, EVQ0, EVQ1, EVQ2, EVQ3, EVQ4, EVA, EVK, EVF, ↓reduceIte, Nat.reduceEqDiff, Nat.reduceAdd, Nat.reduceSub, Nat.reduceMul, Nat.reduceLT, Nat.reduceLeDiff, reduceCtorEq, Int.reduceToNat, Int.reduceLT, Int.reduceLE, Int.reduceAdd, Int.reduceSub, Int.reduceMul, Int.reduceNeg, Int.reduceEq, Nat.reduceMod, forall_eq_or_imp, forall_eq, forall_const, cond_true, cond_false, decide_true, decide_false, true_imp_iff, implies_true, Int.cast_ofNat_Int, forall_eq']
    simp only [↓EVP0, EVQ0, EVQ1, EVQ2, EVQ3, EVQ4, EVA, EVK, EVF, ↓reduceIte, Nat.reduceEqDiff, Nat.reduceAdd, Nat.reduceSub, Nat.reduceMul, Nat.reduceLT, Nat.reduceLeDiff, reduceCtorEq, Int.reduceToNat, Int.reduceLT, Int.reduceLE, Int.reduceAdd, Int.reduceSub, Int.reduceMul, Int.reduceNeg, Int.reduceEq, Nat.reduceMod, forall_eq_or_imp, forall_eq, forall_const, cond_true, cond_false, decide_true, decide_false, true_imp_iff, implies_true, Int.cast_ofNat_Int, forall_eq']
    exact ⟨fun h => by simp at h, fun _ => trivial⟩
end Go.Proofs.YtchpncmmlhfemaaDoor
namespace Go.Proofs.YtchpncmmlhfemaaDoor
set_option linter.unusedSimpArgs false
set_option linter.unusedVariables false
open Go.RowKit
set_option maxRecDepth 20000

theorem roTo1_self {h : LH} {x : LV} (hx : roish1 x) : roTo1 h x x := by cases x <;> first | exact hx.elim | exact ⟨rfl, hx⟩
theorem roToL_self {h : LH} : ∀ {l : List LV}, roishL l → roToL h l l
  | [], _ => trivial
  | _ :: _, hl => ⟨roTo1_self hl.1, roToL_self hl.2⟩
theorem roish2_of {x : LV} (hx : roish1 x) : roish2 x := by cases x <;> first | exact hx.elim | exact hx
theorem roishL2_of : ∀ {l : List LV}, roishL l → roishL2 l
  | [], _ => trivial
  | _ :: _, hl => ⟨roish2_of hl.1, roishL2_of hl.2⟩
theorem allC_of {n : Nat} : ∀ {l : List LV}, roishL l → allC n l
  | [], _ => trivial
  | x :: _, hl => ⟨by have := hl.1; cases x <;> first | exact this.elim | trivial, allC_of hl.2⟩
theorem roTo2_box {h : LH} {k ver : Nat} {cs ds : List LV} (hk : k < h.n) (hv : h.f k = (ver, .box cs)) (hl : roToL h cs ds) : roTo2 h (.ptr k ver 0 0 0) (.rptr ds) := by
  refine ⟨hk, by rw [hv], rfl, rfl, rfl, ?_⟩
  rw [hv]; exact hl
theorem getD_mem {α : Type} (d : α) {l : List α} {i : Nat} (h : i < l.length) : l.getD i d ∈ l := by
  rw [List.getD_eq_getElem?_getD, List.getElem?_eq_getElem h]; exact List.getElem_mem h
/-- As roTo2; what a closure has caught may be a variable. -/
def roToF (h : LH) : LV → LV → Prop
  | .fn f cs, .fn g ds => f = g ∧ roToL2 h cs ds
  | x, y => roTo2 h x y
def roToLF (h : LH) : List LV → List LV → Prop
  | [], [] => True
  | x :: r, y :: q => roToF h x y ∧ roToLF h r q
  | _, _ => False
section
variable {P : Program} {B : Nat} {R R' : RO} {ι : IM} {h : LH} {w : World}
theorem roToF_ok (hrep : Rep R ι h B w) (hl : RoLe R R') (hfz : ∀ k, k < h.n → (h.f k).2.live = true → ((ι k).m ≠ 0 ∨ (h.f k).2.isMap = true) → R' (ι k).b = w.heap[(ι k).b]?)
    {lv r : LV} {v : Value} (hr : Rv R ι h lv v) (ht : roToF h lv r) : Ro R' r v := by
  unfold roToF at ht
  split at ht
  · rename_i f cs g ds
    obtain ⟨rfl, ht⟩ := ht
    obtain ⟨vs, rfl, h1, h2⟩ := hr.fn_inv
    obtain ⟨g1, g2⟩ := roToL2_get ht
    refine .fn _ _ _ (by omega) (fun i c hi => ?_)
    obtain ⟨x, hx, hx2⟩ := g2 i c hi
    exact roTo2_ok hrep hl hfz (h2 i x hx) hx2
  · exact roTo2_ok hrep hl hfz hr ht
theorem roToLF_get : ∀ {xs ys : List LV}, roToLF h xs ys → xs.length = ys.length ∧ ∀ (i : Nat) (y : LV), ys[i]? = some y → ∃ x, xs[i]? = some x ∧ roToF h x y
  | [], [], _ => ⟨rfl, fun i y hy => by simp at hy⟩
  | x :: r, y :: q, ht => by
    obtain ⟨h1, h2⟩ := roToLF_get ht.2
    refine ⟨by simp [h1], fun i z hz => ?_⟩
    cases i with
    | zero => simp at hz; subst hz; exact ⟨x, rfl, ht.1⟩
    | succ i =>
      obtain ⟨u, hu, hu2⟩ := h2 i z (by simpa using hz)
      exact ⟨u, by simpa using hu, hu2⟩
  | [], _ :: _, ht => ht.elim
  | _ :: _, [], ht => ht.elim
theorem lcall_frzF {f : FuncId} {args args' : List LV} {r : LV} (he : Ev P f args' r) (ha : roToLF h args args') (hs : scal r) : LCall P f args h r h := by
  intro B R ι w vs hB hr hsz hargs
  obtain ⟨g1, g2⟩ := roToLF_get ha
  refine (he (fun b => w.heap[b]?) w vs (fun _ _ h => h) (by omega) (fun i a hi => ?_)).mono ?_
  · obtain ⟨x, hx, hx2⟩ := g2 i a hi
    exact roToF_ok hr (fun b o hb => hr.ro b o hb) (fun _ _ _ _ => rfl) (hargs i x hx) hx2
  · intro e w' hx
    obtain ⟨v, R', rfl, h1, h2, h3, h4, h5⟩ := hx
    refine ⟨v, R, ι, rfl, trans_call hB hr (R2 := R) (fun b o hbo => ?_) h4 (fun _ _ h => h) (fun _ _ => rfl) rfl, .ro (scal_ok hs h5)⟩
    have := hr.ro b o hbo
    rw [h4.block b (Array.getElem?_eq_some_iff.1 this).1]; exact this
end
theorem callK_frzF {P : Program} {f : FuncId} {al al' : List LV} {h : LH} {k : LV → LH → Prop} {r : LV} (he : Ev P f al' r) (ha : roToLF h al al') (hs : scal r) (hk : k r h) : @callK P f al h ⟨k⟩ := ⟨r, h, lcall_frzF he ha hs, hk⟩
theorem roTo2_self {h : LH} {x : LV} (hx : roish2 x) : roTo2 h x x := by
  cases x with
  | agg cs => exact roToL_self hx
  | fn f cs => exact ⟨rfl, roToL_self hx⟩
  | sc v => exact ⟨rfl, trivial⟩
  | nsl => exact ⟨rfl, trivial⟩
  | rsl a b c => exact ⟨rfl, trivial⟩
  | rptr cs => exact ⟨rfl, trivial⟩
  | rmp es => exact ⟨rfl, trivial⟩
  | _ => exact hx.elim
theorem roToF_self {h : LH} {x : LV} (hx : roish1 x) : roToF h x x := by cases x <;> first | exact hx.elim | exact roTo2_self (h := h) (roish2_of hx)
theorem roToF_agg {h : LH} {cs : List LV} (hx : roishL cs) : roToF h (.agg cs) (.agg cs) := roToL_self hx
def fidx (b : Int → Bool) : List Int → Int → Int
  | [], _ => -1
  | x :: r, i => if b x = true then i else fidx b r (i + 1)
theorem fidx_cons (b : Int → Bool) (x : Int) (r : List Int) (i : Int) : fidx b (x :: r) i = if b x = true then i else fidx b r (i + 1) := rfl
theorem fidx_any (b : Int → Bool) : ∀ (q : List Int) (i : Int), 0 ≤ i → decide (0 ≤ fidx b q i) = q.any b
  | [], i, h => rfl
  | x :: r, i, h => by
    unfold fidx
    rw [List.any_cons]
    by_cases hb : b x = true
    · rw [if_pos hb, hb, decide_eq_true h]; rfl
    · rw [if_neg hb, fidx_any b r (i + 1) (by omega), Bool.eq_false_iff.2 hb]; rfl
theorem ev_indexF (q : List Int) (hl : q.length ≤ 1000) (vf : FuncId) (caps : List LV) (hok : okF Tryd.prog vf = true) (hc : roishL caps) (b : Int → Bool) (hb : ∀ x, x ∈ q → Ev Tryd.prog vf (.sc (.int .i64 x) :: caps) (.sc (.bool (b x)))) :
    Ev Tryd.prog 44 [intsV q, .fn vf caps] (.sc (.int .i64 (fidx b q 0))) := by
  have hc2 := roishL2_of hc
  unfold intsV
  refine ev_fn Tryd.func44 comp44 (show 2 ≤ Tryd.f44.ntmps by decide) ?_; unfold cf44 rf44; simp only [↓EVP0, EVQ0, EVQ1, EVQ2, EVQ3, EVQ4, EVA, EVK, EVF, ↓reduceIte, Nat.reduceEqDiff, Nat.reduceAdd, Nat.reduceSub, Nat.reduceMul, Nat.reduceLT, Nat.reduceLeDiff, reduceCtorEq, Int.reduceToNat, Int.reduceLT, Int.reduceLE, Int.reduceAdd, Int.reduceSub, Int.reduceMul, Int.reduceNeg, Int.reduceEq, Nat.reduceMod, forall_eq_or_imp, forall_eq, forall_const, cond_true, cond_false, decide_true, decide_false, true_imp_iff, implies_true, Int.cast_ofNat_Int, forall_eq']
  intro _
  refine lwp_for (α := Unit) q.length (fun i _ => fidx b q 0 = fidx b (q.drop i) i) (fun i _ => [(0, .rsl 1 q.length (intsF q)), (1, .fn vf caps), (7, .sc (.int .i64 q.length)), (8, .sc (.int .i64 i))]) (fun _ _ => []) () rfl ?_ (fun _ _ => Nat.zero_le _) ?_
  · simp only [↓EVP0, EVQ0, EVQ1, EVQ2, EVQ3, EVQ4, EVA, EVK, EVF, ↓reduceIte, Nat.reduceEqDiff, Nat.reduceAdd, Nat.reduceSub, Nat.reduceMul, Nat.reduceLT, Nat.reduceLeDiff, reduceCtorEq, Int.reduceToNat, Int.reduceLT, Int.reduceLE, Int.reduceAdd, Int.reduceSub, Int.reduceMul, Int.reduceNeg, Int.reduceEq, Nat.reduceMod, forall_eq_or_imp, forall_eq, forall_const, cond_true, cond_false, decide_true, decide_false, true_imp_iff, implies_true, Int.cast_ofNat_Int, forall_eq']
    exact allC_of hc
  intro i _ hi hx
  unfold lb44_0
  simp only [↓EVP0, EVQ0, EVQ1, EVQ2, EVQ3, EVQ4, EVA, EVK, EVF, ↓reduceIte, Nat.reduceEqDiff, Nat.reduceAdd, Nat.reduceSub, Nat.reduceMul, Nat.reduceLT, Nat.reduceLeDiff, reduceCtorEq, Int.reduceToNat, Int.reduceLT, Int.reduceLE, Int.reduceAdd, Int.reduceSub, Int.reduceMul, Int.reduceNeg, Int.reduceEq, Nat.reduceMod, forall_eq_or_imp, forall_eq, forall_const, cond_true, cond_false, decide_true, decide_false, true_imp_iff, implies_true, Int.cast_ofNat_Int, forall_eq']
  refine ⟨fun hg => ?_, fun hg => ?_⟩
  · have hi2 : i < q.length := by have := of_decide_eq_true hg; omega
    have hq := hb _ (getD_mem 0 hi2)
    rw [drop_getG 0 hi2, fidx_cons] at hx
    refine ⟨⟨by omega, by omega⟩, hok, callK_ro hq ⟨trivial, hc2⟩ ?_⟩
    simp only [↓EVP0, EVQ0, EVQ1, EVQ2, EVQ3, EVQ4, EVA, EVK, EVF, ↓reduceIte, Nat.reduceEqDiff, Nat.reduceAdd, Nat.reduceSub, Nat.reduceMul, Nat.reduceLT, Nat.reduceLeDiff, reduceCtorEq, Int.reduceToNat, Int.reduceLT, Int.reduceLE, Int.reduceAdd, Int.reduceSub, Int.reduceMul, Int.reduceNeg, Int.reduceEq, Nat.reduceMod, forall_eq_or_imp, forall_eq, forall_const, cond_true, cond_false, decide_true, decide_false, true_imp_iff, implies_true, Int.cast_ofNat_Int, forall_eq']
    refine ⟨fun h => ?_, fun h => ⟨by unfold In64; omega, hi2, (), ?_, allC_of hc⟩⟩
    · rw [if_pos h] at hx; rw [hx]
    · rw [if_neg (by rw [h]; simp)] at hx; rw [hx]
  · have hii : i = q.length := by have := of_decide_eq_false hg; omega
    rw [hx, hii, List.drop_length]; rfl
theorem ev_containsF (q : List Int) (hl : q.length ≤ 1000) (vf : FuncId) (caps : List LV) (hok : okF Tryd.prog vf = true) (hc : roishL caps) (b : Int → Bool) (hb : ∀ x, x ∈ q → Ev Tryd.prog vf (.sc (.int .i64 x) :: caps) (.sc (.bool (b x)))) :
    Ev Tryd.prog 26 [intsV q, .fn vf caps] (.sc (.bool (q.any b))) := by
  have h1 := ev_indexF q hl vf caps hok hc b hb
  rw [← fidx_any b q 0 (Int.le_refl _)]
  unfold intsV at *
  refine ev_fn Tryd.func26 comp26 (show 2 ≤ Tryd.f26.ntmps by decide) ?_; unfold cf26 rf26; simp only [↓EVP0, EVQ0, EVQ1, EVQ2, EVQ3, EVQ4, EVA, EVK, EVF, ↓reduceIte, Nat.reduceEqDiff, Nat.reduceAdd, Nat.reduceSub, Nat.reduceMul, Nat.reduceLT, Nat.reduceLeDiff, reduceCtorEq, Int.reduceToNat, Int.reduceLT, Int.reduceLE, Int.reduceAdd, Int.reduceSub, Int.reduceMul, Int.reduceNeg, Int.reduceEq, Nat.reduceMod, forall_eq_or_imp, forall_eq, forall_const, cond_true, cond_false, decide_true, decide_false, true_imp_iff, implies_true, Int.cast_ofNat_Int, forall_eq']
  refine callK_ro h1 ⟨trivial, hc, trivial⟩ ?_
  simp only [↓EVP0, EVQ0, EVQ1, EVQ2, EVQ3, EVQ4, EVA, EVK, EVF, ↓reduceIte, Nat.reduceEqDiff, Nat.reduceAdd, Nat.reduceSub, Nat.reduceMul, Nat.reduceLT, Nat.reduceLeDiff, reduceCtorEq, Int.reduceToNat, Int.reduceLT, Int.reduceLE, Int.reduceAdd, Int.reduceSub, Int.reduceMul, Int.reduceNeg, Int.reduceEq, Nat.reduceMod, forall_eq_or_imp, forall_eq, forall_const, cond_true, cond_false, decide_true, decide_false, true_imp_iff, implies_true, Int.cast_ofNat_Int, forall_eq']
end Go.Proofs.YtchpncmmlhfemaaDoor
namespace Go.Proofs.YtchpncmmlhfemaaDoor
set_option linter.unusedSimpArgs false
set_option linter.unusedVariables false
open Go.RowKit

def lvl (l : List Int) (x : Int) : Int := l.getD x.toNat 0

def rlx (m : List Int) (a b : Int) : List Int :=
  bif decide (0 ≤ lvl m a) && (decide (lvl m b < 0) || decide (lvl m a + 1 < lvl m b)) then m.set b.toNat (lvl m a + 1) else m
def rlxC (m : List Int) (c : Cb) (on : Bool) : List Int := bif on then rlx (rlx m c.a c.b) c.b c.a else m
def rlxP (cs : List Cb) (up : List Bool) (m : List Int) : Nat → List Int
  | 0 => m
  | i + 1 => rlxC (rlxP cs up m i) (cs.getD i default) (up.getD i false)
def rlxN (cs : List Cb) (up : List Bool) (m : List Int) : Nat → List Int
  | 0 => m
  | i + 1 => rlxP cs up (rlxN cs up m i) cs.length
def lvl0 (n : Nat) (r : Int) : List Int := (List.replicate n (-1)).set r.toNat 0

theorem rlx_len (m : List Int) (a b : Int) : (rlx m a b).length = m.length := by
  unfold rlx; cases decide (0 ≤ lvl m a) && (decide (lvl m b < 0) || decide (lvl m a + 1 < lvl m b)) <;> simp
theorem rlxC_len (m : List Int) (c : Cb) (on : Bool) : (rlxC m c on).length = m.length := by
  unfold rlxC; cases on <;> simp [rlx_len]
theorem rlxP_len (cs : List Cb) (up : List Bool) (m : List Int) (i : Nat) : (rlxP cs up m i).length = m.length := by
  induction i with
  | zero => rfl
  | succ i ih => simp only [rlxP, rlxC_len, ih]
theorem rlxN_len (cs : List Cb) (up : List Bool) (m : List Int) (i : Nat) : (rlxN cs up m i).length = m.length := by
  induction i with
  | zero => rfl
  | succ i ih => simp only [rlxN, rlxP_len, ih]
theorem lvl_set {m : List Int} {x y : Int} {n : Nat} (hl : m.length = n) (hx : inN n x) (hy : inN n y) (v : Int) : lvl (m.set y.toNat v) x = if x = y then v else lvl m x := by
  unfold lvl
  unfold inN at hx hy
  by_cases e : x = y
  · subst e
    rw [if_pos rfl, List.getD_eq_getElem?_getD, List.getElem?_set_self (by omega)]; rfl
  · rw [if_neg e, List.getD_eq_getElem?_getD, List.getElem?_set_ne (by omega), ← List.getD_eq_getElem?_getD]

/-- What relaxing keeps: B bounds all levels. -/
structure RInv (n : Nat) (U : List Cb) (r : Int) (B : Nat) (m : List Int) : Prop where
  len : m.length = n
  snd : ∀ x, inN n x → lvl m x = -1 ∨ (0 ≤ lvl m x ∧ lvl m x ≤ B ∧ W U r (lvl m x).toNat x = true)
/-- No level gets worse. -/
def Better (n : Nat) (m m' : List Int) : Prop := ∀ x (k : Int), inN n x → 0 ≤ lvl m x → lvl m x ≤ k → 0 ≤ lvl m' x ∧ lvl m' x ≤ k
theorem Better.refl (n : Nat) (m : List Int) : Better n m m := fun _ _ _ h1 h2 => ⟨h1, h2⟩
theorem Better.trans {n : Nat} {m m' m2 : List Int} (a : Better n m m') (b : Better n m' m2) : Better n m m2 := fun x k hx h1 h2 => b x k hx (a x k hx h1 h2).1 (a x k hx h1 h2).2
theorem rlx_ok {n : Nat} {U : List Cb} {r a b : Int} {B : Nat} {m : List Int} (h : RInv n U r B m) (ha : inN n a) (hb : inN n b) (hn : nbr U a b) :
    RInv n U r (B + 1) (rlx m a b) ∧ Better n m (rlx m a b) ∧ ∀ k : Int, 0 ≤ lvl m a → lvl m a ≤ k → 0 ≤ lvl (rlx m a b) b ∧ lvl (rlx m a b) b ≤ k + 1 := by
  have sa := h.snd a ha
  have sb := h.snd b hb
  unfold rlx
  cases hc : decide (0 ≤ lvl m a) && (decide (lvl m b < 0) || decide (lvl m a + 1 < lvl m b))
  · rw [cond_false]
    refine ⟨⟨h.len, fun x hx => ?_⟩, Better.refl _ _, fun k h1 h2 => ?_⟩
    · rcases h.snd x hx with h1 | ⟨h1, h2, h3⟩
      · exact .inl h1
      · exact .inr ⟨h1, by omega, h3⟩
    · simp at hc; omega
  · rw [cond_true]
    simp at hc
    have hWa : W U r (lvl m a).toNat a = true := by
      rcases sa with h1 | ⟨_, _, h3⟩
      · omega
      · exact h3
    refine ⟨⟨by simp [h.len], fun x hx => ?_⟩, fun x k hx h1 h2 => ?_, fun k h1 h2 => ?_⟩
    · rw [lvl_set h.len hx hb]
      by_cases e : x = b
      · subst e
        rw [if_pos rfl]
        refine .inr ⟨by omega, by omega, ?_⟩
        rw [show (lvl m a + 1).toNat = (lvl m a).toNat + 1 by omega]
        exact W_succ.2 (.inr ⟨a, hn, hWa⟩)
      · rw [if_neg e]
        rcases h.snd x hx with h1 | ⟨h1, h2, h3⟩
        · exact .inl h1
        · exact .inr ⟨h1, by omega, h3⟩
    · rw [lvl_set h.len hx hb]
      by_cases e : x = b
      · subst e; rw [if_pos rfl]; omega
      · rw [if_neg e]; exact ⟨h1, h2⟩
    · rw [lvl_set h.len hb hb, if_pos rfl]; omega
theorem rlxC_ok {n : Nat} {U : List Cb} {r : Int} {B : Nat} {m : List Int} {c : Cb} {on : Bool} (h : RInv n U r B m) (ha : inN n c.a) (hb : inN n c.b) (hn : on = true → c ∈ U) :
    RInv n U r (B + 2) (rlxC m c on) ∧ Better n m (rlxC m c on) ∧ (on = true → ∀ k : Int, (0 ≤ lvl m c.a → lvl m c.a ≤ k → 0 ≤ lvl (rlxC m c on) c.b ∧ lvl (rlxC m c on) c.b ≤ k + 1) ∧
      (0 ≤ lvl m c.b → lvl m c.b ≤ k → 0 ≤ lvl (rlxC m c on) c.a ∧ lvl (rlxC m c on) c.a ≤ k + 1)) := by
  cases on
  · simp only [rlxC, cond_false]
    refine ⟨⟨h.len, fun x hx => ?_⟩, Better.refl _ _, fun h => by simp at h⟩
    rcases h.snd x hx with h1 | ⟨h1, h2, h3⟩
    · exact .inl h1
    · exact .inr ⟨h1, by omega, h3⟩
  · have hc := hn rfl
    obtain ⟨g1, g2, g3⟩ := rlx_ok h ha hb ⟨c, hc, .inl ⟨rfl, rfl⟩⟩
    obtain ⟨k1, k2, k3⟩ := rlx_ok g1 hb ha ⟨c, hc, .inr ⟨rfl, rfl⟩⟩
    refine ⟨k1, g2.trans k2, fun _ k => ⟨fun h1 h2 => ?_, fun h1 h2 => ?_⟩⟩
    · have := g3 k h1 h2
      exact k2 c.b (k + 1) hb this.1 this.2
    · have := g2 c.b k hb h1 h2
      exact k3 k this.1 this.2
theorem rlxP_ok {n : Nat} {cs : List Cb} {up : List Bool} {r : Int} {B : Nat} {m : List Int} (h : RInv n (upU cs up) r B m) (hc : ∀ c, c ∈ cs → inN n c.a ∧ inN n c.b) :
    ∀ i, i ≤ cs.length → RInv n (upU cs up) r (B + 2 * i) (rlxP cs up m i) ∧ Better n m (rlxP cs up m i) ∧
      ∀ a b, nbr (upP cs up i) a b → ∀ k : Int, 0 ≤ lvl m a → lvl m a ≤ k → 0 ≤ lvl (rlxP cs up m i) b ∧ lvl (rlxP cs up m i) b ≤ k + 1 := by
  intro i
  induction i with
  | zero =>
    intro _
    refine ⟨h, Better.refl _ _, fun a b hn => ?_⟩
    obtain ⟨c, hc, _⟩ := hn
    simp [upP] at hc
  | succ i ih =>
    intro hi
    obtain ⟨g1, g2, g3⟩ := ih (by omega)
    have hm : cs.getD i default ∈ cs := by rw [List.getD_eq_getElem?_getD, List.getElem?_eq_getElem (by omega)]; exact List.getElem_mem _
    obtain ⟨ca, cb⟩ := hc _ hm
    have hU : up.getD i false = true → cs.getD i default ∈ upU cs up := fun hu => upP_mem.2 ⟨i, by omega, hu, rfl⟩
    obtain ⟨k1, k2, k3⟩ := rlxC_ok (c := cs.getD i default) (on := up.getD i false) g1 ca cb hU
    refine ⟨?_, g2.trans k2, fun a b hn k h1 h2 => ?_⟩
    · have : B + 2 * (i + 1) = B + 2 * i + 2 := by omega
      rw [this]; exact k1
    · obtain ⟨c, hcm, hab⟩ := hn
      obtain ⟨j, hj, hu, rfl⟩ := upP_mem.1 hcm
      by_cases e : j = i
      · subst e
        have k4 := k3 hu k
        rcases hab with ⟨rfl, rfl⟩ | ⟨rfl, rfl⟩
        · have := g2 _ k ca h1 h2
          exact k4.1 this.1 this.2
        · have := g2 _ k cb h1 h2
          exact k4.2 this.1 this.2
      · have hn' : nbr (upP cs up i) a b := ⟨_, upP_mem.2 ⟨j, by omega, hu, rfl⟩, hab⟩
        have h3 := g3 a b hn' k h1 h2
        have hbn : inN n b := by
          have := hc (cs.getD j default) (by rw [List.getD_eq_getElem?_getD, List.getElem?_eq_getElem (by omega)]; exact List.getElem_mem _)
          rcases hab with ⟨_, rfl⟩ | ⟨_, rfl⟩
          · exact this.2
          · exact this.1
        exact k2 b (k + 1) hbn h3.1 h3.2
theorem rlxN_ok {n : Nat} {cs : List Cb} {up : List Bool} {r : Int} (hr : inN n r) (hc : ∀ c, c ∈ cs → inN n c.a ∧ inN n c.b) :
    ∀ i, RInv n (upU cs up) r (i * (2 * cs.length)) (rlxN cs up (lvl0 n r) i) ∧ ∀ k x, k ≤ i → inN n x → W (upU cs up) r k x = true → 0 ≤ lvl (rlxN cs up (lvl0 n r) i) x ∧ lvl (rlxN cs up (lvl0 n r) i) x ≤ k := by
  intro i
  induction i with
  | zero =>
    have hl : ∀ x, inN n x → lvl (lvl0 n r) x = if x = r then 0 else -1 := by
      intro x hx
      unfold lvl0
      rw [lvl_set (n := n) (by simp) hx hr]
      by_cases e : x = r
      · rw [if_pos e, if_pos e]
      · rw [if_neg e, if_neg e]
        unfold lvl inN at *
        rw [List.getD_eq_getElem?_getD, List.getElem?_replicate, if_pos (by omega)]; rfl
    refine ⟨⟨by simp [rlxN, lvl0], fun x hx => ?_⟩, fun k x hk hx hw => ?_⟩
    · simp only [rlxN]
      rw [hl x hx]
      by_cases e : x = r
      · rw [if_pos e]; exact .inr ⟨by omega, by omega, by simp [W, e]⟩
      · rw [if_neg e]; exact .inl rfl
    · have : k = 0 := by omega
      subst this
      simp only [W, decide_eq_true_eq] at hw
      simp only [rlxN]
      rw [hl x hx, if_pos hw]; omega
  | succ i ih =>
    obtain ⟨g1, g2⟩ := ih
    obtain ⟨k1, k2, k3⟩ := rlxP_ok g1 hc cs.length (Nat.le_refl _)
    refine ⟨?_, fun k x hk hx hw => ?_⟩
    · have : (i + 1) * (2 * cs.length) = i * (2 * cs.length) + 2 * cs.length := Nat.succ_mul _ _
      rw [this]; exact k1
    · simp only [rlxN]
      cases k with
      | zero =>
        have := g2 0 x (by omega) hx hw
        exact k2 x _ hx this.1 this.2
      | succ k =>
        rcases W_succ.1 hw with h1 | ⟨z, hz, h1⟩
        · have := g2 k x (by omega) hx h1
          exact k2 x _ hx this.1 (by omega)
        · have hzn := (nbr_in (upU_in hc) hz).1
          have := g2 k z (by omega) hzn h1
          have := k3 z x hz k this.1 this.2
          exact ⟨this.1, by omega⟩
theorem rlxN_dist {n : Nat} {cs : List Cb} {up : List Bool} {r : Int} (hr : inN n r) (hc : ∀ c, c ∈ cs → inN n c.a ∧ inN n c.b) : rlxN cs up (lvl0 n r) n = distL n (upU cs up) r := by
  obtain ⟨g1, g2⟩ := rlxN_ok (up := up) hr hc n
  refine getD_len (by rw [g1.len, distL_length]) fun i hi => ?_
  have hi' : i < n := by rw [g1.len] at hi; exact hi
  rw [distL_getD hi']
  have hx : inN n (i : Int) := ⟨by omega, by omega⟩
  have hs := g1.snd i hx
  have hl : lvl (rlxN cs up (lvl0 n r) n) (i : Int) = (rlxN cs up (lvl0 n r) n).getD i 0 := rfl
  rw [hl] at hs
  rcases distX_cases (upU_in (up := up) hc) hr (i : Int) with ⟨h1, h2⟩ | ⟨k, h1, h2, h3, h4⟩
  · rw [h1]
    rcases hs with h5 | ⟨_, _, h5⟩
    · exact h5
    · rw [h2] at h5; simp at h5
  · rw [h1]
    have g3 := g2 k i (by omega) hx h3
    rw [hl] at g3
    rcases hs with h5 | ⟨h5, _, h6⟩
    · omega
    · by_cases e : ((rlxN cs up (lvl0 n r) n).getD i 0).toNat < k
      · rw [h4 _ e] at h6; simp at h6
      · omega
end Go.Proofs.YtchpncmmlhfemaaDoor
namespace Go.Proofs.YtchpncmmlhfemaaDoor
set_option linter.unusedSimpArgs false
set_option linter.unusedVariables false
open Go.RowKit

theorem arm14 (n : Int) (M : List Int) (a b : Int) (hM : (M.length : Int) = n) (ha : 0 ≤ a ∧ a < n) (hb : 0 ≤ b ∧ b < n) (hlv : In64 (M.getD a.toNat 0 + 1)) {K1 K2 : Prop}
    (h1 : rlx M a b = M.set b.toNat (M.getD a.toNat 0 + 1) → K1) (h2 : rlx M a b = M → K2) :
    (0 ≤ a ∧ a < n) ∧ a.toNat < M.length ∧ (decide (0 ≤ M.getD a.toNat 0) = true → 0 ≤ b ∧ b < n) ∧ (decide (0 ≤ M.getD a.toNat 0) = true → b.toNat < M.length) ∧
      ((decide (0 ≤ M.getD a.toNat 0) && !decide (M.getD b.toNat 0 < 0)) = true → 0 ≤ a ∧ a < n) ∧ ((decide (0 ≤ M.getD a.toNat 0) && !decide (M.getD b.toNat 0 < 0)) = true → a.toNat < M.length) ∧
      ((decide (0 ≤ M.getD a.toNat 0) && !decide (M.getD b.toNat 0 < 0)) = true → In64 (M.getD a.toNat 0 + 1)) ∧
      ((decide (0 ≤ M.getD a.toNat 0) && !decide (M.getD b.toNat 0 < 0)) = true → 0 ≤ b ∧ b < n) ∧ ((decide (0 ≤ M.getD a.toNat 0) && !decide (M.getD b.toNat 0 < 0)) = true → b.toNat < M.length) ∧
      Br (bif decide (0 ≤ M.getD a.toNat 0) then bif decide (M.getD b.toNat 0 < 0) then true else decide (M.getD a.toNat 0 + 1 < M.getD b.toNat 0) else false)
        ((0 ≤ a ∧ a < n) ∧ a.toNat < M.length ∧ In64 (M.getD a.toNat 0 + 1) ∧ (0 ≤ b ∧ b < n) ∧ b.toNat < M.length ∧ K1) K2 := by
  have l1 : a.toNat < M.length := by omega
  have l2 : b.toNat < M.length := by omega
  refine ⟨ha, l1, fun _ => hb, fun _ => l2, fun _ => ha, fun _ => l1, fun _ => hlv, fun _ => hb, fun _ => l2, fun hg => ⟨ha, l1, hlv, hb, l2, h1 ?_⟩, fun hg => h2 ?_⟩
  · unfold rlx
    rw [show (decide (0 ≤ lvl M a) && (decide (lvl M b < 0) || decide (lvl M a + 1 < lvl M b))) = true by
      revert hg; show (bif decide (0 ≤ lvl M a) then bif decide (lvl M b < 0) then true else decide (lvl M a + 1 < lvl M b) else false) = true → _
      cases decide (0 ≤ lvl M a) <;> cases decide (lvl M b < 0) <;> simp]
    rfl
  · unfold rlx
    rw [show (decide (0 ≤ lvl M a) && (decide (lvl M b < 0) || decide (lvl M a + 1 < lvl M b))) = false by
      revert hg; show (bif decide (0 ≤ lvl M a) then bif decide (lvl M b < 0) then true else decide (lvl M a + 1 < lvl M b) else false) = false → _
      cases decide (0 ≤ lvl M a) <;> cases decide (lvl M b < 0) <;> simp]
    rfl
set_option maxRecDepth 20000 in
theorem ev_rdist (p : Pl) (up : List Bool) (r : Int) (hn : p.ns.length ≤ 16) (hcs : p.cs.length ≤ 32) (hC : ∀ c, c ∈ p.cs → inN p.ns.length c.a ∧ inN p.ns.length c.b) (hr : inN p.ns.length r) (hup : up.length = p.cs.length) :
    Ev Tryd.prog 25 [plV p, .sc (.int .i64 r), boolsV up] (intsV (distL p.ns.length (upU p.cs up) r)) := by
  unfold plV boolsV intsV
  refine ev_fn Tryd.func25 comp25 (show 3 ≤ Tryd.f25.ntmps by decide) ?_; unfold cf25 rf25; simp only [↓EVP0, EVQ0, EVQ1, EVQ2, EVQ3, EVQ4, EVA, EVK, EVF, ↓reduceIte, Nat.reduceEqDiff, Nat.reduceAdd, Nat.reduceSub, Nat.reduceMul, Nat.reduceLT, Nat.reduceLeDiff, reduceCtorEq, Int.reduceToNat, Int.reduceLT, Int.reduceLE, Int.reduceAdd, Int.reduceSub, Int.reduceMul, Int.reduceNeg, Int.reduceEq, Nat.reduceMod, forall_eq_or_imp, forall_eq, forall_const, cond_true, cond_false, decide_true, decide_false, true_imp_iff, implies_true, Int.cast_ofNat_Int, forall_eq']
  intro _
  refine ⟨by unfold mksC; omega, ?_⟩
  refine lwp_for (α := Unit) p.ns.length (fun i _ => True) (fun i _ => [(1, .sc (.int .i64 r)), (2, .rsl 1 up.length (boolsF up)), (3, .ptr 0 0 0 0 0), (7, .sl 1 0 1 0 p.ns.length), (8, .sc (.int .i64 i))])
    (fun i _ => [(0, .box [.rsl 3 p.ns.length (ndsF p.ns), .rsl 6 p.cs.length (cbsF p.cs)]), (0, .ints (fillM p.ns.length i))]) () trivial ?_ (fun _ _ => Nat.zero_le _) ?_
  · simp only [↓EVP0, EVQ0, EVQ1, EVQ2, EVQ3, EVQ4, EVA, EVK, EVF, ↓reduceIte, Nat.reduceEqDiff, Nat.reduceAdd, Nat.reduceSub, Nat.reduceMul, Nat.reduceLT, Nat.reduceLeDiff, reduceCtorEq, Int.reduceToNat, Int.reduceLT, Int.reduceLE, Int.reduceAdd, Int.reduceSub, Int.reduceMul, Int.reduceNeg, Int.reduceEq, Nat.reduceMod, forall_eq_or_imp, forall_eq, forall_const, cond_true, cond_false, decide_true, decide_false, true_imp_iff, implies_true, Int.cast_ofNat_Int, forall_eq']
    simp [fillM]
  intro i _ hi _
  unfold lb25_2
  simp only [↓EVP0, EVQ0, EVQ1, EVQ2, EVQ3, EVQ4, EVA, EVK, EVF, ↓reduceIte, Nat.reduceEqDiff, Nat.reduceAdd, Nat.reduceSub, Nat.reduceMul, Nat.reduceLT, Nat.reduceLeDiff, reduceCtorEq, Int.reduceToNat, Int.reduceLT, Int.reduceLE, Int.reduceAdd, Int.reduceSub, Int.reduceMul, Int.reduceNeg, Int.reduceEq, Nat.reduceMod, forall_eq_or_imp, forall_eq, forall_const, cond_true, cond_false, decide_true, decide_false, true_imp_iff, implies_true, Int.cast_ofNat_Int, forall_eq']
  intro _
  refine ⟨fun hg => ?_, fun hg => ?_⟩
  · have hi2 : i < p.ns.length := by simpa using hg
    refine ⟨⟨by omega, by omega⟩, by rw [fillM_len hi]; omega, by unfold In64; omega, hi2, (), fillM_set hi2⟩
  have hii : i = p.ns.length := by simp at hg; omega
  subst hii
  have hr' := hr
  unfold inN at hr'
  rw [fillM_end]
  refine ⟨⟨by omega, by omega⟩, by simp; omega, ?_⟩
  refine lwp_for (α := Unit) p.ns.length (fun i _ => True) (fun i _ => [(2, .rsl 1 up.length (boolsF up)), (3, .ptr 0 0 0 0 0), (7, .sl 1 0 1 0 p.ns.length), (9, .sc (.int .i64 i))])
    (fun i _ => [(0, .box [.rsl 3 p.ns.length (ndsF p.ns), .rsl 6 p.cs.length (cbsF p.cs)]), (0, .ints (rlxN p.cs up (lvl0 p.ns.length r) i))]) () trivial ?_ (fun _ _ => Nat.zero_le _) ?_
  · simp only [↓EVP0, EVQ0, EVQ1, EVQ2, EVQ3, EVQ4, EVA, EVK, EVF, ↓reduceIte, Nat.reduceEqDiff, Nat.reduceAdd, Nat.reduceSub, Nat.reduceMul, Nat.reduceLT, Nat.reduceLeDiff, reduceCtorEq, Int.reduceToNat, Int.reduceLT, Int.reduceLE, Int.reduceAdd, Int.reduceSub, Int.reduceMul, Int.reduceNeg, Int.reduceEq, Nat.reduceMod, forall_eq_or_imp, forall_eq, forall_const, cond_true, cond_false, decide_true, decide_false, true_imp_iff, implies_true, Int.cast_ofNat_Int, forall_eq']
    rfl
  intro i _ hi _
  have hN := (rlxN_ok (up := up) hr hC i).1
  have hfin : i = p.ns.length → rlxN p.cs up (lvl0 p.ns.length r) i = distL p.ns.length (upU p.cs up) r := fun e => by rw [e]; exact rlxN_dist hr hC
  have hnx : rlxN p.cs up (lvl0 p.ns.length r) (i + 1) = rlxP p.cs up (rlxN p.cs up (lvl0 p.ns.length r) i) p.cs.length := rfl
  rw [hnx]
  generalize rlxN p.cs up (lvl0 p.ns.length r) i = M at hN hfin ⊢
  unfold lb25_1
  simp only [↓EVP0, EVQ0, EVQ1, EVQ2, EVQ3, EVQ4, EVA, EVK, EVF, ↓reduceIte, Nat.reduceEqDiff, Nat.reduceAdd, Nat.reduceSub, Nat.reduceMul, Nat.reduceLT, Nat.reduceLeDiff, reduceCtorEq, Int.reduceToNat, Int.reduceLT, Int.reduceLE, Int.reduceAdd, Int.reduceSub, Int.reduceMul, Int.reduceNeg, Int.reduceEq, Nat.reduceMod, forall_eq_or_imp, forall_eq, forall_const, cond_true, cond_false, decide_true, decide_false, true_imp_iff, implies_true, Int.cast_ofNat_Int, forall_eq']
  intro _
  refine ⟨fun hg => ?_, fun hg => ?_⟩
  · have hi2 : i < p.ns.length := by simpa using hg
    refine lwp_for (α := Unit) p.cs.length (fun j _ => True) (fun j _ => [(2, .rsl 1 up.length (boolsF up)), (3, .ptr 0 0 0 0 0), (7, .sl 1 0 1 0 p.ns.length), (9, .sc (.int .i64 i)), (10, .sc (.int .i64 j))])
      (fun j _ => [(0, .box [.rsl 3 p.ns.length (ndsF p.ns), .rsl 6 p.cs.length (cbsF p.cs)]), (0, .ints (rlxP p.cs up M j))]) () trivial ?_ (fun _ _ => Nat.zero_le _) ?_
    · simp only [↓EVP0, EVQ0, EVQ1, EVQ2, EVQ3, EVQ4, EVA, EVK, EVF, ↓reduceIte, Nat.reduceEqDiff, Nat.reduceAdd, Nat.reduceSub, Nat.reduceMul, Nat.reduceLT, Nat.reduceLeDiff, reduceCtorEq, Int.reduceToNat, Int.reduceLT, Int.reduceLE, Int.reduceAdd, Int.reduceSub, Int.reduceMul, Int.reduceNeg, Int.reduceEq, Nat.reduceMod, forall_eq_or_imp, forall_eq, forall_const, cond_true, cond_false, decide_true, decide_false, true_imp_iff, implies_true, Int.cast_ofNat_Int, forall_eq']
      rfl
    intro j _ hj _
    have hP := (rlxP_ok hN hC j hj).1
    have hnx : rlxP p.cs up M (j + 1) = rlxC (rlxP p.cs up M j) (p.cs.getD j default) (up.getD j false) := rfl
    have hfj : j = p.cs.length → rlxP p.cs up M j = rlxP p.cs up M p.cs.length := fun e => by rw [e]
    rw [hnx]
    generalize rlxP p.cs up M j = M1 at hP hfj ⊢
    unfold lb25_0
    simp only [↓EVP0, EVQ0, EVQ1, EVQ2, EVQ3, EVQ4, EVA, EVK, EVF, ↓reduceIte, Nat.reduceEqDiff, Nat.reduceAdd, Nat.reduceSub, Nat.reduceMul, Nat.reduceLT, Nat.reduceLeDiff, reduceCtorEq, Int.reduceToNat, Int.reduceLT, Int.reduceLE, Int.reduceAdd, Int.reduceSub, Int.reduceMul, Int.reduceNeg, Int.reduceEq, Nat.reduceMod, forall_eq_or_imp, forall_eq, forall_const, cond_true, cond_false, decide_true, decide_false, true_imp_iff, implies_true, Int.cast_ofNat_Int, forall_eq']
    intro _
    refine ⟨fun hg => ?_, fun hg => ?_⟩
    · have hj2 : j < p.cs.length := by simpa using hg
      have hcm : (p.cs.getD j default) ∈ p.cs := by rw [List.getD_eq_getElem?_getD, List.getElem?_eq_getElem hj2]; exact List.getElem_mem hj2
      obtain ⟨hca, hcb⟩ := hC _ hcm
      have hU : up.getD j false = true → p.cs.getD j default ∈ upU p.cs up := fun hu => upP_mem.2 ⟨j, by omega, hu, rfl⟩
      refine ⟨⟨by omega, by omega⟩, fun h => ⟨by unfold In64; omega, hj2, (), ?_⟩, fun h => ?_⟩
      · have : up.getD j false = false := by simpa using h
        rw [this]; rfl
      have hup : up.getD j false = true := by simpa using h
      have hcU := hU hup
      rw [hup]
      generalize hcc : p.cs.getD j default = c at hca hcb hcU ⊢
      have hml := hP.len
      have hle : i * (2 * p.cs.length) ≤ 16 * 64 := Nat.mul_le_mul (by omega) (by omega)
      have hR2 := (rlx_ok hP hca hcb ⟨c, hcU, .inl ⟨rfl, rfl⟩⟩).1
      have hlv1 : In64 (M1.getD c.a.toNat 0 + 1) := by
        show In64 (lvl M1 c.a + 1)
        rcases hP.snd c.a hca with h1 | ⟨h1, h2, _⟩ <;> unfold In64 <;> omega
      have hj64 : In64 ((j : Int) + 1) := by unfold In64; omega
      have sec : ∀ M2, rlx M1 c.a c.b = M2 → In64 (M2.getD c.b.toNat 0 + 1) := by
        intro M2 e
        rw [e] at hR2
        show In64 (lvl M2 c.b + 1)
        rcases hR2.snd c.b hcb with h1 | ⟨h1, h2, _⟩ <;> unfold In64 <;> omega
      have hlen2 : (rlx M1 c.a c.b).length = p.ns.length := by rw [rlx_len]; exact hml
      have hC2 : rlxC M1 c true = rlx (rlx M1 c.a c.b) c.b c.a := rfl
      rw [hC2]
      unfold inN at hca hcb
      refine ⟨⟨by omega, by omega⟩, ⟨by omega, by omega⟩, arm14 _ M1 c.a c.b (by omega) hca hcb hlv1 (fun e => ?_) (fun e => ?_)⟩
      · rw [e] at hlen2 ⊢
        exact arm14 _ _ c.b c.a (by omega) hcb hca (sec _ e) (fun e2 => ⟨hj64, hj2, (), e2.symm⟩) (fun e2 => ⟨hj64, hj2, (), e2.symm⟩)
      · rw [e]
        exact arm14 _ _ c.b c.a (by omega) hcb hca (sec _ e) (fun e2 => ⟨hj64, hj2, (), e2.symm⟩) (fun e2 => ⟨hj64, hj2, (), e2.symm⟩)
    · have hj2 : j = p.cs.length := by simp at hg; omega
      exact ⟨by unfold In64; omega, hi2, (), hfj hj2⟩
  · have hii : i = p.ns.length := by simp at hg; omega
    have hM := hfin hii
    refine ⟨by rw [distL_length], by rw [hN.len]; exact Nat.le_refl _, fun x hx => by rw [hM]⟩
end Go.Proofs.YtchpncmmlhfemaaDoor
namespace Go.Proofs.YtchpncmmlhfemaaDoor
set_option linter.unusedSimpArgs false
set_option linter.unusedVariables false
open Go.RowKit
set_option maxRecDepth 20000

theorem ev_rparts (p : Pl) (hv : validE p = 0) (up : List Bool) (hup : up.length = p.cs.length) : Ev Tryd.prog 23 [plV p, boolsV up] (rowsV (goP p.ns.length (upU p.cs up) p.ns.length).2) := by
  unfold plV boolsV rowsV at *
  refine ev_fn Tryd.func23 comp23 (show 2 ≤ Tryd.f23.ntmps by decide) ?_; unfold cf23 rf23; simp only [↓EVP0, EVQ0, EVQ1, EVQ2, EVQ3, EVQ4, EVA, EVK, EVF, ↓reduceIte, Nat.reduceEqDiff, Nat.reduceAdd, Nat.reduceSub, Nat.reduceMul, Nat.reduceLT, Nat.reduceLeDiff, reduceCtorEq, Int.reduceToNat, Int.reduceLT, Int.reduceLE, Int.reduceAdd, Int.reduceSub, Int.reduceMul, Int.reduceNeg, Int.reduceEq, Nat.reduceMod, forall_eq_or_imp, forall_eq, forall_const, cond_true, cond_false, decide_true, decide_false, true_imp_iff, implies_true, Int.cast_ofNat_Int, forall_eq']
  have hV := valid_of hv
  have h16 := hV.n16
  intro _
  refine ⟨⟨by omega, by omega, by omega, by omega⟩, ?_⟩
  refine lwp_for (α := Nat × Nat) p.ns.length (fun _ _ => True) (fun f x => [(1, .rsl 1 up.length (boolsF up)), (2, .ptr 0 0 0 0 0), (5, if f = 0 then .nsl else .sl 4 x.1 1 0 (goP p.ns.length (upU p.cs up) f).2.length), (6, .sl 1 0 1 0 p.ns.length), (7, .sc (.int .i64 f))])
    (fun f x => if f = 0 then [(0, .box [.rsl 3 p.ns.length (ndsF p.ns), .rsl 6 p.cs.length (cbsF p.cs)]), (0, .bools (List.replicate p.ns.length false))] else
      [(0, .box [.rsl 3 p.ns.length (ndsF p.ns), .rsl 6 p.cs.length (cbsF p.cs)]), (0, .bools (goP p.ns.length (upU p.cs up) f).1), (0, .dead), (x.2, .dead), (x.1, .row 1 (goP p.ns.length (upU p.cs up) f).2.length (rowsF (goP p.ns.length (upU p.cs up) f).2))]) (0, 0) trivial ?_ (fun _ _ => Nat.zero_le _) ?_
  · simp only [if_true]
    simp only [↓EVP0, EVQ0, EVQ1, EVQ2, EVQ3, EVQ4, EVA, EVK, EVF, ↓reduceIte, Nat.reduceEqDiff, Nat.reduceAdd, Nat.reduceSub, Nat.reduceMul, Nat.reduceLT, Nat.reduceLeDiff, reduceCtorEq, Int.reduceToNat, Int.reduceLT, Int.reduceLE, Int.reduceAdd, Int.reduceSub, Int.reduceMul, Int.reduceNeg, Int.reduceEq, Nat.reduceMod, forall_eq_or_imp, forall_eq, forall_const, cond_true, cond_false, decide_true, decide_false, true_imp_iff, implies_true, Int.cast_ofNat_Int, forall_eq']
  rintro f ⟨v, dv⟩ hf _
  cases f with
  | zero =>
    simp only [if_true]
    unfold lb23_1
    simp only [↓EVP0, EVQ0, EVQ1, EVQ2, EVQ3, EVQ4, EVA, EVK, EVF, ↓reduceIte, Nat.reduceEqDiff, Nat.reduceAdd, Nat.reduceSub, Nat.reduceMul, Nat.reduceLT, Nat.reduceLeDiff, reduceCtorEq, Int.reduceToNat, Int.reduceLT, Int.reduceLE, Int.reduceAdd, Int.reduceSub, Int.reduceMul, Int.reduceNeg, Int.reduceEq, Nat.reduceMod, forall_eq_or_imp, forall_eq, forall_const, cond_true, cond_false, decide_true, decide_false, true_imp_iff, implies_true, Int.cast_ofNat_Int, forall_eq']
    intro _
    refine ⟨fun hg => ?_, fun hg => ?_⟩
    · have hf2 : 0 < p.ns.length := by have := of_decide_eq_true hg; omega
      have hin : inN p.ns.length 0 := ⟨by omega, by omega⟩
      refine ⟨by omega, by simp; omega, fun h => ?_, fun h => ?_⟩
      · rw [List.getD_eq_getElem?_getD, List.getElem?_replicate] at h
        split at h <;> simp at h
      have hd := ev_rdist p up 0 hV.n16 hV.c32 hV.cab hin hup
      unfold plV boolsV intsV at hd
      refine callK_ro (hd) ?_ ?_
      · simp only [↓EVP0, EVQ0, EVQ1, EVQ2, EVQ3, EVQ4, EVA, EVK, EVF, ↓reduceIte, Nat.reduceEqDiff, Nat.reduceAdd, Nat.reduceSub, Nat.reduceMul, Nat.reduceLT, Nat.reduceLeDiff, reduceCtorEq, Int.reduceToNat, Int.reduceLT, Int.reduceLE, Int.reduceAdd, Int.reduceSub, Int.reduceMul, Int.reduceNeg, Int.reduceEq, Nat.reduceMod, forall_eq_or_imp, forall_eq, forall_const, cond_true, cond_false, decide_true, decide_false, true_imp_iff, implies_true, Int.cast_ofNat_Int, forall_eq']
      simp only [↓EVP0, EVQ0, EVQ1, EVQ2, EVQ3, EVQ4, EVA, EVK, EVF, ↓reduceIte, Nat.reduceEqDiff, Nat.reduceAdd, Nat.reduceSub, Nat.reduceMul, Nat.reduceLT, Nat.reduceLeDiff, reduceCtorEq, Int.reduceToNat, Int.reduceLT, Int.reduceLE, Int.reduceAdd, Int.reduceSub, Int.reduceMul, Int.reduceNeg, Int.reduceEq, Nat.reduceMod, forall_eq_or_imp, forall_eq, forall_const, cond_true, cond_false, decide_true, decide_false, true_imp_iff, implies_true, Int.cast_ofNat_Int, forall_eq']
      refine lwp_frzO [2, 3] 8 (.rsl 1 (parT p.ns.length (upU p.cs up) 0 p.ns.length).length (intsF (parT p.ns.length (upU p.cs up) 0 p.ns.length))) ?_
      simp only [↓EVP0, EVQ0, EVQ1, EVQ2, EVQ3, EVQ4, EVA, EVK, EVF, ↓reduceIte, Nat.reduceEqDiff, Nat.reduceAdd, Nat.reduceSub, Nat.reduceMul, Nat.reduceLT, Nat.reduceLeDiff, reduceCtorEq, Int.reduceToNat, Int.reduceLT, Int.reduceLE, Int.reduceAdd, Int.reduceSub, Int.reduceMul, Int.reduceNeg, Int.reduceEq, Nat.reduceMod, forall_eq_or_imp, forall_eq, forall_const, cond_true, cond_false, decide_true, decide_false, true_imp_iff, implies_true, Int.cast_ofNat_Int, forall_eq']
      have hdl : (distL p.ns.length (upU p.cs up) 0).length = p.ns.length := by simp [distL]
      have hdg : ∀ k : Nat, k < p.ns.length → (distL p.ns.length (upU p.cs up) 0).getD k 0 = distX p.ns.length (upU p.cs up) 0 (k : Int) := by
        intro k hk
        rw [List.getD_eq_getElem?_getD, distL, List.getElem?_map, List.getElem?_range hk]; rfl
      rw [hdl]
      refine lwp_for (α := Unit) p.ns.length (fun _ _ => True) (fun k _ => [(1, .rsl 1 up.length (boolsF up)), (2, .ptr 0 0 0 0 0), (5, .nsl), (6, .sl 1 0 1 0 p.ns.length), (7, .sc (.int .i64 0)), (8, if parT p.ns.length (upU p.cs up) 0 k = [] then .nsl else .sl 3 ((parT p.ns.length (upU p.cs up) 0 k).length - 1) 1 0 (parT p.ns.length (upU p.cs up) 0 k).length), (9, .rsl 1 p.ns.length (intsF (distL p.ns.length (upU p.cs up) 0))), (10, .sc (.int .i64 k))])
        (fun k _ => if parT p.ns.length (upU p.cs up) 0 k = [] then [(0, .box [.rsl 3 p.ns.length (ndsF p.ns), .rsl 6 p.cs.length (cbsF p.cs)]), (0, .bools (seeT (List.replicate p.ns.length false) p.ns.length (upU p.cs up) 0 k))] else [(0, .box [.rsl 3 p.ns.length (ndsF p.ns), .rsl 6 p.cs.length (cbsF p.cs)]), (0, .bools (seeT (List.replicate p.ns.length false) p.ns.length (upU p.cs up) 0 k)), (0, .ints [(parT p.ns.length (upU p.cs up) 0 k).getD 0 0]), ((parT p.ns.length (upU p.cs up) 0 k).length - 1, .ints (parT p.ns.length (upU p.cs up) 0 k))]) () trivial ?_ (fun _ _ => Nat.zero_le _) ?_
      · rw [show parT p.ns.length (upU p.cs up) 0 0 = [] from rfl, seeT_zero]
        simp only [if_true]
        simp only [↓EVP0, EVQ0, EVQ1, EVQ2, EVQ3, EVQ4, EVA, EVK, EVF, ↓reduceIte, Nat.reduceEqDiff, Nat.reduceAdd, Nat.reduceSub, Nat.reduceMul, Nat.reduceLT, Nat.reduceLeDiff, reduceCtorEq, Int.reduceToNat, Int.reduceLT, Int.reduceLE, Int.reduceAdd, Int.reduceSub, Int.reduceMul, Int.reduceNeg, Int.reduceEq, Nat.reduceMod, forall_eq_or_imp, forall_eq, forall_const, cond_true, cond_false, decide_true, decide_false, true_imp_iff, implies_true, Int.cast_ofNat_Int, forall_eq']
      intro k _ hk _
      have hsl : (seeT (List.replicate p.ns.length false) p.ns.length (upU p.cs up) 0 k).length = p.ns.length := by rw [seeT_len]; simp
      have hps : parT p.ns.length (upU p.cs up) 0 (k + 1) = parT p.ns.length (upU p.cs up) 0 k ++ if 0 ≤ distX p.ns.length (upU p.cs up) 0 (k : Int) then [(k : Int)] else [] := parT_succ p.ns.length (upU p.cs up) 0 k
      have hpn : parT p.ns.length (upU p.cs up) 0 p.ns.length ≠ [] := parT_ne (upU_in hV.cab) (show inN p.ns.length ((0 : Nat) : Int) from hin)
      have hss : k < p.ns.length → 0 ≤ distX p.ns.length (upU p.cs up) 0 (k : Int) → (seeT (List.replicate p.ns.length false) p.ns.length (upU p.cs up) 0 (k + 1)) = (seeT (List.replicate p.ns.length false) p.ns.length (upU p.cs up) 0 k).set k true := fun h1 h2 => seeT_succ (by simp; omega) h2
      have hs0 : ¬ 0 ≤ distX p.ns.length (upU p.cs up) 0 (k : Int) → (seeT (List.replicate p.ns.length false) p.ns.length (upU p.cs up) 0 (k + 1)) = (seeT (List.replicate p.ns.length false) p.ns.length (upU p.cs up) 0 k) := fun h2 => seeT_skip h2
      by_cases hq : parT p.ns.length (upU p.cs up) 0 k = []
      · by_cases hdk : 0 ≤ distX p.ns.length (upU p.cs up) 0 (k : Int)
        · have hp1 : parT p.ns.length (upU p.cs up) 0 (k + 1) = [(k : Int)] := by rw [hps, if_pos hdk]; rw [hq]; rfl
          simp only [hp1, hq, List.append_eq_nil_iff, List.cons_ne_nil, and_false, if_true, if_false]
          unfold lb23_0
          simp only [↓EVP0, EVQ0, EVQ1, EVQ2, EVQ3, EVQ4, EVA, EVK, EVF, ↓reduceIte, Nat.reduceEqDiff, Nat.reduceAdd, Nat.reduceSub, Nat.reduceMul, Nat.reduceLT, Nat.reduceLeDiff, reduceCtorEq, Int.reduceToNat, Int.reduceLT, Int.reduceLE, Int.reduceAdd, Int.reduceSub, Int.reduceMul, Int.reduceNeg, Int.reduceEq, Nat.reduceMod, forall_eq_or_imp, forall_eq, forall_const, cond_true, cond_false, decide_true, decide_false, true_imp_iff, implies_true, Int.cast_ofNat_Int, forall_eq']
          intro _
          refine ⟨fun hg => ?_, fun hg => ?_⟩
          · have hk2 : k < p.ns.length := by have := of_decide_eq_true hg; omega
            rw [hdg k hk2, decide_eq_true hdk]
            have hsk := hss hk2 hdk
            rw [hsk]
            refine ⟨⟨by omega, by omega⟩, fun _ => ?_, fun h => by simp at h⟩
            exact ⟨by unfold appRoom; omega, ⟨by omega, by omega⟩, by omega, by unfold In64; omega, hk2, (), rfl⟩
          · have hkk : k = p.ns.length := by have := of_decide_eq_false hg; omega
            rw [hkk] at hq; exact absurd hq hpn
        · have hp1 : parT p.ns.length (upU p.cs up) 0 (k + 1) = parT p.ns.length (upU p.cs up) 0 k := by rw [hps, if_neg hdk]; simp
          simp only [hp1, hq, List.append_eq_nil_iff, List.cons_ne_nil, and_false, if_true, if_false]
          unfold lb23_0
          simp only [↓EVP0, EVQ0, EVQ1, EVQ2, EVQ3, EVQ4, EVA, EVK, EVF, ↓reduceIte, Nat.reduceEqDiff, Nat.reduceAdd, Nat.reduceSub, Nat.reduceMul, Nat.reduceLT, Nat.reduceLeDiff, reduceCtorEq, Int.reduceToNat, Int.reduceLT, Int.reduceLE, Int.reduceAdd, Int.reduceSub, Int.reduceMul, Int.reduceNeg, Int.reduceEq, Nat.reduceMod, forall_eq_or_imp, forall_eq, forall_const, cond_true, cond_false, decide_true, decide_false, true_imp_iff, implies_true, Int.cast_ofNat_Int, forall_eq']
          intro _
          refine ⟨fun hg => ?_, fun hg => ?_⟩
          · have hk2 : k < p.ns.length := by have := of_decide_eq_true hg; omega
            rw [hdg k hk2, decide_eq_false hdk]
            rw [hs0 hdk]
            refine ⟨⟨by omega, by omega⟩, fun h => by simp at h, fun _ => ?_⟩
            exact ⟨by unfold In64; omega, hk2, (), rfl⟩
          · have hkk : k = p.ns.length := by have := of_decide_eq_false hg; omega
            rw [hkk] at hq; exact absurd hq hpn
      -- behind the first node of the part
      · by_cases hdk : 0 ≤ distX p.ns.length (upU p.cs up) 0 (k : Int)
        · have hp1 : parT p.ns.length (upU p.cs up) 0 (k + 1) = parT p.ns.length (upU p.cs up) 0 k ++ [(k : Int)] := by rw [hps, if_pos hdk]
          simp only [hp1, hq, List.append_eq_nil_iff, List.cons_ne_nil, and_false, if_true, if_false]
          unfold lb23_0
          simp only [↓EVP0, EVQ0, EVQ1, EVQ2, EVQ3, EVQ4, EVA, EVK, EVF, ↓reduceIte, Nat.reduceEqDiff, Nat.reduceAdd, Nat.reduceSub, Nat.reduceMul, Nat.reduceLT, Nat.reduceLeDiff, reduceCtorEq, Int.reduceToNat, Int.reduceLT, Int.reduceLE, Int.reduceAdd, Int.reduceSub, Int.reduceMul, Int.reduceNeg, Int.reduceEq, Nat.reduceMod, forall_eq_or_imp, forall_eq, forall_const, cond_true, cond_false, decide_true, decide_false, true_imp_iff, implies_true, Int.cast_ofNat_Int, forall_eq']
          intro _
          refine ⟨fun hg => ?_, fun hg => ?_⟩
          · have hk2 : k < p.ns.length := by have := of_decide_eq_true hg; omega
            rw [hdg k hk2, decide_eq_true hdk]
            have hsk := hss hk2 hdk
            rw [hsk]
            refine ⟨⟨by omega, by omega⟩, fun _ => ?_, fun h => by simp at h⟩
            have hpl : 0 < (parT p.ns.length (upU p.cs up) 0 k).length := List.length_pos_iff.2 hq
            have hple : (parT p.ns.length (upU p.cs up) 0 k).length ≤ k := parT_len _ _ _ _
            have hl1 : (parT p.ns.length (upU p.cs up) 0 k ++ [(k : Int)]).length = (parT p.ns.length (upU p.cs up) 0 k).length + 1 := by simp
            rw [show (parT p.ns.length (upU p.cs up) 0 k).length - 1 + 1 = (parT p.ns.length (upU p.cs up) 0 k).length + 1 - 1 by omega, List.take_of_length_le (Nat.le_refl _), hl1]
            exact ⟨Nat.le_refl _, by unfold appRoom; omega, ⟨by omega, by omega⟩, by omega, by unfold In64; omega, hk2, (), rfl, rfl, by rw [getD_app0 hpl], rfl, rfl⟩
          · have hkk : k = p.ns.length := by have := of_decide_eq_false hg; omega
            rw [hkk] at *
            have hgs := goP_step (n := p.ns.length) (U := upU p.cs up) (f := 0) (by show ¬ (List.replicate p.ns.length false).getD 0 false = true; rw [h]; simp)
            have hgr := goP_rows p.ns.length (upU p.cs up) 0
            have e1 : goP p.ns.length (upU p.cs up) 1 = (seeT (List.replicate p.ns.length false) p.ns.length (upU p.cs up) 0 p.ns.length, [parT p.ns.length (upU p.cs up) 0 p.ns.length]) := hgs
            refine ⟨⟨⟨rfl, Nat.le_refl _, fun _ _ => rfl⟩, .inr trivial⟩, rowsF [parT p.ns.length (upU p.cs up) 0 p.ns.length], fun i hi => by (obtain rfl : i = 0 := (by omega)); rfl, by unfold appRoom; omega, by unfold In64; omega, hf2, (0, (parT p.ns.length (upU p.cs up) 0 p.ns.length).length - 1), ?_⟩
            rw [e1]
            exact ⟨rfl, rfl, rfl, ⟨rfl, congrArg (LO.row 1 1) (funext fun i => by rw [if_neg (Nat.not_lt_zero _)]; rfl)⟩, fun i hi => ⟨trivial, trivial⟩⟩
        · have hp1 : parT p.ns.length (upU p.cs up) 0 (k + 1) = parT p.ns.length (upU p.cs up) 0 k := by rw [hps, if_neg hdk]; simp
          simp only [hp1, hq, List.append_eq_nil_iff, List.cons_ne_nil, and_false, if_true, if_false]
          unfold lb23_0
          simp only [↓EVP0, EVQ0, EVQ1, EVQ2, EVQ3, EVQ4, EVA, EVK, EVF, ↓reduceIte, Nat.reduceEqDiff, Nat.reduceAdd, Nat.reduceSub, Nat.reduceMul, Nat.reduceLT, Nat.reduceLeDiff, reduceCtorEq, Int.reduceToNat, Int.reduceLT, Int.reduceLE, Int.reduceAdd, Int.reduceSub, Int.reduceMul, Int.reduceNeg, Int.reduceEq, Nat.reduceMod, forall_eq_or_imp, forall_eq, forall_const, cond_true, cond_false, decide_true, decide_false, true_imp_iff, implies_true, Int.cast_ofNat_Int, forall_eq']
          intro _
          refine ⟨fun hg => ?_, fun hg => ?_⟩
          · have hk2 : k < p.ns.length := by have := of_decide_eq_true hg; omega
            rw [hdg k hk2, decide_eq_false hdk]
            rw [hs0 hdk]
            refine ⟨⟨by omega, by omega⟩, fun h => by simp at h, fun _ => ?_⟩
            exact ⟨by unfold In64; omega, hk2, (), rfl⟩
          · have hkk : k = p.ns.length := by have := of_decide_eq_false hg; omega
            rw [hkk] at *
            have hgs := goP_step (n := p.ns.length) (U := upU p.cs up) (f := 0) (by show ¬ (List.replicate p.ns.length false).getD 0 false = true; rw [h]; simp)
            have hgr := goP_rows p.ns.length (upU p.cs up) 0
            have e1 : goP p.ns.length (upU p.cs up) 1 = (seeT (List.replicate p.ns.length false) p.ns.length (upU p.cs up) 0 p.ns.length, [parT p.ns.length (upU p.cs up) 0 p.ns.length]) := hgs
            refine ⟨⟨⟨rfl, Nat.le_refl _, fun _ _ => rfl⟩, .inr trivial⟩, rowsF [parT p.ns.length (upU p.cs up) 0 p.ns.length], fun i hi => by (obtain rfl : i = 0 := (by omega)); rfl, by unfold appRoom; omega, by unfold In64; omega, hf2, (0, (parT p.ns.length (upU p.cs up) 0 p.ns.length).length - 1), ?_⟩
            rw [e1]
            exact ⟨rfl, rfl, rfl, ⟨rfl, congrArg (LO.row 1 1) (funext fun i => by rw [if_neg (Nat.not_lt_zero _)]; rfl)⟩, fun i hi => ⟨trivial, trivial⟩⟩
    · have hnn : p.ns.length = 0 := by have := of_decide_eq_false hg; omega
      rw [hnn]
      rfl
  | succ f =>
    simp only [Nat.succ_ne_zero, if_false]
    unfold lb23_1
    simp only [↓EVP0, EVQ0, EVQ1, EVQ2, EVQ3, EVQ4, EVA, EVK, EVF, ↓reduceIte, Nat.reduceEqDiff, Nat.reduceAdd, Nat.reduceSub, Nat.reduceMul, Nat.reduceLT, Nat.reduceLeDiff, reduceCtorEq, Int.reduceToNat, Int.reduceLT, Int.reduceLE, Int.reduceAdd, Int.reduceSub, Int.reduceMul, Int.reduceNeg, Int.reduceEq, Nat.reduceMod, forall_eq_or_imp, forall_eq, forall_const, cond_true, cond_false, decide_true, decide_false, true_imp_iff, implies_true, Int.cast_ofNat_Int, forall_eq']
    intro _
    refine ⟨fun hg => ?_, fun hg => ?_⟩
    · have hf2 : f + 1 < p.ns.length := by have := of_decide_eq_true hg; omega
      have hin : inN p.ns.length ((f : Int) + 1) := ⟨by omega, by omega⟩
      have hgl := goP_len p.ns.length (upU p.cs up) (f + 1)
      rw [show ((f : Int) + 1).toNat = f + 1 by omega]
      refine ⟨⟨by omega, by omega⟩, by omega, fun h => ?_, fun h => ?_⟩
      · have eg : goP p.ns.length (upU p.cs up) (f + 1 + 1) = goP p.ns.length (upU p.cs up) (f + 1) := by show (if _ then _ else _) = _; rw [if_pos h]
        rw [eg]
        exact ⟨by unfold In64; omega, hf2, (v, dv), rfl, rfl, rfl, ⟨rfl, rfl⟩, fun i hi => ⟨trivial, trivial⟩⟩
      have hd := ev_rdist p up ((f : Int) + 1) hV.n16 hV.c32 hV.cab hin hup
      unfold plV boolsV intsV at hd
      refine callK_ro (hd) ?_ ?_
      · simp only [↓EVP0, EVQ0, EVQ1, EVQ2, EVQ3, EVQ4, EVA, EVK, EVF, ↓reduceIte, Nat.reduceEqDiff, Nat.reduceAdd, Nat.reduceSub, Nat.reduceMul, Nat.reduceLT, Nat.reduceLeDiff, reduceCtorEq, Int.reduceToNat, Int.reduceLT, Int.reduceLE, Int.reduceAdd, Int.reduceSub, Int.reduceMul, Int.reduceNeg, Int.reduceEq, Nat.reduceMod, forall_eq_or_imp, forall_eq, forall_const, cond_true, cond_false, decide_true, decide_false, true_imp_iff, implies_true, Int.cast_ofNat_Int, forall_eq']
      simp only [↓EVP0, EVQ0, EVQ1, EVQ2, EVQ3, EVQ4, EVA, EVK, EVF, ↓reduceIte, Nat.reduceEqDiff, Nat.reduceAdd, Nat.reduceSub, Nat.reduceMul, Nat.reduceLT, Nat.reduceLeDiff, reduceCtorEq, Int.reduceToNat, Int.reduceLT, Int.reduceLE, Int.reduceAdd, Int.reduceSub, Int.reduceMul, Int.reduceNeg, Int.reduceEq, Nat.reduceMod, forall_eq_or_imp, forall_eq, forall_const, cond_true, cond_false, decide_true, decide_false, true_imp_iff, implies_true, Int.cast_ofNat_Int, forall_eq']
      refine lwp_frzO [5, 6] 8 (.rsl 1 (parT p.ns.length (upU p.cs up) (f + 1) p.ns.length).length (intsF (parT p.ns.length (upU p.cs up) (f + 1) p.ns.length))) ?_
      simp only [↓EVP0, EVQ0, EVQ1, EVQ2, EVQ3, EVQ4, EVA, EVK, EVF, ↓reduceIte, Nat.reduceEqDiff, Nat.reduceAdd, Nat.reduceSub, Nat.reduceMul, Nat.reduceLT, Nat.reduceLeDiff, reduceCtorEq, Int.reduceToNat, Int.reduceLT, Int.reduceLE, Int.reduceAdd, Int.reduceSub, Int.reduceMul, Int.reduceNeg, Int.reduceEq, Nat.reduceMod, forall_eq_or_imp, forall_eq, forall_const, cond_true, cond_false, decide_true, decide_false, true_imp_iff, implies_true, Int.cast_ofNat_Int, forall_eq']
      have hdl : (distL p.ns.length (upU p.cs up) ((f : Int) + 1)).length = p.ns.length := by simp [distL]
      have hdg : ∀ k : Nat, k < p.ns.length → (distL p.ns.length (upU p.cs up) ((f : Int) + 1)).getD k 0 = distX p.ns.length (upU p.cs up) ((f : Int) + 1) (k : Int) := by
        intro k hk
        rw [List.getD_eq_getElem?_getD, distL, List.getElem?_map, List.getElem?_range hk]; rfl
      rw [hdl]
      refine lwp_for (α := Unit) p.ns.length (fun _ _ => True) (fun k _ => [(1, .rsl 1 up.length (boolsF up)), (2, .ptr 0 0 0 0 0), (5, .sl 4 v 1 0 (goP p.ns.length (upU p.cs up) (f + 1)).2.length), (6, .sl 1 0 1 0 p.ns.length), (7, .sc (.int .i64 ((f : Int) + 1))), (8, if parT p.ns.length (upU p.cs up) (f + 1) k = [] then .nsl else .sl 6 ((parT p.ns.length (upU p.cs up) (f + 1) k).length - 1) 1 0 (parT p.ns.length (upU p.cs up) (f + 1) k).length), (9, .rsl 1 p.ns.length (intsF (distL p.ns.length (upU p.cs up) ((f : Int) + 1)))), (10, .sc (.int .i64 k))])
        (fun k _ => if parT p.ns.length (upU p.cs up) (f + 1) k = [] then [(0, .box [.rsl 3 p.ns.length (ndsF p.ns), .rsl 6 p.cs.length (cbsF p.cs)]), (0, .bools (seeT ((goP p.ns.length (upU p.cs up) (f + 1)).1) p.ns.length (upU p.cs up) (f + 1) k)), (0, .dead), (dv, .dead), (v, .row 1 (goP p.ns.length (upU p.cs up) (f + 1)).2.length (rowsF (goP p.ns.length (upU p.cs up) (f + 1)).2))] else [(0, .box [.rsl 3 p.ns.length (ndsF p.ns), .rsl 6 p.cs.length (cbsF p.cs)]), (0, .bools (seeT ((goP p.ns.length (upU p.cs up) (f + 1)).1) p.ns.length (upU p.cs up) (f + 1) k)), (0, .dead), (dv, .dead), (v, .row 1 (goP p.ns.length (upU p.cs up) (f + 1)).2.length (rowsF (goP p.ns.length (upU p.cs up) (f + 1)).2)), (0, .ints [(parT p.ns.length (upU p.cs up) (f + 1) k).getD 0 0]), ((parT p.ns.length (upU p.cs up) (f + 1) k).length - 1, .ints (parT p.ns.length (upU p.cs up) (f + 1) k))]) () trivial ?_ (fun _ _ => Nat.zero_le _) ?_
      · rw [show parT p.ns.length (upU p.cs up) (f + 1) 0 = [] from rfl, seeT_zero]
        simp only [if_true]
        simp only [↓EVP0, EVQ0, EVQ1, EVQ2, EVQ3, EVQ4, EVA, EVK, EVF, ↓reduceIte, Nat.reduceEqDiff, Nat.reduceAdd, Nat.reduceSub, Nat.reduceMul, Nat.reduceLT, Nat.reduceLeDiff, reduceCtorEq, Int.reduceToNat, Int.reduceLT, Int.reduceLE, Int.reduceAdd, Int.reduceSub, Int.reduceMul, Int.reduceNeg, Int.reduceEq, Nat.reduceMod, forall_eq_or_imp, forall_eq, forall_const, cond_true, cond_false, decide_true, decide_false, true_imp_iff, implies_true, Int.cast_ofNat_Int, forall_eq']
        exact fun i hi => ⟨trivial, trivial⟩
      intro k _ hk _
      have hsl : (seeT ((goP p.ns.length (upU p.cs up) (f + 1)).1) p.ns.length (upU p.cs up) (f + 1) k).length = p.ns.length := by rw [seeT_len]; exact hgl
      have hps : parT p.ns.length (upU p.cs up) (f + 1) (k + 1) = parT p.ns.length (upU p.cs up) (f + 1) k ++ if 0 ≤ distX p.ns.length (upU p.cs up) ((f : Int) + 1) (k : Int) then [(k : Int)] else [] := parT_succ p.ns.length (upU p.cs up) (f + 1) k
      have hpn : parT p.ns.length (upU p.cs up) (f + 1) p.ns.length ≠ [] := parT_ne (upU_in hV.cab) (show inN p.ns.length (((f + 1) : Nat) : Int) from hin)
      have hss : k < p.ns.length → 0 ≤ distX p.ns.length (upU p.cs up) ((f : Int) + 1) (k : Int) → (seeT ((goP p.ns.length (upU p.cs up) (f + 1)).1) p.ns.length (upU p.cs up) (f + 1) (k + 1)) = (seeT ((goP p.ns.length (upU p.cs up) (f + 1)).1) p.ns.length (upU p.cs up) (f + 1) k).set k true := fun h1 h2 => seeT_succ (by omega) h2
      have hs0 : ¬ 0 ≤ distX p.ns.length (upU p.cs up) ((f : Int) + 1) (k : Int) → (seeT ((goP p.ns.length (upU p.cs up) (f + 1)).1) p.ns.length (upU p.cs up) (f + 1) (k + 1)) = (seeT ((goP p.ns.length (upU p.cs up) (f + 1)).1) p.ns.length (upU p.cs up) (f + 1) k) := fun h2 => seeT_skip h2
      by_cases hq : parT p.ns.length (upU p.cs up) (f + 1) k = []
      · by_cases hdk : 0 ≤ distX p.ns.length (upU p.cs up) ((f : Int) + 1) (k : Int)
        · have hp1 : parT p.ns.length (upU p.cs up) (f + 1) (k + 1) = [(k : Int)] := by rw [hps, if_pos hdk]; rw [hq]; rfl
          simp only [hp1, hq, List.append_eq_nil_iff, List.cons_ne_nil, and_false, if_true, if_false]
          unfold lb23_0
          simp only [↓EVP0, EVQ0, EVQ1, EVQ2, EVQ3, EVQ4, EVA, EVK, EVF, ↓reduceIte, Nat.reduceEqDiff, Nat.reduceAdd, Nat.reduceSub, Nat.reduceMul, Nat.reduceLT, Nat.reduceLeDiff, reduceCtorEq, Int.reduceToNat, Int.reduceLT, Int.reduceLE, Int.reduceAdd, Int.reduceSub, Int.reduceMul, Int.reduceNeg, Int.reduceEq, Nat.reduceMod, forall_eq_or_imp, forall_eq, forall_const, cond_true, cond_false, decide_true, decide_false, true_imp_iff, implies_true, Int.cast_ofNat_Int, forall_eq']
          intro _
          refine ⟨fun hg => ?_, fun hg => ?_⟩
          · have hk2 : k < p.ns.length := by have := of_decide_eq_true hg; omega
            rw [hdg k hk2, decide_eq_true hdk]
            have hsk := hss hk2 hdk
            rw [hsk]
            refine ⟨⟨by omega, by omega⟩, fun _ => ?_, fun h => by simp at h⟩
            exact ⟨by unfold appRoom; omega, ⟨by omega, by omega⟩, by omega, by unfold In64; omega, hk2, (), rfl, fun i hi => ⟨trivial, trivial⟩⟩
          · have hkk : k = p.ns.length := by have := of_decide_eq_false hg; omega
            rw [hkk] at hq; exact absurd hq hpn
        · have hp1 : parT p.ns.length (upU p.cs up) (f + 1) (k + 1) = parT p.ns.length (upU p.cs up) (f + 1) k := by rw [hps, if_neg hdk]; simp
          simp only [hp1, hq, List.append_eq_nil_iff, List.cons_ne_nil, and_false, if_true, if_false]
          unfold lb23_0
          simp only [↓EVP0, EVQ0, EVQ1, EVQ2, EVQ3, EVQ4, EVA, EVK, EVF, ↓reduceIte, Nat.reduceEqDiff, Nat.reduceAdd, Nat.reduceSub, Nat.reduceMul, Nat.reduceLT, Nat.reduceLeDiff, reduceCtorEq, Int.reduceToNat, Int.reduceLT, Int.reduceLE, Int.reduceAdd, Int.reduceSub, Int.reduceMul, Int.reduceNeg, Int.reduceEq, Nat.reduceMod, forall_eq_or_imp, forall_eq, forall_const, cond_true, cond_false, decide_true, decide_false, true_imp_iff, implies_true, Int.cast_ofNat_Int, forall_eq']
          intro _
          refine ⟨fun hg => ?_, fun hg => ?_⟩
          · have hk2 : k < p.ns.length := by have := of_decide_eq_true hg; omega
            rw [hdg k hk2, decide_eq_false hdk]
            rw [hs0 hdk]
            refine ⟨⟨by omega, by omega⟩, fun h => by simp at h, fun _ => ?_⟩
            exact ⟨by unfold In64; omega, hk2, (), rfl, fun i hi => ⟨trivial, trivial⟩⟩
          · have hkk : k = p.ns.length := by have := of_decide_eq_false hg; omega
            rw [hkk] at hq; exact absurd hq hpn
      -- behind the first node of the part
      · by_cases hdk : 0 ≤ distX p.ns.length (upU p.cs up) ((f : Int) + 1) (k : Int)
        · have hp1 : parT p.ns.length (upU p.cs up) (f + 1) (k + 1) = parT p.ns.length (upU p.cs up) (f + 1) k ++ [(k : Int)] := by rw [hps, if_pos hdk]
          simp only [hp1, hq, List.append_eq_nil_iff, List.cons_ne_nil, and_false, if_true, if_false]
          unfold lb23_0
          simp only [↓EVP0, EVQ0, EVQ1, EVQ2, EVQ3, EVQ4, EVA, EVK, EVF, ↓reduceIte, Nat.reduceEqDiff, Nat.reduceAdd, Nat.reduceSub, Nat.reduceMul, Nat.reduceLT, Nat.reduceLeDiff, reduceCtorEq, Int.reduceToNat, Int.reduceLT, Int.reduceLE, Int.reduceAdd, Int.reduceSub, Int.reduceMul, Int.reduceNeg, Int.reduceEq, Nat.reduceMod, forall_eq_or_imp, forall_eq, forall_const, cond_true, cond_false, decide_true, decide_false, true_imp_iff, implies_true, Int.cast_ofNat_Int, forall_eq']
          intro _
          refine ⟨fun hg => ?_, fun hg => ?_⟩
          · have hk2 : k < p.ns.length := by have := of_decide_eq_true hg; omega
            rw [hdg k hk2, decide_eq_true hdk]
            have hsk := hss hk2 hdk
            rw [hsk]
            refine ⟨⟨by omega, by omega⟩, fun _ => ?_, fun h => by simp at h⟩
            have hpl : 0 < (parT p.ns.length (upU p.cs up) (f + 1) k).length := List.length_pos_iff.2 hq
            have hple : (parT p.ns.length (upU p.cs up) (f + 1) k).length ≤ k := parT_len _ _ _ _
            have hl1 : (parT p.ns.length (upU p.cs up) (f + 1) k ++ [(k : Int)]).length = (parT p.ns.length (upU p.cs up) (f + 1) k).length + 1 := by simp
            rw [show (parT p.ns.length (upU p.cs up) (f + 1) k).length - 1 + 1 = (parT p.ns.length (upU p.cs up) (f + 1) k).length + 1 - 1 by omega, List.take_of_length_le (Nat.le_refl _), hl1]
            exact ⟨Nat.le_refl _, by unfold appRoom; omega, ⟨by omega, by omega⟩, by omega, by unfold In64; omega, hk2, (), rfl, rfl, fun i hi => ⟨trivial, trivial⟩, by rw [getD_app0 hpl], rfl, rfl⟩
          · have hkk : k = p.ns.length := by have := of_decide_eq_false hg; omega
            rw [hkk] at *
            have hgs := goP_step (n := p.ns.length) (U := upU p.cs up) (f := (f + 1)) (by rw [h]; simp)
            have hgr := goP_rows p.ns.length (upU p.cs up) (f + 1)
            refine ⟨⟨⟨rfl, Nat.le_refl _, fun _ _ => rfl⟩, .inr trivial⟩, rowsF [parT p.ns.length (upU p.cs up) (f + 1) p.ns.length], fun i hi => by (obtain rfl : i = 0 := (by omega)); rfl, ⟨Nat.le_refl _, fun _ _ => rfl⟩, by unfold appRoom; omega, by unfold In64; omega, hf2, (v + 1, dv), ?_⟩
            rw [hgs, List.length_append, rowsF_app]
            exact ⟨rfl, rfl, rfl, ⟨rfl, rfl⟩, fun i hi => by rw [← rowsF_app]; exact ⟨trivial, trivial⟩⟩
        · have hp1 : parT p.ns.length (upU p.cs up) (f + 1) (k + 1) = parT p.ns.length (upU p.cs up) (f + 1) k := by rw [hps, if_neg hdk]; simp
          simp only [hp1, hq, List.append_eq_nil_iff, List.cons_ne_nil, and_false, if_true, if_false]
          unfold lb23_0
          simp only [↓EVP0, EVQ0, EVQ1, EVQ2, EVQ3, EVQ4, EVA, EVK, EVF, ↓reduceIte, Nat.reduceEqDiff, Nat.reduceAdd, Nat.reduceSub, Nat.reduceMul, Nat.reduceLT, Nat.reduceLeDiff, reduceCtorEq, Int.reduceToNat, Int.reduceLT, Int.reduceLE, Int.reduceAdd, Int.reduceSub, Int.reduceMul, Int.reduceNeg, Int.reduceEq, Nat.reduceMod, forall_eq_or_imp, forall_eq, forall_const, cond_true, cond_false, decide_true, decide_false, true_imp_iff, implies_true, Int.cast_ofNat_Int, forall_eq']
          intro _
          refine ⟨fun hg => ?_, fun hg => ?_⟩
          · have hk2 : k < p.ns.length := by have := of_decide_eq_true hg; omega
            rw [hdg k hk2, decide_eq_false hdk]
            rw [hs0 hdk]
            refine ⟨⟨by omega, by omega⟩, fun h => by simp at h, fun _ => ?_⟩
            exact ⟨by unfold In64; omega, hk2, (), rfl, fun i hi => ⟨trivial, trivial⟩⟩
          · have hkk : k = p.ns.length := by have := of_decide_eq_false hg; omega
            rw [hkk] at *
            have hgs := goP_step (n := p.ns.length) (U := upU p.cs up) (f := (f + 1)) (by rw [h]; simp)
            have hgr := goP_rows p.ns.length (upU p.cs up) (f + 1)
            refine ⟨⟨⟨rfl, Nat.le_refl _, fun _ _ => rfl⟩, .inr trivial⟩, rowsF [parT p.ns.length (upU p.cs up) (f + 1) p.ns.length], fun i hi => by (obtain rfl : i = 0 := (by omega)); rfl, ⟨Nat.le_refl _, fun _ _ => rfl⟩, by unfold appRoom; omega, by unfold In64; omega, hf2, (v + 1, dv), ?_⟩
            rw [hgs, List.length_append, rowsF_app]
            exact ⟨rfl, rfl, rfl, ⟨rfl, rfl⟩, fun i hi => by rw [← rowsF_app]; exact ⟨trivial, trivial⟩⟩
    · have hnn : p.ns.length = f + 1 := by have := of_decide_eq_false hg; omega
      rw [hnn]
      exact ⟨rfl, ⟨Nat.le_refl _, fun i hi => rfl⟩, fun i hi => ⟨rfl, trivial, trivial⟩⟩
end Go.Proofs.YtchpncmmlhfemaaDoor
namespace Go.Proofs.YtchpncmmlhfemaaDoor
set_option linter.unusedSimpArgs false
set_option linter.unusedVariables false
open Go.RowKit
set_option maxRecDepth 20000

theorem ev_equalF (P : List (List Int)) (hl : P.length ≤ 1000) : Ev Tryd.prog 24 [rowsV P, rowsV P, .fn 21 []] (.sc (.bool true)) := by
  have hq : ∀ x : List Int, Ev Tryd.prog 21 [intsV x, intsV x] (.sc (.bool true)) := fun x => by
    have := ev_equal x x
    rwa [decide_eq_true rfl] at this
  have hok : okF Tryd.prog 21 = true := by kernel_rfl
  unfold rowsV
  refine ev_fn Tryd.func24 comp24 (show 3 ≤ Tryd.f24.ntmps by decide) ?_; unfold cf24 rf24; simp only [↓EVP0, EVQ0, EVQ1, EVQ2, EVQ3, EVQ4, EVA, EVK, EVF, ↓reduceIte, Nat.reduceEqDiff, Nat.reduceAdd, Nat.reduceSub, Nat.reduceMul, Nat.reduceLT, Nat.reduceLeDiff, reduceCtorEq, Int.reduceToNat, Int.reduceLT, Int.reduceLE, Int.reduceAdd, Int.reduceSub, Int.reduceMul, Int.reduceNeg, Int.reduceEq, Nat.reduceMod, forall_eq_or_imp, forall_eq, forall_const, cond_true, cond_false, decide_true, decide_false, true_imp_iff, implies_true, Int.cast_ofNat_Int, forall_eq']
  intro _ _ _
  refine lwp_for (α := Unit) P.length (fun _ _ => True) (fun i _ => [(1, .rsl 1 P.length (rowsF P)), (2, .fn 21 []), (15, .rsl 1 P.length (rowsF P)), (16, .sc (.int .i64 P.length)), (17, .sc (.int .i64 i))]) (fun _ _ => []) () trivial ?_ (fun _ _ => Nat.zero_le _) ?_
  · simp only [↓EVP0, EVQ0, EVQ1, EVQ2, EVQ3, EVQ4, EVA, EVK, EVF, ↓reduceIte, Nat.reduceEqDiff, Nat.reduceAdd, Nat.reduceSub, Nat.reduceMul, Nat.reduceLT, Nat.reduceLeDiff, reduceCtorEq, Int.reduceToNat, Int.reduceLT, Int.reduceLE, Int.reduceAdd, Int.reduceSub, Int.reduceMul, Int.reduceNeg, Int.reduceEq, Nat.reduceMod, forall_eq_or_imp, forall_eq, forall_const, cond_true, cond_false, decide_true, decide_false, true_imp_iff, implies_true, Int.cast_ofNat_Int, forall_eq']
  intro i _ hi _
  unfold lb24_0
  simp only [↓EVP0, EVQ0, EVQ1, EVQ2, EVQ3, EVQ4, EVA, EVK, EVF, ↓reduceIte, Nat.reduceEqDiff, Nat.reduceAdd, Nat.reduceSub, Nat.reduceMul, Nat.reduceLT, Nat.reduceLeDiff, reduceCtorEq, Int.reduceToNat, Int.reduceLT, Int.reduceLE, Int.reduceAdd, Int.reduceSub, Int.reduceMul, Int.reduceNeg, Int.reduceEq, Nat.reduceMod, forall_eq_or_imp, forall_eq, forall_const, cond_true, cond_false, decide_true, decide_false, true_imp_iff, implies_true, Int.cast_ofNat_Int, forall_eq']
  refine ⟨fun hg => ?_, fun _ => trivial⟩
  have hi2 : i < P.length := by have := of_decide_eq_true hg; omega
  refine ⟨⟨by omega, by omega⟩, Nat.le_refl _, trivial, ⟨by omega, by omega⟩, Nat.le_refl _, trivial, trivial, trivial, trivial, hok, ?_⟩
  refine callK_ro (hq (P.getD i [])) ⟨trivial, trivial, trivial⟩ ?_
  simp only [↓EVP0, EVQ0, EVQ1, EVQ2, EVQ3, EVQ4, EVA, EVK, EVF, ↓reduceIte, Nat.reduceEqDiff, Nat.reduceAdd, Nat.reduceSub, Nat.reduceMul, Nat.reduceLT, Nat.reduceLeDiff, reduceCtorEq, Int.reduceToNat, Int.reduceLT, Int.reduceLE, Int.reduceAdd, Int.reduceSub, Int.reduceMul, Int.reduceNeg, Int.reduceEq, Nat.reduceMod, forall_eq_or_imp, forall_eq, forall_const, cond_true, cond_false, decide_true, decide_false, true_imp_iff, implies_true, Int.cast_ofNat_Int, forall_eq']
  exact ⟨by unfold In64; omega, hi2, (), trivial⟩
theorem goP_rl (n : Nat) (U : List Cb) : ∀ f, (goP n U f).2.length ≤ f
  | 0 => Nat.le_refl _
  | f + 1 => by
    have := goP_rl n U f
    unfold goP
    split
    · omega
    · simp; omega
theorem ev_lawDists (p : Pl) (hp : PlOk p) (r : Int) (up : List Bool) : Ev Tryd.prog 7 [plV p, .sc (.int .i64 r), boolsV up] (.sc (.bool true)) := by
  have h1 := ev_awake14
  have h2 := ev_great14 p
  have h3 := ev_dists p hp r up
  have h4 := ev_parts p hp up
  have h5 := ev_connected p hp up
  have h6 := ev_ref14 p
  have h7 := fun hv hup => ev_rparts p hv up hup
  have h8 := ev_equalF
  have h9 := fun a b c d e => ev_rdist p up r a b c d e
  have h10 := ev_equal
  unfold plV boolsV intsV rowsV at *
  refine ev_fn Tryd.func7 comp7 (show 3 ≤ Tryd.f7.ntmps by decide) ?_; unfold cf7 rf7; simp only [↓EVP0, EVQ0, EVQ1, EVQ2, EVQ3, EVQ4, EVA, EVK, EVF, ↓reduceIte, Nat.reduceEqDiff, Nat.reduceAdd, Nat.reduceSub, Nat.reduceMul, Nat.reduceLT, Nat.reduceLeDiff, reduceCtorEq, Int.reduceToNat, Int.reduceLT, Int.reduceLE, Int.reduceAdd, Int.reduceSub, Int.reduceMul, Int.reduceNeg, Int.reduceEq, Nat.reduceMod, forall_eq_or_imp, forall_eq, forall_const, cond_true, cond_false, decide_true, decide_false, true_imp_iff, implies_true, Int.cast_ofNat_Int, forall_eq']
  refine callK_ro (h1) ?_ ?_
  · simp only [↓EVP0, EVQ0, EVQ1, EVQ2, EVQ3, EVQ4, EVA, EVK, EVF, ↓reduceIte, Nat.reduceEqDiff, Nat.reduceAdd, Nat.reduceSub, Nat.reduceMul, Nat.reduceLT, Nat.reduceLeDiff, reduceCtorEq, Int.reduceToNat, Int.reduceLT, Int.reduceLE, Int.reduceAdd, Int.reduceSub, Int.reduceMul, Int.reduceNeg, Int.reduceEq, Nat.reduceMod, forall_eq_or_imp, forall_eq, forall_const, cond_true, cond_false, decide_true, decide_false, true_imp_iff, implies_true, Int.cast_ofNat_Int, forall_eq']
  simp only [↓EVP0, EVQ0, EVQ1, EVQ2, EVQ3, EVQ4, EVA, EVK, EVF, ↓reduceIte, Nat.reduceEqDiff, Nat.reduceAdd, Nat.reduceSub, Nat.reduceMul, Nat.reduceLT, Nat.reduceLeDiff, reduceCtorEq, Int.reduceToNat, Int.reduceLT, Int.reduceLE, Int.reduceAdd, Int.reduceSub, Int.reduceMul, Int.reduceNeg, Int.reduceEq, Nat.reduceMod, forall_eq_or_imp, forall_eq, forall_const, cond_true, cond_false, decide_true, decide_false, true_imp_iff, implies_true, Int.cast_ofNat_Int, forall_eq']
  refine callK_ro (h2) ?_ ?_
  · simp only [↓EVP0, EVQ0, EVQ1, EVQ2, EVQ3, EVQ4, EVA, EVK, EVF, ↓reduceIte, Nat.reduceEqDiff, Nat.reduceAdd, Nat.reduceSub, Nat.reduceMul, Nat.reduceLT, Nat.reduceLeDiff, reduceCtorEq, Int.reduceToNat, Int.reduceLT, Int.reduceLE, Int.reduceAdd, Int.reduceSub, Int.reduceMul, Int.reduceNeg, Int.reduceEq, Nat.reduceMod, forall_eq_or_imp, forall_eq, forall_const, cond_true, cond_false, decide_true, decide_false, true_imp_iff, implies_true, Int.cast_ofNat_Int, forall_eq']
  simp only [↓EVP0, EVQ0, EVQ1, EVQ2, EVQ3, EVQ4, EVA, EVK, EVF, ↓reduceIte, Nat.reduceEqDiff, Nat.reduceAdd, Nat.reduceSub, Nat.reduceMul, Nat.reduceLT, Nat.reduceLeDiff, reduceCtorEq, Int.reduceToNat, Int.reduceLT, Int.reduceLE, Int.reduceAdd, Int.reduceSub, Int.reduceMul, Int.reduceNeg, Int.reduceEq, Nat.reduceMod, forall_eq_or_imp, forall_eq, forall_const, cond_true, cond_false, decide_true, decide_false, true_imp_iff, implies_true, Int.cast_ofNat_Int, forall_eq']
  refine ⟨fun _ => trivial, fun g => ?_⟩
  first | refine qCallK_ro (h3) ?_ ?_ | refine eCallK_ro (h3) ?_ ?_
  · simp only [↓EVP0, EVQ0, EVQ1, EVQ2, EVQ3, EVQ4, EVA, EVK, EVF, ↓reduceIte, Nat.reduceEqDiff, Nat.reduceAdd, Nat.reduceSub, Nat.reduceMul, Nat.reduceLT, Nat.reduceLeDiff, reduceCtorEq, Int.reduceToNat, Int.reduceLT, Int.reduceLE, Int.reduceAdd, Int.reduceSub, Int.reduceMul, Int.reduceNeg, Int.reduceEq, Nat.reduceMod, forall_eq_or_imp, forall_eq, forall_const, cond_true, cond_false, decide_true, decide_false, true_imp_iff, implies_true, Int.cast_ofNat_Int, forall_eq']
  simp only [↓EVP0, EVQ0, EVQ1, EVQ2, EVQ3, EVQ4, EVA, EVK, EVF, ↓reduceIte, Nat.reduceEqDiff, Nat.reduceAdd, Nat.reduceSub, Nat.reduceMul, Nat.reduceLT, Nat.reduceLeDiff, reduceCtorEq, Int.reduceToNat, Int.reduceLT, Int.reduceLE, Int.reduceAdd, Int.reduceSub, Int.reduceMul, Int.reduceNeg, Int.reduceEq, Nat.reduceMod, forall_eq_or_imp, forall_eq, forall_const, cond_true, cond_false, decide_true, decide_false, true_imp_iff, implies_true, Int.cast_ofNat_Int, forall_eq']
  first | refine qCallK_ro (h4) ?_ ?_ | refine eCallK_ro (h4) ?_ ?_
  · simp only [↓EVP0, EVQ0, EVQ1, EVQ2, EVQ3, EVQ4, EVA, EVK, EVF, ↓reduceIte, Nat.reduceEqDiff, Nat.reduceAdd, Nat.reduceSub, Nat.reduceMul, Nat.reduceLT, Nat.reduceLeDiff, reduceCtorEq, Int.reduceToNat, Int.reduceLT, Int.reduceLE, Int.reduceAdd, Int.reduceSub, Int.reduceMul, Int.reduceNeg, Int.reduceEq, Nat.reduceMod, forall_eq_or_imp, forall_eq, forall_const, cond_true, cond_false, decide_true, decide_false, true_imp_iff, implies_true, Int.cast_ofNat_Int, forall_eq']
  simp only [↓EVP0, EVQ0, EVQ1, EVQ2, EVQ3, EVQ4, EVA, EVK, EVF, ↓reduceIte, Nat.reduceEqDiff, Nat.reduceAdd, Nat.reduceSub, Nat.reduceMul, Nat.reduceLT, Nat.reduceLeDiff, reduceCtorEq, Int.reduceToNat, Int.reduceLT, Int.reduceLE, Int.reduceAdd, Int.reduceSub, Int.reduceMul, Int.reduceNeg, Int.reduceEq, Nat.reduceMod, forall_eq_or_imp, forall_eq, forall_const, cond_true, cond_false, decide_true, decide_false, true_imp_iff, implies_true, Int.cast_ofNat_Int, forall_eq']
  first | refine qCallK_ro (h5) ?_ ?_ | refine eCallK_ro (h5) ?_ ?_
  · simp only [↓EVP0, EVQ0, EVQ1, EVQ2, EVQ3, EVQ4, EVA, EVK, EVF, ↓reduceIte, Nat.reduceEqDiff, Nat.reduceAdd, Nat.reduceSub, Nat.reduceMul, Nat.reduceLT, Nat.reduceLeDiff, reduceCtorEq, Int.reduceToNat, Int.reduceLT, Int.reduceLE, Int.reduceAdd, Int.reduceSub, Int.reduceMul, Int.reduceNeg, Int.reduceEq, Nat.reduceMod, forall_eq_or_imp, forall_eq, forall_const, cond_true, cond_false, decide_true, decide_false, true_imp_iff, implies_true, Int.cast_ofNat_Int, forall_eq']
  simp only [↓EVP0, EVQ0, EVQ1, EVQ2, EVQ3, EVQ4, EVA, EVK, EVF, ↓reduceIte, Nat.reduceEqDiff, Nat.reduceAdd, Nat.reduceSub, Nat.reduceMul, Nat.reduceLT, Nat.reduceLeDiff, reduceCtorEq, Int.reduceToNat, Int.reduceLT, Int.reduceLE, Int.reduceAdd, Int.reduceSub, Int.reduceMul, Int.reduceNeg, Int.reduceEq, Nat.reduceMod, forall_eq_or_imp, forall_eq, forall_const, cond_true, cond_false, decide_true, decide_false, true_imp_iff, implies_true, Int.cast_ofNat_Int, forall_eq']
  refine callK_ro (h6) ?_ ?_
  · simp only [↓EVP0, EVQ0, EVQ1, EVQ2, EVQ3, EVQ4, EVA, EVK, EVF, ↓reduceIte, Nat.reduceEqDiff, Nat.reduceAdd, Nat.reduceSub, Nat.reduceMul, Nat.reduceLT, Nat.reduceLeDiff, reduceCtorEq, Int.reduceToNat, Int.reduceLT, Int.reduceLE, Int.reduceAdd, Int.reduceSub, Int.reduceMul, Int.reduceNeg, Int.reduceEq, Nat.reduceMod, forall_eq_or_imp, forall_eq, forall_const, cond_true, cond_false, decide_true, decide_false, true_imp_iff, implies_true, Int.cast_ofNat_Int, forall_eq']
  simp only [↓EVP0, EVQ0, EVQ1, EVQ2, EVQ3, EVQ4, EVA, EVK, EVF, ↓reduceIte, Nat.reduceEqDiff, Nat.reduceAdd, Nat.reduceSub, Nat.reduceMul, Nat.reduceLT, Nat.reduceLeDiff, reduceCtorEq, Int.reduceToNat, Int.reduceLT, Int.reduceLE, Int.reduceAdd, Int.reduceSub, Int.reduceMul, Int.reduceNeg, Int.reduceEq, Nat.reduceMod, forall_eq_or_imp, forall_eq, forall_const, cond_true, cond_false, decide_true, decide_false, true_imp_iff, implies_true, Int.cast_ofNat_Int, forall_eq']
  by_cases hc : validE p = 0 ∧ up.length = p.cs.length
  · obtain ⟨hv, hup⟩ := hc
    have hV := valid_of hv
    have h16 := hV.n16
    have hu : usableB p up = true := by unfold usableB; rw [decide_eq_true hv, decide_eq_true hup]; rfl
    have e1 : partsE p up = (goP p.ns.length (upU p.cs up) p.ns.length).2 := by unfold partsE; rw [if_pos hu]
    have hgl := goP_rl p.ns.length (upU p.cs up) p.ns.length
    rw [decide_eq_true hv, decide_eq_true (show (up.length : Int) = p.cs.length by omega)]
    refine ⟨fun h => by simp at h, fun _ => ?_⟩
    refine callK_ro (h7 hv hup) ?_ ?_
    · simp only [↓EVP0, EVQ0, EVQ1, EVQ2, EVQ3, EVQ4, EVA, EVK, EVF, ↓reduceIte, Nat.reduceEqDiff, Nat.reduceAdd, Nat.reduceSub, Nat.reduceMul, Nat.reduceLT, Nat.reduceLeDiff, reduceCtorEq, Int.reduceToNat, Int.reduceLT, Int.reduceLE, Int.reduceAdd, Int.reduceSub, Int.reduceMul, Int.reduceNeg, Int.reduceEq, Nat.reduceMod, forall_eq_or_imp, forall_eq, forall_const, cond_true, cond_false, decide_true, decide_false, true_imp_iff, implies_true, Int.cast_ofNat_Int, forall_eq']
    simp only [↓EVP0, EVQ0, EVQ1, EVQ2, EVQ3, EVQ4, EVA, EVK, EVF, ↓reduceIte, Nat.reduceEqDiff, Nat.reduceAdd, Nat.reduceSub, Nat.reduceMul, Nat.reduceLT, Nat.reduceLeDiff, reduceCtorEq, Int.reduceToNat, Int.reduceLT, Int.reduceLE, Int.reduceAdd, Int.reduceSub, Int.reduceMul, Int.reduceNeg, Int.reduceEq, Nat.reduceMod, forall_eq_or_imp, forall_eq, forall_const, cond_true, cond_false, decide_true, decide_false, true_imp_iff, implies_true, Int.cast_ofNat_Int, forall_eq']
    rw [e1]
    refine callK_ro (h8 _ (show _ ≤ 1000 by omega)) ?_ ?_
    · simp only [↓EVP0, EVQ0, EVQ1, EVQ2, EVQ3, EVQ4, EVA, EVK, EVF, ↓reduceIte, Nat.reduceEqDiff, Nat.reduceAdd, Nat.reduceSub, Nat.reduceMul, Nat.reduceLT, Nat.reduceLeDiff, reduceCtorEq, Int.reduceToNat, Int.reduceLT, Int.reduceLE, Int.reduceAdd, Int.reduceSub, Int.reduceMul, Int.reduceNeg, Int.reduceEq, Nat.reduceMod, forall_eq_or_imp, forall_eq, forall_const, cond_true, cond_false, decide_true, decide_false, true_imp_iff, implies_true, Int.cast_ofNat_Int, forall_eq']
    simp only [↓EVP0, EVQ0, EVQ1, EVQ2, EVQ3, EVQ4, EVA, EVK, EVF, ↓reduceIte, Nat.reduceEqDiff, Nat.reduceAdd, Nat.reduceSub, Nat.reduceMul, Nat.reduceLT, Nat.reduceLeDiff, reduceCtorEq, Int.reduceToNat, Int.reduceLT, Int.reduceLE, Int.reduceAdd, Int.reduceSub, Int.reduceMul, Int.reduceNeg, Int.reduceEq, Nat.reduceMod, forall_eq_or_imp, forall_eq, forall_const, cond_true, cond_false, decide_true, decide_false, true_imp_iff, implies_true, Int.cast_ofNat_Int, forall_eq']
    have e3 : conB p up = decide ((goP p.ns.length (upU p.cs up) p.ns.length).2.length = 1) := by unfold conB; rw [e1]
    have e4 : decide (((goP p.ns.length (upU p.cs up) p.ns.length).2.length : Int) = 1) = decide ((goP p.ns.length (upU p.cs up) p.ns.length).2.length = 1) := decide_eq_decide.2 (by omega)
    rw [e3, e4]
    refine ⟨fun h => by simp at h, fun _ => ⟨fun h _ => ?_, fun h => ?_⟩⟩
    · have e5 : distsE p r up = [] := by
        unfold distsE
        rw [hu, Bool.true_and]
        by_cases k1 : r < 0
        · rw [decide_eq_false (show ¬ 0 ≤ r by omega)]; rfl
        · rw [decide_eq_false k1] at h
          have : (p.ns.length : Int) ≤ r := by simpa using h
          rw [decide_eq_false (show ¬ r < (p.ns.length : Int) by omega), Bool.and_false]; rfl
      rw [e5]; rfl
    · have hr : inN p.ns.length r := by
        unfold inN
        by_cases k1 : r < 0
        · rw [decide_eq_true k1] at h; simp at h
        · rw [decide_eq_false k1] at h
          have : ¬ (p.ns.length : Int) ≤ r := by simpa using h
          omega
      have e5 : distsE p r up = distL p.ns.length (upU p.cs up) r := by
        unfold distsE
        unfold inN at hr
        rw [hu, decide_eq_true hr.1, decide_eq_true hr.2]; rfl
      rw [e5]
      refine callK_ro (h9 h16 hV.c32 hV.cab hr hup) ?_ ?_
      · simp only [↓EVP0, EVQ0, EVQ1, EVQ2, EVQ3, EVQ4, EVA, EVK, EVF, ↓reduceIte, Nat.reduceEqDiff, Nat.reduceAdd, Nat.reduceSub, Nat.reduceMul, Nat.reduceLT, Nat.reduceLeDiff, reduceCtorEq, Int.reduceToNat, Int.reduceLT, Int.reduceLE, Int.reduceAdd, Int.reduceSub, Int.reduceMul, Int.reduceNeg, Int.reduceEq, Nat.reduceMod, forall_eq_or_imp, forall_eq, forall_const, cond_true, cond_false, decide_true, decide_false, true_imp_iff, implies_true, Int.cast_ofNat_Int, forall_eq']
      simp only [↓EVP0, EVQ0, EVQ1, EVQ2, EVQ3, EVQ4, EVA, EVK, EVF, ↓reduceIte, Nat.reduceEqDiff, Nat.reduceAdd, Nat.reduceSub, Nat.reduceMul, Nat.reduceLT, Nat.reduceLeDiff, reduceCtorEq, Int.reduceToNat, Int.reduceLT, Int.reduceLE, Int.reduceAdd, Int.reduceSub, Int.reduceMul, Int.reduceNeg, Int.reduceEq, Nat.reduceMod, forall_eq_or_imp, forall_eq, forall_const, cond_true, cond_false, decide_true, decide_false, true_imp_iff, implies_true, Int.cast_ofNat_Int, forall_eq']
      refine callK_ro (h10 (distL p.ns.length (upU p.cs up) r) (distL p.ns.length (upU p.cs up) r)) ?_ ?_
      · simp only [↓EVP0, EVQ0, EVQ1, EVQ2, EVQ3, EVQ4, EVA, EVK, EVF, ↓reduceIte, Nat.reduceEqDiff, Nat.reduceAdd, Nat.reduceSub, Nat.reduceMul, Nat.reduceLT, Nat.reduceLeDiff, reduceCtorEq, Int.reduceToNat, Int.reduceLT, Int.reduceLE, Int.reduceAdd, Int.reduceSub, Int.reduceMul, Int.reduceNeg, Int.reduceEq, Nat.reduceMod, forall_eq_or_imp, forall_eq, forall_const, cond_true, cond_false, decide_true, decide_false, true_imp_iff, implies_true, Int.cast_ofNat_Int, forall_eq']
      simp only [↓EVP0, EVQ0, EVQ1, EVQ2, EVQ3, EVQ4, EVA, EVK, EVF, ↓reduceIte, Nat.reduceEqDiff, Nat.reduceAdd, Nat.reduceSub, Nat.reduceMul, Nat.reduceLT, Nat.reduceLeDiff, reduceCtorEq, Int.reduceToNat, Int.reduceLT, Int.reduceLE, Int.reduceAdd, Int.reduceSub, Int.reduceMul, Int.reduceNeg, Int.reduceEq, Nat.reduceMod, forall_eq_or_imp, forall_eq, forall_const, cond_true, cond_false, decide_true, decide_false, true_imp_iff, implies_true, Int.cast_ofNat_Int, forall_eq']
  · have hu : ¬ usableB p up = true := by unfold usableB; simpa using hc
    have e1 : partsE p up = [] := by unfold partsE; rw [if_neg hu]
    have e2 : distsE p r up = [] := by unfold distsE; rw [Bool.eq_false_iff.2 hu]; rfl
    have e3 : conB p up = false := by unfold conB; rw [e1]; rfl
    rw [e1, e2, e3]
    refine ⟨fun _ _ => by simp, fun h => absurd ?_ hc⟩
    by_cases k1 : validE p = 0
    · refine ⟨k1, ?_⟩
      rw [decide_eq_true k1] at h
      simp at h; omega
    · rw [decide_eq_false k1] at h; simp at h
end Go.Proofs.YtchpncmmlhfemaaDoor
namespace Go.Proofs.YtchpncmmlhfemaaDoor
set_option linter.unusedSimpArgs false
set_option linter.unusedVariables false
open Go.ChangeShapes Go.WideShapes Go.ChangeAt Go.RowKit

theorem card_paramsGraphDistances (fn : Func) (h : fn.params.toList.all (fun t => !Tryd.prog.wantsStandIn t) = true) (j : Nat) (t : TypeId) (ht : fn.params[j]? = some t) : Tryd.prog.wantsStandIn t = false := by
  have := List.all_eq_true.1 h t (by rw [← Array.getElem?_toList] at ht; exact List.mem_of_getElem? ht)
  simpa using this
theorem law_graphDistances (lvs : List LV) (h : fitAll Tryd.prog Tryd.f7.params.toList lvs) : Ev Tryd.prog 7 lvs (.sc (.bool true)) := by
  rw [Tryd.params7] at h
  obtain ⟨a0, l0, rfl, g0, h⟩ := all1 h
  obtain ⟨a1, l1, rfl, g1, h⟩ := all1 h
  obtain ⟨a2, l2, rfl, g2, h⟩ := all1 h
  obtain rfl := all0 h
  obtain ⟨p, ip, hp⟩ := arg_plan g0
  obtain ⟨r, rfl, hr⟩ := arg_int g1
  obtain ⟨up, iup, nup⟩ := arg_bools g2
  exact ev_im (bs := [plV p, .sc (.int .i64 r), boolsV up]) ⟨ip, Im.refl _, iup, trivial⟩ (ev_lawDists p hp r up)
set_option maxRecDepth 100000 in
theorem lifted_graphDistances (os : Os) (started : os.Started) (H : Type) (enc : TypeId × Value → H) :
    ReturnsInHanded {} Tryd.checked os 7 .any (fun w args => (Rows.graphDistancesSpec.pre enc Tryd.prog Tryd.f7 [] false w args ∧ laidMetH Tryd.prog Rows.graphDistancesRow.laid w) ∧ sizedMet enc Tryd.prog Tryd.f7 (OpenSpec.ofChange Rows.graphDistancesSpec) false w args) (Rows.graphDistancesSpec.post enc Tryd.prog Tryd.f7 false true false false) := by
  refine law_liftedL (C := Tryd.checked) (tb := 4) Rows.graphDistancesRow.laid Tryd.own' started Tryd.laidOut' (by kernel_rfl) Tryd.func7
    (ChangeSpec.witness_shaped (enc := enc) (C := Tryd.checked) (os := os) (X := fun w _ => laidMetH Tryd.prog Rows.graphDistancesRow.laid w) false (World.laidAll Tryd.prog os Rows.graphDistancesRow.laid) #[.agg #[.slice none 0 0, .slice none 0 0], .int .i64 0, .slice none 0 0] 8 (World.laidAll_os _ _ _)
      (World.shaped_of_ZipB (by kernel_rfl) (by kernel_rfl)) (by kernel_rfl) (by kernel_rfl) (by kernel_rfl)
      (by rw [MakeChecks.laidMetH_plain _ _ _ (by kernel_rfl)]; exact laidMet_laidAll _ (by kernel_rfl) (by kernel_rfl)))
    (by kernel_rfl) Tryd.underlying4 rfl (fun ds hd => ?_) (by kernel_rfl) (fun _ _ hh h => h.of_heap hh) law_graphDistances
  have hd : ds.length = 3 := hd
  match ds, hd with
  | [d1, d2, d3], _ => exact ⟨rfl, rfl, rfl⟩
theorem graphDistances_holds : Rows.GraphDistancesSaid :=
  OpenClaim.holds_of_wide 7 Tryd.f7 rfl rfl rfl rfl rfl rfl rfl ⟨rfl, rfl, rfl, rfl, rfl⟩ rfl rfl rfl rfl rfl (by kernel_rfl) Tryd.func7 (by kernel_rfl)
    (of_decide_eq_true (by kernel_rfl)) (by unfold Func.isWrapper; first | (rw [if_pos (by decide +kernel)]; kernel_rfl) | (rw [if_neg (by decide +kernel)]; exact ⟨rfl, rfl⟩))
    (fun os started H enc _ => lifted_graphDistances os started H enc)
theorem graphDistances_card : Rows.GraphDistancesCardSaid :=
  Claim7.holds_tied_plain_at .later [] Rows.graphDistancesCard.laidKinds true Rows.graphDistancesCard.stood.harness false
    graphDistances_holds (fun _ h => by cases h) (by kernel_rfl) (fun _ h => by cases h) graphDistances_row_tie rfl ⟨rfl, rfl⟩ (by kernel_rfl) rfl
    (fun f fn hf hfn => by
      obtain rfl : f = 7 := Option.some.inj ((show Tryd.prog.funcNamed Rows.graphDistancesRow.func = some 7 by kernel_rfl).symm.trans hf) |>.symm
      obtain rfl : fn = Tryd.f7 := (Option.some.inj (Tryd.func7.symm.trans hfn)).symm
      exact ⟨by kernel_rfl, fun j t ht => card_paramsGraphDistances Tryd.f7 (by kernel_rfl) j t ht⟩)
    (by kernel_rfl)
end Go.Proofs.YtchpncmmlhfemaaDoor
