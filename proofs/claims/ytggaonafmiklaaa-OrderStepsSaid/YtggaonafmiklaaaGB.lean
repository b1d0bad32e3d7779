/- Chapter 14's Valid, step by step: nodes, ports, and what occurs twice. Conditions: none. -/
import Derived.Test.YtggaonafmiklaaaGA
import Derived.KernelRfl
namespace Go.Proofs.Ytggaonafmiklaaa
set_option linter.unusedSimpArgs false
set_option linter.unusedVariables false
open Go.RowKit

def nodeOk (n : Nd) : Bool := nameOk n.name && (bif n.sw then decide (1 ≤ n.ports) && decide (n.ports ≤ 8) else decide (n.ports = 1))
theorem ev_validNode (n : Nd) : Ev Try.prog 33 [.agg (ndL n)] (.sc (.bool (nodeOk n))) := by
  unfold ndL
  refine ev_fn Try.func33 comp33 (show 1 ≤ Try.f33.ntmps by decide) ?_; unfold cf33 rf33; simp only [↓EVP0, EVQ0, EVQ1, EVQ2, EVQ3, EVQ4, EVA, EVK, EVF, ↓reduceIte, Nat.reduceEqDiff, Nat.reduceAdd, Nat.reduceSub, Nat.reduceMul, Nat.reduceLT, Nat.reduceLeDiff, reduceCtorEq, Int.reduceToNat, Int.reduceLT, Int.reduceLE, Int.reduceAdd, Int.reduceSub, Int.reduceMul, Int.reduceNeg, Int.reduceEq, Nat.reduceMod, forall_eq_or_imp, forall_eq, forall_const, cond_true, cond_false, decide_true, decide_false, true_imp_iff, implies_true, Int.cast_ofNat_Int, forall_eq']
  unfold callK
  refine ⟨_, _, lcall_ro (ev_validName n.name) ?_, ?_⟩
  · simp only [↓EVP0, EVQ0, EVQ1, EVQ2, EVQ3, EVQ4, EVA, EVK, EVF, ↓reduceIte, Nat.reduceEqDiff, Nat.reduceAdd, Nat.reduceSub, Nat.reduceMul, Nat.reduceLT, Nat.reduceLeDiff, reduceCtorEq, Int.reduceToNat, Int.reduceLT, Int.reduceLE, Int.reduceAdd, Int.reduceSub, Int.reduceMul, Int.reduceNeg, Int.reduceEq, Nat.reduceMod, forall_eq_or_imp, forall_eq, forall_const, cond_true, cond_false, decide_true, decide_false, true_imp_iff, implies_true, Int.cast_ofNat_Int, forall_eq']
  simp only [↓EVP0, EVQ0, EVQ1, EVQ2, EVQ3, EVQ4, EVA, EVK, EVF, ↓reduceIte, Nat.reduceEqDiff, Nat.reduceAdd, Nat.reduceSub, Nat.reduceMul, Nat.reduceLT, Nat.reduceLeDiff, reduceCtorEq, Int.reduceToNat, Int.reduceLT, Int.reduceLE, Int.reduceAdd, Int.reduceSub, Int.reduceMul, Int.reduceNeg, Int.reduceEq, Nat.reduceMod, forall_eq_or_imp, forall_eq, forall_const, cond_true, cond_false, decide_true, decide_false, true_imp_iff, implies_true, Int.cast_ofNat_Int, forall_eq']
  unfold nodeOk
  refine ⟨fun hg => ?_, fun hg => ⟨fun h2 => ?_, fun h2 => ?_⟩⟩
  · simp at hg; simp [hg]
  · simp at hg; simp [hg, h2]
  · simp at hg; simp [hg, h2]
def portOk (p : Pl) (a ap : Int) : Bool := decide (0 ≤ a) && (decide (a < p.ns.length) && (decide (0 ≤ ap) && decide (ap < (p.ns.getD a.toNat default).ports)))
theorem ev_hasPort (p : Pl) (a ap : Int) : Ev Try.prog 34 [plV p, .sc (.int .i64 a), .sc (.int .i64 ap)] (.sc (.bool (portOk p a ap))) := by
  unfold plV
  refine ev_fn Try.func34 comp34 (show 3 ≤ Try.f34.ntmps by decide) ?_; unfold cf34 rf34; simp only [↓EVP0, EVQ0, EVQ1, EVQ2, EVQ3, EVQ4, EVA, EVK, EVF, ↓reduceIte, Nat.reduceEqDiff, Nat.reduceAdd, Nat.reduceSub, Nat.reduceMul, Nat.reduceLT, Nat.reduceLeDiff, reduceCtorEq, Int.reduceToNat, Int.reduceLT, Int.reduceLE, Int.reduceAdd, Int.reduceSub, Int.reduceMul, Int.reduceNeg, Int.reduceEq, Nat.reduceMod, forall_eq_or_imp, forall_eq, forall_const, cond_true, cond_false, decide_true, decide_false, true_imp_iff, implies_true, Int.cast_ofNat_Int, forall_eq']
  refine ⟨fun hg => ?_, ?_⟩
  · simp at hg; omega
  · unfold portOk
    cases decide (0 ≤ a) <;> cases decide (a < p.ns.length) <;> cases decide (0 ≤ ap) <;> simp

/-- The ends of a cable. -/
def endsC (c : Cb) : List (Int × Int) := [(c.a, c.ap), (c.b, c.bp)]
def endsOf (l : List Cb) : List (Int × Int) := l.flatMap endsC
def repOk (p : Pl) : Bool := !(decide (p.ns.map (·.name)).Nodup && decide (endsOf p.cs).Nodup)
def endV (e : Int × Int) : Value := .agg #[.int .i64 e.1, .int .i64 e.2]
theorem endV_inj (x y : Int × Int) (h : endV x = endV y) : x = y := by
  unfold endV at h
  injection h with h
  have h1 : (#[Value.int .i64 x.1, .int .i64 x.2] : Array Value).toList = (#[Value.int .i64 y.1, .int .i64 y.2] : Array Value).toList := by rw [h]
  simp at h1
  exact Prod.ext h1.1 h1.2
theorem take_succ_getD {α : Type} (d : α) (l : List α) (i : Nat) (h : i < l.length) : l.take (i + 1) = l.take i ++ [l.getD i d] := by
  rw [List.take_add_one, List.getElem?_eq_getElem h, List.getD_eq_getElem?_getD, List.getElem?_eq_getElem h]; rfl
theorem nodup_take {α : Type} {l : List α} {x : α} : (l ++ [x]).Nodup ↔ l.Nodup ∧ x ∉ l := by
  rw [List.nodup_append]
  constructor
  · rintro ⟨h1, _, h3⟩; exact ⟨h1, fun hx => h3 x hx x (by simp) rfl⟩
  · rintro ⟨h1, h2⟩; exact ⟨h1, by simp, fun a ha b hb => by simp at hb; subst hb; intro e; subst e; exact h2 ha⟩

theorem ev_repeats (p : Pl) (hp : PlOk p) : Ev Try.prog 35 [plV p] (.sc (.bool (repOk p))) := by
  unfold plV
  refine ev_fn Try.func35 comp35 (show 1 ≤ Try.f35.ntmps by decide) ?_; unfold cf35 rf35; simp only [↓EVP0, EVQ0, EVQ1, EVQ2, EVQ3, EVQ4, EVA, EVK, EVF, ↓reduceIte, Nat.reduceEqDiff, Nat.reduceAdd, Nat.reduceSub, Nat.reduceMul, Nat.reduceLT, Nat.reduceLeDiff, reduceCtorEq, Int.reduceToNat, Int.reduceLT, Int.reduceLE, Int.reduceAdd, Int.reduceSub, Int.reduceMul, Int.reduceNeg, Int.reduceEq, Nat.reduceMod, forall_eq_or_imp, forall_eq, forall_const, cond_true, cond_false, decide_true, decide_false, true_imp_iff, implies_true, Int.cast_ofNat_Int, forall_eq']
  intro hn
  have hname : ∀ i, i < p.ns.length → (p.ns.getD i default).name.size ≤ 9223372036854775807 := fun i hi => by
    rw [List.getD_eq_getElem?_getD, List.getElem?_eq_getElem hi]; exact (hp.nm _ (List.getElem_mem hi)).1
  refine lwp_for (α := Unit) p.ns.length (fun i m => ((p.ns.take i).map (·.name)).Nodup) (fun i m => [(1, .ptr 0 0 0 0 0), (3, .mp 1 0), (13, .rsl 3 p.ns.length (ndsF p.ns)), (14, .sc (.int .i64 p.ns.length)), (15, .sc (.int .i64 i))])
    (fun i m => [(0, .box [.rsl 3 p.ns.length (ndsF p.ns), .rsl 6 p.cs.length (cbsF p.cs)]), (0, .map (setM Value.string ((p.ns.take i).map (·.name))))]) () ?_ ?_ (fun _ _ => Nat.zero_le _) ?_
  · simp
  · simp only [↓EVP0, EVQ0, EVQ1, EVQ2, EVQ3, EVQ4, EVA, EVK, EVF, ↓reduceIte, Nat.reduceEqDiff, Nat.reduceAdd, Nat.reduceSub, Nat.reduceMul, Nat.reduceLT, Nat.reduceLeDiff, reduceCtorEq, Int.reduceToNat, Int.reduceLT, Int.reduceLE, Int.reduceAdd, Int.reduceSub, Int.reduceMul, Int.reduceNeg, Int.reduceEq, Nat.reduceMod, forall_eq_or_imp, forall_eq, forall_const, cond_true, cond_false, decide_true, decide_false, true_imp_iff, implies_true, Int.cast_ofNat_Int, forall_eq']
    simp [setM, allC]
  intro i m hi hx
  unfold lb35_2
  simp only [↓EVP0, EVQ0, EVQ1, EVQ2, EVQ3, EVQ4, EVA, EVK, EVF, ↓reduceIte, Nat.reduceEqDiff, Nat.reduceAdd, Nat.reduceSub, Nat.reduceMul, Nat.reduceLT, Nat.reduceLeDiff, reduceCtorEq, Int.reduceToNat, Int.reduceLT, Int.reduceLE, Int.reduceAdd, Int.reduceSub, Int.reduceMul, Int.reduceNeg, Int.reduceEq, Nat.reduceMod, forall_eq_or_imp, forall_eq, forall_const, cond_true, cond_false, decide_true, decide_false, true_imp_iff, implies_true, Int.cast_ofNat_Int, forall_eq']
  refine ⟨fun hg => ?_, fun hg => ?_⟩
  · have hi2 : i < p.ns.length := by simpa using hg
    have hs : (p.ns.take (i + 1)).map (·.name) = (p.ns.take i).map (·.name) ++ [(p.ns.getD i default).name] := by
      rw [take_succ_getD default _ _ hi2]; simp
    have hk : keysOk Try.prog 9 (setM Value.string ((p.ns.take i).map (·.name))) (Value.string (p.ns.getD i default).name) := by
      refine keys_setM fun y hy => key_str (by kernel_rfl) ?_
      rcases List.mem_cons.1 hy with rfl | hy
      · exact hname i hi2
      · simp only [List.mem_map] at hy
        obtain ⟨n, hn, rfl⟩ := hy
        exact (hp.nm n (List.mem_of_mem_take hn)).1
    have hinj : ∀ x y : ByteArray, Value.string x = Value.string y → x = y := fun x y h => by injection h
    rw [mfind_setM hinj]
    by_cases hin : (p.ns.getD i default).name ∈ (p.ns.take i).map (·.name)
    · rw [if_pos hin]
      simp only [Option.getD_some]
      simp only [↓EVP0, EVQ0, EVQ1, EVQ2, EVQ3, EVQ4, EVA, EVK, EVF, ↓reduceIte, Nat.reduceEqDiff, Nat.reduceAdd, Nat.reduceSub, Nat.reduceMul, Nat.reduceLT, Nat.reduceLeDiff, reduceCtorEq, Int.reduceToNat, Int.reduceLT, Int.reduceLE, Int.reduceAdd, Int.reduceSub, Int.reduceMul, Int.reduceNeg, Int.reduceEq, Nat.reduceMod, forall_eq_or_imp, forall_eq, forall_const, cond_true, cond_false, decide_true, decide_false, true_imp_iff, implies_true, Int.cast_ofNat_Int, forall_eq']
      refine ⟨⟨by omega, by omega⟩, hk, ?_⟩
      have h1 : ¬ (p.ns.map (·.name)).Nodup := by
        intro hd
        have : ((p.ns.take (i + 1)).map (·.name)).Nodup := by rw [List.map_take]; exact hd.sublist (List.take_sublist _ _)
        rw [hs, nodup_take] at this
        exact this.2 hin
      simp [repOk, h1]
    · rw [if_neg hin, mput_setM hinj _ _ hin, hs, nodup_take]
      simp only [Option.getD_none]
      simp only [↓EVP0, EVQ0, EVQ1, EVQ2, EVQ3, EVQ4, EVA, EVK, EVF, ↓reduceIte, Nat.reduceEqDiff, Nat.reduceAdd, Nat.reduceSub, Nat.reduceMul, Nat.reduceLT, Nat.reduceLeDiff, reduceCtorEq, Int.reduceToNat, Int.reduceLT, Int.reduceLE, Int.reduceAdd, Int.reduceSub, Int.reduceMul, Int.reduceNeg, Int.reduceEq, Nat.reduceMod, forall_eq_or_imp, forall_eq, forall_const, cond_true, cond_false, decide_true, decide_false, true_imp_iff, implies_true, Int.cast_ofNat_Int, forall_eq']
      refine ⟨⟨by omega, by omega⟩, hk, hk, by unfold In64; omega, hi2, (), ⟨hx, hin⟩, allC_setM _ _⟩
  intro hm
  have hii : i = p.ns.length := by simp at hg; omega
  subst hii
  rw [List.take_length] at hx ⊢
  have hel : ∀ i, i < p.cs.length → In64 (p.cs.getD i default).a ∧ In64 (p.cs.getD i default).ap ∧ In64 (p.cs.getD i default).b ∧ In64 (p.cs.getD i default).bp := fun i hi => by
    rw [List.getD_eq_getElem?_getD, List.getElem?_eq_getElem hi]
    obtain ⟨h1, h2, h3, h4, _⟩ := hp.cb _ (List.getElem_mem hi)
    exact ⟨h1, h2, h3, h4⟩
  refine lwp_for (α := Unit) p.cs.length (fun i m => (endsOf (p.cs.take i)).Nodup) (fun i m => [(6, .mp 2 0), (29, .rsl 6 p.cs.length (cbsF p.cs)), (30, .sc (.int .i64 p.cs.length)), (31, .sc (.int .i64 i))])
    (fun i m => [(0, .box [.rsl 3 p.ns.length (ndsF p.ns), .rsl 6 p.cs.length (cbsF p.cs)]), (0, .map (setM Value.string (p.ns.map (·.name)))), (0, .map (setM endV (endsOf (p.cs.take i))))]) () ?_ ?_ (fun _ _ => Nat.zero_le _) ?_
  · simp [endsOf]
  · simp only [↓EVP0, EVQ0, EVQ1, EVQ2, EVQ3, EVQ4, EVA, EVK, EVF, ↓reduceIte, Nat.reduceEqDiff, Nat.reduceAdd, Nat.reduceSub, Nat.reduceMul, Nat.reduceLT, Nat.reduceLeDiff, reduceCtorEq, Int.reduceToNat, Int.reduceLT, Int.reduceLE, Int.reduceAdd, Int.reduceSub, Int.reduceMul, Int.reduceNeg, Int.reduceEq, Nat.reduceMod, forall_eq_or_imp, forall_eq, forall_const, cond_true, cond_false, decide_true, decide_false, true_imp_iff, implies_true, Int.cast_ofNat_Int, forall_eq']
    exact ⟨allC_setM _ _, rfl, allC_setM _ _⟩
  intro i m hi hx2
  unfold lb35_1
  simp only [↓EVP0, EVQ0, EVQ1, EVQ2, EVQ3, EVQ4, EVA, EVK, EVF, ↓reduceIte, Nat.reduceEqDiff, Nat.reduceAdd, Nat.reduceSub, Nat.reduceMul, Nat.reduceLT, Nat.reduceLeDiff, reduceCtorEq, Int.reduceToNat, Int.reduceLT, Int.reduceLE, Int.reduceAdd, Int.reduceSub, Int.reduceMul, Int.reduceNeg, Int.reduceEq, Nat.reduceMod, forall_eq_or_imp, forall_eq, forall_const, cond_true, cond_false, decide_true, decide_false, true_imp_iff, implies_true, Int.cast_ofNat_Int, forall_eq']
  refine ⟨fun hg => ?_, fun hg => ?_⟩
  · have hi2 : i < p.cs.length := by simpa using hg
    obtain ⟨b1, b2, b3, b4⟩ := hel i hi2
    generalize hc : p.cs.getD i default = c at b1 b2 b3 b4 ⊢
    have hs : endsOf (p.cs.take (i + 1)) = endsOf (p.cs.take i) ++ endsC c := by
      rw [take_succ_getD default _ _ hi2, hc]; simp [endsOf]
    have hks : ∀ y, y ∈ endsOf (p.cs.take i) ++ endsC c → In64 y.1 ∧ In64 y.2 := by
      intro y hy
      rcases List.mem_append.1 hy with hy | hy
      · simp only [endsOf, List.mem_flatMap] at hy
        obtain ⟨q, hq, hy⟩ := hy
        obtain ⟨g1, g2, g3, g4, _⟩ := hp.cb q (List.mem_of_mem_take hq)
        simp only [endsC, List.mem_cons, List.not_mem_nil, or_false] at hy
        rcases hy with rfl | rfl <;> simp [*]
      · simp only [endsC, List.mem_cons, List.not_mem_nil, or_false] at hy
        rcases hy with rfl | rfl <;> simp [*]
    have hkey : ∀ y, In64 y.1 ∧ In64 y.2 → (keyOf Try.prog 73 (endV y)).isSome = true := fun y hy => key_arr2 (e := 3) (by kernel_rfl) (by kernel_rfl) (by kernel_rfl) (by kernel_rfl) (by kernel_rfl) (by decide) hy.1 hy.2
    have hnd : ∀ e q, e ∈ q → ¬ (q ++ [e] : List (Int × Int)).Nodup := fun e q he h => (nodup_take.1 h).2 he
    have hrep : ∀ q, q <+: endsOf (p.cs.take i) ++ endsC c → ¬ q.Nodup → repOk p = true := by
      intro q hq hn
      have h1 : ¬ (endsOf p.cs).Nodup := by
        intro hd
        apply hn
        have h2 : (endsOf (p.cs.take (i + 1))).Nodup := by
          refine hd.sublist ?_
          unfold endsOf
          conv => rhs; rw [← List.take_append_drop (i + 1) p.cs, List.flatMap_append]
          exact List.sublist_append_left _ _
        rw [hs] at h2
        exact h2.sublist hq.sublist
      simp [repOk, h1]
    refine ⟨⟨by omega, by omega⟩, ?_⟩
    generalize hL : endsOf (p.cs.take i) = L at *
    refine lwp_for (α := Unit) 2 (fun j m => (L ++ (endsC c).take j).Nodup) (fun j m => [(6, .mp 2 0), (29, .rsl 6 p.cs.length (cbsF p.cs)), (30, .sc (.int .i64 p.cs.length)), (31, .sc (.int .i64 i)), (45, .agg [.sc (.int .i64 c.a), .sc (.int .i64 c.ap), .sc (.int .i64 c.b), .sc (.int .i64 c.bp)]), (46, .sc (.int .i64 j))])
      (fun j m => [(0, .box [.rsl 3 p.ns.length (ndsF p.ns), .rsl 6 p.cs.length (cbsF p.cs)]), (0, .map (setM Value.string (p.ns.map (·.name)))), (0, .map (setM endV (L ++ (endsC c).take j)))]) () ?_ ?_ (fun _ _ => Nat.zero_le _) ?_
    · simpa using hx2
    · simp only [↓EVP0, EVQ0, EVQ1, EVQ2, EVQ3, EVQ4, EVA, EVK, EVF, ↓reduceIte, Nat.reduceEqDiff, Nat.reduceAdd, Nat.reduceSub, Nat.reduceMul, Nat.reduceLT, Nat.reduceLeDiff, reduceCtorEq, Int.reduceToNat, Int.reduceLT, Int.reduceLE, Int.reduceAdd, Int.reduceSub, Int.reduceMul, Int.reduceNeg, Int.reduceEq, Nat.reduceMod, forall_eq_or_imp, forall_eq, forall_const, cond_true, cond_false, decide_true, decide_false, true_imp_iff, implies_true, Int.cast_ofNat_Int, forall_eq']
      simp only [List.append_nil]
      exact ⟨allC_setM _ _, trivial, allC_setM _ _⟩
    intro j _ hj hx3
    unfold lb35_0
    have hstep : ∀ (q : List (Int × Int)) (e : Int × Int), (∃ r, q ++ [e] ++ r = L ++ endsC c) → q.Nodup → keysOk Try.prog 73 (setM endV q) (endV e) ∧ ((e ∈ q ∧ mfind (setM endV q) (endV e) = some (.sc (.bool true)) ∧ repOk p = true) ∨ (e ∉ q ∧ mfind (setM endV q) (endV e) = none ∧ (q ++ [e]).Nodup ∧ mput (setM endV q) (endV e) (.sc (.bool true)) = setM endV (q ++ [e]))) := by
      rintro q e ⟨r, hr⟩ hq
      have hsub : ∀ y, y ∈ e :: q → In64 y.1 ∧ In64 y.2 := fun y hy => hks y (by rw [← hr]; simp at hy ⊢; rcases hy with h | h <;> simp [h])
      refine ⟨keys_setM fun y hy => hkey y (hsub y hy), ?_⟩
      rw [mfind_setM endV_inj]
      by_cases he : e ∈ q
      · exact .inl ⟨he, if_pos he, hrep (q ++ [e]) ⟨r, hr⟩ (hnd e q he)⟩
      · exact .inr ⟨he, if_neg he, nodup_take.2 ⟨hq, he⟩, mput_setM endV_inj _ _ he⟩
    obtain rfl | rfl | rfl : j = 0 ∨ j = 1 ∨ j = 2 := by omega
    · obtain ⟨hk, ⟨h1, h2, h3⟩ | ⟨h1, h2, h3, h4⟩⟩ := hstep L (c.a, c.ap) ⟨[(c.b, c.bp)], by simp [endsC]⟩ hx2
      · simp only [endV] at h2 hk
        simp only [↓EVP0, EVQ0, EVQ1, EVQ2, EVQ3, EVQ4, EVA, EVK, EVF, ↓reduceIte, Nat.reduceEqDiff, Nat.reduceAdd, Nat.reduceSub, Nat.reduceMul, Nat.reduceLT, Nat.reduceLeDiff, reduceCtorEq, Int.reduceToNat, Int.reduceLT, Int.reduceLE, Int.reduceAdd, Int.reduceSub, Int.reduceMul, Int.reduceNeg, Int.reduceEq, Nat.reduceMod, forall_eq_or_imp, forall_eq, forall_const, cond_true, cond_false, decide_true, decide_false, true_imp_iff, implies_true, Int.cast_ofNat_Int, forall_eq']
        simp only [endsC, List.take_zero, List.append_nil, h2, Option.getD_some]
        simp only [↓EVP0, EVQ0, EVQ1, EVQ2, EVQ3, EVQ4, EVA, EVK, EVF, ↓reduceIte, Nat.reduceEqDiff, Nat.reduceAdd, Nat.reduceSub, Nat.reduceMul, Nat.reduceLT, Nat.reduceLeDiff, reduceCtorEq, Int.reduceToNat, Int.reduceLT, Int.reduceLE, Int.reduceAdd, Int.reduceSub, Int.reduceMul, Int.reduceNeg, Int.reduceEq, Nat.reduceMod, forall_eq_or_imp, forall_eq, forall_const, cond_true, cond_false, decide_true, decide_false, true_imp_iff, implies_true, Int.cast_ofNat_Int, forall_eq']
        exact ⟨hk, h3.symm⟩
      · simp only [endV] at h2 hk h4
        simp only [↓EVP0, EVQ0, EVQ1, EVQ2, EVQ3, EVQ4, EVA, EVK, EVF, ↓reduceIte, Nat.reduceEqDiff, Nat.reduceAdd, Nat.reduceSub, Nat.reduceMul, Nat.reduceLT, Nat.reduceLeDiff, reduceCtorEq, Int.reduceToNat, Int.reduceLT, Int.reduceLE, Int.reduceAdd, Int.reduceSub, Int.reduceMul, Int.reduceNeg, Int.reduceEq, Nat.reduceMod, forall_eq_or_imp, forall_eq, forall_const, cond_true, cond_false, decide_true, decide_false, true_imp_iff, implies_true, Int.cast_ofNat_Int, forall_eq']
        simp only [endsC, List.take_zero, List.append_nil, h2, Option.getD_none]
        simp only [↓EVP0, EVQ0, EVQ1, EVQ2, EVQ3, EVQ4, EVA, EVK, EVF, ↓reduceIte, Nat.reduceEqDiff, Nat.reduceAdd, Nat.reduceSub, Nat.reduceMul, Nat.reduceLT, Nat.reduceLeDiff, reduceCtorEq, Int.reduceToNat, Int.reduceLT, Int.reduceLE, Int.reduceAdd, Int.reduceSub, Int.reduceMul, Int.reduceNeg, Int.reduceEq, Nat.reduceMod, forall_eq_or_imp, forall_eq, forall_const, cond_true, cond_false, decide_true, decide_false, true_imp_iff, implies_true, Int.cast_ofNat_Int, forall_eq']
        exact ⟨hk, hk, by unfold In64; decide, (), h3, allC_setM _ _, h4, allC_setM _ _⟩
    · obtain ⟨hk, ⟨h1, h2, h3⟩ | ⟨h1, h2, h3, h4⟩⟩ := hstep (L ++ [(c.a, c.ap)]) (c.b, c.bp) ⟨[], by simp [endsC]⟩ hx3
      · simp only [endV] at h2 hk
        simp only [↓EVP0, EVQ0, EVQ1, EVQ2, EVQ3, EVQ4, EVA, EVK, EVF, ↓reduceIte, Nat.reduceEqDiff, Nat.reduceAdd, Nat.reduceSub, Nat.reduceMul, Nat.reduceLT, Nat.reduceLeDiff, reduceCtorEq, Int.reduceToNat, Int.reduceLT, Int.reduceLE, Int.reduceAdd, Int.reduceSub, Int.reduceMul, Int.reduceNeg, Int.reduceEq, Nat.reduceMod, forall_eq_or_imp, forall_eq, forall_const, cond_true, cond_false, decide_true, decide_false, true_imp_iff, implies_true, Int.cast_ofNat_Int, forall_eq']
        simp only [endsC, List.take_succ_cons, List.take_zero, h2, Option.getD_some]
        simp only [↓EVP0, EVQ0, EVQ1, EVQ2, EVQ3, EVQ4, EVA, EVK, EVF, ↓reduceIte, Nat.reduceEqDiff, Nat.reduceAdd, Nat.reduceSub, Nat.reduceMul, Nat.reduceLT, Nat.reduceLeDiff, reduceCtorEq, Int.reduceToNat, Int.reduceLT, Int.reduceLE, Int.reduceAdd, Int.reduceSub, Int.reduceMul, Int.reduceNeg, Int.reduceEq, Nat.reduceMod, forall_eq_or_imp, forall_eq, forall_const, cond_true, cond_false, decide_true, decide_false, true_imp_iff, implies_true, Int.cast_ofNat_Int, forall_eq']
        exact ⟨hk, h3.symm⟩
      · simp only [endV] at h2 hk h4
        simp only [↓EVP0, EVQ0, EVQ1, EVQ2, EVQ3, EVQ4, EVA, EVK, EVF, ↓reduceIte, Nat.reduceEqDiff, Nat.reduceAdd, Nat.reduceSub, Nat.reduceMul, Nat.reduceLT, Nat.reduceLeDiff, reduceCtorEq, Int.reduceToNat, Int.reduceLT, Int.reduceLE, Int.reduceAdd, Int.reduceSub, Int.reduceMul, Int.reduceNeg, Int.reduceEq, Nat.reduceMod, forall_eq_or_imp, forall_eq, forall_const, cond_true, cond_false, decide_true, decide_false, true_imp_iff, implies_true, Int.cast_ofNat_Int, forall_eq']
        simp only [endsC, List.take_succ_cons, List.take_zero, h2, Option.getD_none]
        simp only [↓EVP0, EVQ0, EVQ1, EVQ2, EVQ3, EVQ4, EVA, EVK, EVF, ↓reduceIte, Nat.reduceEqDiff, Nat.reduceAdd, Nat.reduceSub, Nat.reduceMul, Nat.reduceLT, Nat.reduceLeDiff, reduceCtorEq, Int.reduceToNat, Int.reduceLT, Int.reduceLE, Int.reduceAdd, Int.reduceSub, Int.reduceMul, Int.reduceNeg, Int.reduceEq, Nat.reduceMod, forall_eq_or_imp, forall_eq, forall_const, cond_true, cond_false, decide_true, decide_false, true_imp_iff, implies_true, Int.cast_ofNat_Int, forall_eq']
        simp only [List.append_assoc, List.cons_append, List.nil_append] at h3 h4
        exact ⟨hk, hk, by unfold In64; decide, (), h3, allC_setM _ _, h4, allC_setM _ _⟩
    · simp only [↓EVP0, EVQ0, EVQ1, EVQ2, EVQ3, EVQ4, EVA, EVK, EVF, ↓reduceIte, Nat.reduceEqDiff, Nat.reduceAdd, Nat.reduceSub, Nat.reduceMul, Nat.reduceLT, Nat.reduceLeDiff, reduceCtorEq, Int.reduceToNat, Int.reduceLT, Int.reduceLE, Int.reduceAdd, Int.reduceSub, Int.reduceMul, Int.reduceNeg, Int.reduceEq, Nat.reduceMod, forall_eq_or_imp, forall_eq, forall_const, cond_true, cond_false, decide_true, decide_false, true_imp_iff, implies_true, Int.cast_ofNat_Int, forall_eq']
      have hq : L ++ List.take 2 (endsC c) = endsOf (p.cs.take (i + 1)) := by rw [hs]; rfl
      rw [hq] at hx3 ⊢
      exact ⟨by unfold In64; omega, hi2, (), hx3, allC_setM _ _, rfl, allC_setM _ _⟩
  · have hii : i = p.cs.length := by simp at hg; omega
    subst hii
    rw [List.take_length] at hx2
    simp [repOk, hx, hx2]
end Go.Proofs.Ytggaonafmiklaaa
