/- Chapter 33: demand.Parse, walked: the whole; Chapter 33: demand.Parse: what it hands back; Chapter 33: the reference's words; Chapter 33: the reference's flow; Chapter 33: the reference's reading of a net, in plain terms; Chapter 33: the reference's Parse, walked; Chapter 33: the reference reads a net's text as Parse does; Chapter 33: a net's text is read as that net, and what was read has the string as its text; Chapter 33: what was read has the string as its text; Chapter 33: the reference's text of a net; Chapter 33: equal nets; Chapter 33: the laws of texts; What a world must hold, from what a row lists and from the shape of the variables. Conditions: none. -/
import Derived.Test.YtdfiicpikcdokaaGreatDoorMH
import Derived.Lib.LaidTab
import Derived.Stop.LaidErr
import Derived.KernelRfl
import Derived.Shelf.Vars
import Derived.FnData
namespace Go.Proofs.YtdfiicpikcdokaaGreatDoor
set_option linter.unusedSimpArgs false
set_option linter.unusedVariables false
open Go.RowKit
set_option maxRecDepth 20000

theorem end_of {P : Program} {fn : Func} {N : Nat} {l : List RX} {r : LV} {R R1 : RO} {ι0 ι1 : IM} {h : LH} {s : LS} {a : Act} {w w' : World} (hl : cRes P fn.results.toList = some l) (hR : ∀ b o, R b = some o → w.heap[b]? = some o) (hT : Trans w.heap.size R ι0 LH.empty w R1 ι1 h w') (hA : ActOk N (unD a) s R1 ι1 h) (hq : fin l r s h) :
    ∃ v, (results fn a.tmps).run P w' = .ok v w' ∧ ∃ v' R', Ending.returned v = .returned v' ∧ RoLe R R' ∧ (∀ b, b < w.heap.size → R' b = R b) ∧ (∀ b o, R' b = some o → w'.heap[b]? = some o) ∧ Below w.heap.size w w' ∧ Ro R' r v' := by
  obtain ⟨v, hv1, hv2⟩ := out_ok hT.rep hA hl hq.1
  refine ⟨v, hv1, v, fun b => if b < w.heap.size then R b else w'.heap[b]?, rfl, ?_, ?_, ?_, hT.below, ?_⟩
  · intro b o hbo
    have h1 := hR b o hbo
    have h2 := (Array.getElem?_eq_some_iff.1 h1).1
    simp only [h2, if_true]; exact hbo
  · intro b hb; simp [hb]
  · intro b o hbo
    by_cases hlt : b < w.heap.size
    · simp only [hlt, if_true] at hbo
      rw [hT.below.block b hlt]; exact hR b o hbo
    · simp only [hlt, if_false] at hbo; exact hbo
  · refine roTo3_ok hT.rep ?_ ?_ hv2 hq.2
    · intro b o hbo
      by_cases hlt : b < w.heap.size
      · simp only [hlt, if_true]; rw [← hT.rob b hlt]; exact hbo
      · simp only [hlt, if_false]; exact hT.rep.ro b o hbo
    · intro k hk h1 h3
      have := (hT.rep.base k hk h1 h3).1
      simp only [show ¬ (ι1 k).b < w.heap.size by omega, if_false]
def prR (RES : Nt × Int × Int) : LV := .tup [netV RES.1, .sc (.int .i64 RES.2.1), .sc (.int .i64 RES.2.2)]
def prX : List RX := [.cell 2 (some 2), .cell 3 none, .cell 4 none]
theorem pr_res : cRes Tryz.prog Tryz.f9.results.toList = some prX := by kernel_rfl
theorem lc_lines (s : By) (l : List (Nat × LO)) (hl : l = [(0, .box [.nsl, .nsl]), (0, .box [.sc (.int .i64 0)]), (0, .box [.sc (.int .i64 0)]), (0, .box [.nsl, .nsl]), (0, .box [.sc (.int .i64 0)])]) : LCall Tryz.prog 23 [.sc (.string (strB s))] (mkH l) (.fn 43 [.ptr 5 0 0 0 0]) (mkH (l ++ [(0, .box [.sc (.string (strB s))])])) := by
  subst hl
  refine lcall_of_lwp Tryz.func23 comp23 (show 1 ≤ Tryz.f23.ntmps by decide) (by simp [mkH]) ?_
  unfold cf23 rf23
  simp only [↓EVP0, EVQ0, EVQ1, EVQ2, EVQ3, EVQ4, EVA, EVK, EVFD,EVFT, ↓reduceIte, Nat.reduceEqDiff, Nat.reduceAdd, Nat.reduceSub, Nat.reduceMul, Nat.reduceLT, Nat.reduceLeDiff, reduceCtorEq, Int.reduceToNat, Int.reduceLT, Int.reduceLE, Int.reduceAdd, Int.reduceSub, Int.reduceMul, Int.reduceNeg, Int.reduceEq, Nat.reduceMod, forall_eq_or_imp, forall_eq, forall_const, cond_true, cond_false, decide_true, decide_false, true_imp_iff, implies_true, Int.cast_ofNat_Int, forall_eq']
  unfold fin2
  simp only [↓EVP0, EVQ0, EVQ1, EVQ2, EVQ3, EVQ4, EVA, EVK, EVFD,EVFT, ↓reduceIte, Nat.reduceEqDiff, Nat.reduceAdd, Nat.reduceSub, Nat.reduceMul, Nat.reduceLT, Nat.reduceLeDiff, reduceCtorEq, Int.reduceToNat, Int.reduceLT, Int.reduceLE, Int.reduceAdd, Int.reduceSub, Int.reduceMul, Int.reduceNeg, Int.reduceEq, Nat.reduceMod, forall_eq_or_imp, forall_eq, forall_const, cond_true, cond_false, decide_true, decide_false, true_imp_iff, implies_true, Int.cast_ofNat_Int, forall_eq']
theorem pr_pre (s : By) (RES : Nt × Int × Int) (hs : s.length ≤ 100000) (hR : 65536 < s.length → RES = (emN, 0, 5)) : lwp Tryz.prog 0 lcP0 (fun s1 h1 => lwp Tryz.prog 0 lcP1 (fun s1 h1 => lwp Tryz.prog 0 lcP2 (fun s1 h1 => lwp Tryz.prog 0 lcP3 (fun s1 h1 => lwp Tryz.prog 0 lcP4
    (fun s1 h1 => s.length ≤ 65536 ∧ (s1 2 = .ptr 0 0 0 0 0 ∧ s1 3 = .ptr 1 0 0 0 0 ∧ s1 4 = .ptr 2 0 0 0 0 ∧ s1 5 = .ptr 3 0 0 0 0 ∧ s1 6 = .ptr 4 0 0 0 0 ∧ s1 15 = .fn 43 [.ptr 5 0 0 0 0]) ∧
      h1 = mkH [(0, .box [.nsl, .nsl]), (0, .box [.sc (.int .i64 0)]), (0, .box [.sc (.int .i64 0)]), (0, .box [.nsl, .nsl]), (0, .box [.sc (.int .i64 0)]), (0, .box [.sc (.string (strB s))])])
    (fun _ _ _ => False) (fun _ _ => False) s1 h1) (fun _ _ _ => False) (fun _ _ => False) s1 h1) (fun _ _ _ => False) (fun _ _ => False) s1 h1) (fun _ _ _ => False) (fin prX (prR RES)) s1 h1) (fun _ _ _ => False) (fun _ _ => False) (argS [.sc (.string (strB s))] 0) LH.empty := by
  have h1 := lc_lines s _ rfl
  unfold lcP0 lcP1 lcP2 lcP3 lcP4
  simp only [↓EVP0, EVQ0, EVQ1, EVQ2, EVQ3, EVQ4, EVA, EVK, EVFD,EVFT, ↓reduceIte, Nat.reduceEqDiff, Nat.reduceAdd, Nat.reduceSub, Nat.reduceMul, Nat.reduceLT, Nat.reduceLeDiff, reduceCtorEq, Int.reduceToNat, Int.reduceLT, Int.reduceLE, Int.reduceAdd, Int.reduceSub, Int.reduceMul, Int.reduceNeg, Int.reduceEq, Nat.reduceMod, forall_eq_or_imp, forall_eq, forall_const, cond_true, cond_false, decide_true, decide_false, true_imp_iff, implies_true, Int.cast_ofNat_Int, forall_eq']
  rw [strB_size]
  refine ⟨fun h => ?_, fun h => ?_⟩
  · have := of_decide_eq_true h
    rw [hR (by omega)]
    unfold prX prR netV emN
    simp only [↓EVP0, EVQ0, EVQ1, EVQ2, EVQ3, EVQ4, EVA, EVK, EVFD,EVFT, ↓reduceIte, Nat.reduceEqDiff, Nat.reduceAdd, Nat.reduceSub, Nat.reduceMul, Nat.reduceLT, Nat.reduceLeDiff, reduceCtorEq, Int.reduceToNat, Int.reduceLT, Int.reduceLE, Int.reduceAdd, Int.reduceSub, Int.reduceMul, Int.reduceNeg, Int.reduceEq, Nat.reduceMod, forall_eq_or_imp, forall_eq, forall_const, cond_true, cond_false, decide_true, decide_false, true_imp_iff, implies_true, Int.cast_ofNat_Int, forall_eq']
  · have := of_decide_eq_false h
    refine callK_mut h1 ?_
    simp only [List.cons_append, List.nil_append]
    simp only [↓EVP0, EVQ0, EVQ1, EVQ2, EVQ3, EVQ4, EVA, EVK, EVFD,EVFT, ↓reduceIte, Nat.reduceEqDiff, Nat.reduceAdd, Nat.reduceSub, Nat.reduceMul, Nat.reduceLT, Nat.reduceLeDiff, reduceCtorEq, Int.reduceToNat, Int.reduceLT, Int.reduceLE, Int.reduceAdd, Int.reduceSub, Int.reduceMul, Int.reduceNeg, Int.reduceEq, Nat.reduceMod, forall_eq_or_imp, forall_eq, forall_const, cond_true, cond_false, decide_true, decide_false, true_imp_iff, implies_true, Int.cast_ofNat_Int, forall_eq']
    omega
theorem pr_post (n : Nt) (i : Int) (hn : NtOk n) : lwp Tryz.prog (mkH (nhO n i [])).n lcP7 (fin prX (prR (if vldN n = true then (n, 0, 0) else (emN, 0, 1)))) (fun _ _ _ => False) (fin prX (prR (if vldN n = true then (n, 0, 0) else (emN, 0, 1)))) sO (mkH (nhO n i [])) := by
  have h1 := ev_validN n hn
  unfold lcP7 sO nhO ntB caO flO
  unfold netV at h1
  simp only [↓EVP0, EVQ0, EVQ1, EVQ2, EVQ3, EVQ4, EVA, EVK, EVFD,EVFT, ↓reduceIte, Nat.reduceEqDiff, Nat.reduceAdd, Nat.reduceSub, Nat.reduceMul, Nat.reduceLT, Nat.reduceLeDiff, reduceCtorEq, Int.reduceToNat, Int.reduceLT, Int.reduceLE, Int.reduceAdd, Int.reduceSub, Int.reduceMul, Int.reduceNeg, Int.reduceEq, Nat.reduceMod, forall_eq_or_imp, forall_eq, forall_const, cond_true, cond_false, decide_true, decide_false, true_imp_iff, implies_true, Int.cast_ofNat_Int, forall_eq']
  refine callK_frz h1 ?_ trivial ?_
  · simp only [↓EVP0, EVQ0, EVQ1, EVQ2, EVQ3, EVQ4, EVA, EVK, EVFD,EVFT, ↓reduceIte, Nat.reduceEqDiff, Nat.reduceAdd, Nat.reduceSub, Nat.reduceMul, Nat.reduceLT, Nat.reduceLeDiff, reduceCtorEq, Int.reduceToNat, Int.reduceLT, Int.reduceLE, Int.reduceAdd, Int.reduceSub, Int.reduceMul, Int.reduceNeg, Int.reduceEq, Nat.reduceMod, forall_eq_or_imp, forall_eq, forall_const, cond_true, cond_false, decide_true, decide_false, true_imp_iff, implies_true, Int.cast_ofNat_Int, forall_eq']
    exact ⟨⟨⟨Nat.le_refl _, fun k hk => by rw [apF_rt hk]; rfl⟩, fun k hk => apF_rt hk⟩, ⟨Nat.le_refl _, fun k hk => by rw [apF_fl hk]; rfl⟩, fun k hk => apF_fl hk⟩
  simp only [↓EVP0, EVQ0, EVQ1, EVQ2, EVQ3, EVQ4, EVA, EVK, EVFD,EVFT, ↓reduceIte, Nat.reduceEqDiff, Nat.reduceAdd, Nat.reduceSub, Nat.reduceMul, Nat.reduceLT, Nat.reduceLeDiff, reduceCtorEq, Int.reduceToNat, Int.reduceLT, Int.reduceLE, Int.reduceAdd, Int.reduceSub, Int.reduceMul, Int.reduceNeg, Int.reduceEq, Nat.reduceMod, forall_eq_or_imp, forall_eq, forall_const, cond_true, cond_false, decide_true, decide_false, true_imp_iff, implies_true, Int.cast_ofNat_Int, forall_eq']
  cases hv : vldN n with
  | false =>
    rw [if_neg (by decide)]
    unfold prX prR netV emN
    refine ⟨fun _ => ?_, fun h => by cases h⟩
    simp only [↓EVP0, EVQ0, EVQ1, EVQ2, EVQ3, EVQ4, EVA, EVK, EVFD,EVFT, ↓reduceIte, Nat.reduceEqDiff, Nat.reduceAdd, Nat.reduceSub, Nat.reduceMul, Nat.reduceLT, Nat.reduceLeDiff, reduceCtorEq, Int.reduceToNat, Int.reduceLT, Int.reduceLE, Int.reduceAdd, Int.reduceSub, Int.reduceMul, Int.reduceNeg, Int.reduceEq, Nat.reduceMod, forall_eq_or_imp, forall_eq, forall_const, cond_true, cond_false, decide_true, decide_false, true_imp_iff, implies_true, Int.cast_ofNat_Int, forall_eq']
  | true =>
    rw [if_pos rfl]
    unfold prX prR netV
    refine ⟨fun h => (by cases h), fun _ => ?_⟩
    simp only [↓EVP0, EVQ0, EVQ1, EVQ2, EVQ3, EVQ4, EVA, EVK, EVFD,EVFT, ↓reduceIte, Nat.reduceEqDiff, Nat.reduceAdd, Nat.reduceSub, Nat.reduceMul, Nat.reduceLT, Nat.reduceLeDiff, reduceCtorEq, Int.reduceToNat, Int.reduceLT, Int.reduceLE, Int.reduceAdd, Int.reduceSub, Int.reduceMul, Int.reduceNeg, Int.reduceEq, Nat.reduceMod, forall_eq_or_imp, forall_eq, forall_const, cond_true, cond_false, decide_true, decide_false, true_imp_iff, implies_true, Int.cast_ofNat_Int, forall_eq']
    exact ⟨⟨⟨Nat.le_refl _, fun k hk => by rw [apF_rt hk]; rfl⟩, fun k hk => apF_rt hk⟩, ⟨Nat.le_refl _, fun k hk => by rw [apF_fl hk]; rfl⟩, fun k hk => apF_fl hk⟩
theorem pr_stop {RES : Nt × Int × Int} {h : LH} (h0 : TE RES h) : fin prX (prR RES) sO h := by
  obtain ⟨i, tl, rfl, rfl⟩ := h0
  unfold fin prX prR netV emN sO
  simp only [↓EVP0, EVQ0, EVQ1, EVQ2, EVQ3, EVQ4, EVA, EVK, EVFD,EVFT, ↓reduceIte, Nat.reduceEqDiff, Nat.reduceAdd, Nat.reduceSub, Nat.reduceMul, Nat.reduceLT, Nat.reduceLeDiff, reduceCtorEq, Int.reduceToNat, Int.reduceLT, Int.reduceLE, Int.reduceAdd, Int.reduceSub, Int.reduceMul, Int.reduceNeg, Int.reduceEq, Nat.reduceMod, forall_eq_or_imp, forall_eq, forall_const, cond_true, cond_false, decide_true, decide_false, true_imp_iff, implies_true, Int.cast_ofNat_Int, forall_eq']
  exact ⟨by omega, by omega, by omega⟩
theorem sO_of {s1 : LS} (h : s1 2 = .ptr 0 0 0 0 0 ∧ s1 3 = .ptr 1 0 0 0 0 ∧ s1 4 = .ptr 2 0 0 0 0 ∧ s1 5 = .ptr 3 0 0 0 0 ∧ s1 6 = .ptr 4 0 0 0 0 ∧ s1 15 = .fn 43 [.ptr 5 0 0 0 0]) (t : Nat) : sO t = s1 t ∨ sO t = .any := by
  obtain ⟨h2, h3, h4, h5, h6, h15⟩ := h
  show (if t = 2 then LV.ptr 0 0 0 0 0 else if t = 3 then .ptr 1 0 0 0 0 else if t = 4 then .ptr 2 0 0 0 0 else if t = 5 then .ptr 3 0 0 0 0 else if t = 6 then .ptr 4 0 0 0 0 else if t = 15 then .fn 43 [.ptr 5 0 0 0 0] else .any) = s1 t ∨ (if t = 2 then LV.ptr 0 0 0 0 0 else if t = 3 then .ptr 1 0 0 0 0 else if t = 4 then .ptr 2 0 0 0 0 else if t = 5 then .ptr 3 0 0 0 0 else if t = 6 then .ptr 4 0 0 0 0 else if t = 15 then .fn 43 [.ptr 5 0 0 0 0] else .any) = .any
  by_cases c2 : t = 2
  · rw [if_pos c2, c2, h2]; exact .inl rfl
  rw [if_neg c2]
  by_cases c3 : t = 3
  · rw [if_pos c3, c3, h3]; exact .inl rfl
  rw [if_neg c3]
  by_cases c4 : t = 4
  · rw [if_pos c4, c4, h4]; exact .inl rfl
  rw [if_neg c4]
  by_cases c5 : t = 5
  · rw [if_pos c5, c5, h5]; exact .inl rfl
  rw [if_neg c5]
  by_cases c6 : t = 6
  · rw [if_pos c6, c6, h6]; exact .inl rfl
  rw [if_neg c6]
  by_cases c7 : t = 15
  · rw [if_pos c7, c7, h15]; exact .inl rfl
  rw [if_neg c7]; exact .inr rfl
theorem ph_start {s : By} {B : Nat} {R0 : RO} {ι0 : IM} {h0 : LH} {w0 w : World} {s1 : LS} {a : Act} {N : Nat} (hg : Good N B R0 ι0 h0 w0 s1 (mkH [(0, .box [.nsl, .nsl]), (0, .box [.sc (.int .i64 0)]), (0, .box [.sc (.int .i64 0)]), (0, .box [.nsl, .nsl]), (0, .box [.sc (.int .i64 0)]), (0, .box [.sc (.string (strB s))])]) a w)
    (hs : ∀ t, sO t = s1 t ∨ sO t = .any) : Good N B R0 ι0 h0 w0 sO (mkH (nhO emN 0 s)) a w := by
  obtain ⟨R, ι, hT, hA⟩ := hg
  have hB : B ≤ w.heap.size := Nat.le_trans hT.size hT.below.size
  obtain ⟨ι1, hT1⟩ := ph_trans (j := 3) (c := 0) (sz := 2) (ob := .row 2 0 (elO .dead)) ⟨rfl, by simp [mkH], rfl⟩ hB hT.rep
  rw [phH_mk (v := 0) (by simp) rfl] at hT1
  obtain ⟨ι2, hT2⟩ := ph_trans (j := 3) (c := 1) (sz := 4) (ob := .row 4 0 (elO .dead)) ⟨rfl, by simp [mkH], rfl⟩ hB hT1.rep
  rw [phH_mk (v := 0) (by simp) rfl] at hT2
  have hT3 := hT1.trans hT2
  refine ⟨R, ι2, hT.trans hT3, ⟨hA.defers, hA.size, fun t => ?_⟩⟩
  rcases hs t with e | e
  · rw [e]; exact (hA.slots t).mono hT3.mono
  · rw [e]; exact .any _
end Go.Proofs.YtdfiicpikcdokaaGreatDoor
namespace Go.Proofs.YtdfiicpikcdokaaGreatDoor
set_option linter.unusedSimpArgs false
set_option linter.unusedVariables false
open Go.RowKit
set_option maxRecDepth 20000

theorem ev_parse33 (s : By) (hs : s.length ≤ 100000) : Ev Tryz.prog 9 [.sc (.string (strB s))] (prR (parse33 s)) := by
  intro R w vs hR hgl hvs ha
  refine (callsIn_wide (n := 4)).1 ?_
  refine callsIn_of_wp_marks Tryz.func9 pr_body trivial ?_
  have hrep : Rep R (fun _ => default) LH.empty w.heap.size w :=
    ⟨hR, fun k hk => absurd hk (Nat.not_lt_zero _), fun k hk => absurd hk (Nat.not_lt_zero _), fun k hk => absurd hk (Nat.not_lt_zero _), fun k _ hk => absurd hk (Nat.not_lt_zero _), fun k _ hk => absurd hk (Nat.not_lt_zero _), fun k hk => absurd hk (Nat.not_lt_zero _), hgl⟩
  have hgood : Good 39 w.heap.size R (fun _ => default) LH.empty w (argS [.sc (.string (strB s))] 0) LH.empty { tmps := vs ++ Array.replicate (39 - vs.size) undef, defers := [] } w :=
    ⟨R, fun _ => default, Trans.refl hrep (Nat.le_refl _), args_act hvs (by simp) (fun i a hi => .ro (ha i a hi))⟩
  have hD : GoodD 39 w.heap.size R (fun _ => default) LH.empty w [] (argS [.sc (.string (strB s))] 0) LH.empty { tmps := vs ++ Array.replicate (39 - vs.size) undef, defers := [] } w := ⟨rfl, hgood⟩
  -- the ends
  have fin0 : ∀ s1 h1 a1 w1, GoodD 39 w.heap.size R (fun _ => default) LH.empty w [] s1 h1 a1 w1 → fin prX (prR (parse33 s)) s1 h1 → bodyPostM Fence.wide 4 Tryz.prog Tryz.f9 (fun e w' => ∃ v R', e = .returned v ∧ RoLe R R' ∧ (∀ b, b < w.heap.size → R' b = R b) ∧ (∀ b o, R' b = some o → w'.heap[b]? = some o) ∧ Below w.heap.size w w' ∧ Ro R' (prR (parse33 s)) v) .ret a1 w1 := by
    rintro s1 h1 a1 w1 ⟨hd, R1, ι1, hT, hA⟩ hq
    show LeavesInM _ _ _ _ _ _ a1.defers _ _
    rw [hd]
    exact end_of pr_res hR hT hA hq
  have fin1 : ∀ D rec s1 h1 a1 w1, GoodL 39 w.heap.size D rec R (fun _ => default) LH.empty w [{ target := .collected D, args := #[] }] s1 h1 a1 w1 → fin prX (prR (parse33 s)) s1 h1 → bodyPostM Fence.wide 4 Tryz.prog Tryz.f9 (fun e w' => ∃ v R', e = .returned v ∧ RoLe R R' ∧ (∀ b, b < w.heap.size → R' b = R b) ∧ (∀ b o, R' b = some o → w'.heap[b]? = some o) ∧ Below w.heap.size w w' ∧ Ro R' (prR (parse33 s)) v) .ret a1 w1 := by
    rintro D rec s1 h1 a1 w1 ⟨hd, R1, ι1, hT, hA, hb⟩ hq
    show LeavesInM _ _ _ _ _ _ a1.defers _ _
    rw [hd]
    refine ⟨by simp, .inl ⟨D, _, rfl, run_takeDeferred hb.d, ?_⟩⟩
    exact end_of pr_res hR (hT.putI _ hb.B hb.d rfl hb.nd) hA hq
  have hpre := pr_pre s (parse33 s) hs (fun h => by unfold parse33; rw [if_pos h])
  show (Code.seq _ _).wpIn (FW none) _ _ _ _ _
  refine wpIn_seq (lwpIn_ok (ro := none) _ _ pr_c0 pr_n0 ?_ (fun _ _ _ _ _ _ h => h.elim) (fun _ _ _ _ _ h => h.elim) _ _ _ _ hD hpre)
  intro s1 h1 a1 w1 hD1 hl1
  show (Code.seq _ _).wpIn (FW none) _ _ _ _ _
  refine wpIn_seq (lwpIn_ok (ro := none) _ _ pr_c1 pr_n1 ?_ (fun _ _ _ _ _ _ h => h.elim) ?_ _ _ _ _ hD1 hl1)
  rotate_left
  · intro s2 h2 a2 w2 hD2 hq
    exact fin0 s2 h2 a2 w2 hD2 hq
  intro s2 h2 a2 w2 hD2 hl2
  show (Code.seq _ _).wpIn (FW none) _ _ _ _ _
  refine wpIn_seq (lwpIn_ok (ro := none) _ _ pr_c2 pr_n2 ?_ (fun _ _ _ _ _ _ h => h.elim) (fun _ _ _ _ _ h => h.elim) _ _ _ _ hD2 hl2)
  intro s3 h3 a3 w3 hD3 hl3
  show (Code.seq _ _).wpIn (FW none) _ _ _ _ _
  refine wpIn_seq (lwpIn_ok (ro := none) _ _ pr_c3 pr_n3 ?_ (fun _ _ _ _ _ _ h => h.elim) (fun _ _ _ _ _ h => h.elim) _ _ _ _ hD3 hl3)
  intro s4 h4 a4 w4 hD4 hl4
  show (Code.seq _ _).wpIn (FW none) _ _ _ _ _
  refine wpIn_seq ?_
  refine wpIn_seq (lwpIn_ok (ro := none) _ _ pr_c4 pr_n4 ?_ (fun _ _ _ _ _ _ h => h.elim) (fun _ _ _ _ _ h => h.elim) _ _ _ _ hD4 hl4)
  rintro s5 h5 a5 w5 hD5 ⟨hlen, hsl, rfl⟩
  show (Code.block 0 _).wpIn (FW none) _ _ _ _ _
  have hg5 := ph_start hD5.2 (sO_of hsl)
  have hparse : parse33 s = prs33 s emN 0 := by unfold parse33; rw [if_neg (by omega)]
  have ha5 : unD a5 = a5 := by have := hD5.1; cases a5; simp only at this; subst this; rfl
  rw [ha5] at hg5
  refine wpIn_block (range_ok (p := 16) (gf := 43) (caps := [.ptr 5 0 0 0 0]) (K := fun h' => ∃ n2 i2, h' = mkH (nhO n2 i2 []) ∧ JI (parse33 s) s.length [] n2 i2) (T := TE (parse33 s)) hg5 rfl (enters_of Tryz.func43 (by kernel_rfl) rfl) ?_ ?_ ?_)
  · intro R1 ι1 w1 D rec vs1 hrep1 hB1 hb1 hA1 hst hpe hps hra hrb hvs1 hcap
    refine lines_iter hrep1 hB1 hb1 hst hpe (JI (parse33 s) s.length) (TE (parse33 s)) ⟨hparse.symm, emN_ok, by simp [emN], by omega, by simp⟩ (fun s' n' i' hJ => by have := hJ.l; omega) hvs1 (hcap 0 _ rfl) ?_
    intro s' n' i' hJ hne R' ι' w' v hT hb hv
    subst hv
    exact parse_round hlen hJ hne hst hps hA1 hT.mono hT.rep (Nat.le_trans hT.size hT.below.size) hb hra hrb
  · rintro D rec' h' a' w' hg ⟨n2, i2, rfl, hJ⟩
    show (sq2 (sq2 (sq2 (sq2 (sq2 prC))))).wpIn (FW none) _ _ _ _ _
    have hr := hJ.r
    rw [prs33, dif_pos rfl] at hr
    have hpost := pr_post n2 i2 hJ.ok
    rw [hr] at hpost
    refine lwpL_ok (ro := none) pr_c7 pr_n7 (fun s6 h6 a6 w6 hg6 hq => ?_) (fun _ _ _ _ _ _ h => h.elim) (fun s6 h6 a6 w6 hg6 hq => ?_) hg hpost
    · exact fin1 D rec' s6 h6 a6 w6 hg6 hq
    · exact fin1 D rec' s6 h6 a6 w6 hg6 hq
  · intro D rec' h' a' w' hg hT
    exact fin1 D rec' _ _ _ _ hg (pr_stop hT)
end Go.Proofs.YtdfiicpikcdokaaGreatDoor
namespace Go.Proofs.YtdfiicpikcdokaaGreatDoor
set_option linter.unusedSimpArgs false
set_option linter.unusedVariables false
open Go.RowKit
set_option maxRecDepth 20000

theorem FrzTo.trans {s s1 s2 : LS} {h h1 h2 : LH} (a : FrzTo s h s1 h1) (b : FrzTo s1 h1 s2 h2) : FrzTo s h s2 h2 := by
  intro B R ι w hB hr
  obtain ⟨R1, ι1, hT1, hv1⟩ := a B R ι w hB hr
  obtain ⟨R2, ι2, hT2, hv2⟩ := b B R1 ι1 w hB hT1.rep
  exact ⟨R2, ι2, hT1.trans hT2, fun t x hx => hv2 t x (hv1 t x hx)⟩
end Go.Proofs.YtdfiicpikcdokaaGreatDoor
namespace Go.Proofs.YtdfiicpikcdokaaGreatDoor
set_option linter.unusedSimpArgs false
set_option linter.unusedVariables false
open Go.RowKit
set_option maxRecDepth 20000

def scanE : List By → List Int → List Int × Bool
  | [], acc => (acc, true)
  | w :: r, acc => match nm3 w with
    | none => (acc, false)
    | some u => scanE r (acc ++ [(u : Int)])
end Go.Proofs.YtdfiicpikcdokaaGreatDoor
namespace Go.Proofs.YtdfiicpikcdokaaGreatDoor
set_option linter.unusedSimpArgs false
set_option linter.unusedVariables false
open Go.RowKit
set_option maxRecDepth 20000

theorem nm3_max : nm3 wMx = none := by decide
theorem lnk_scan : ∀ (ws : List By) (acc l : List Int) (tl : List By), (tl = [] ∨ tl.getD 0 [] = wMx) → scanE ws acc = (l, true) → lnkE (ws ++ tl) acc = some (l, tl)
  | [], acc, l, tl, h, hs => by
    have hs : (acc, true) = (l, true) := hs
    cases hs
    show lnkE tl acc = some (acc, tl)
    cases tl with
    | nil => rfl
    | cons a b =>
      rcases h with h | h
      · cases h
      · have h : a = wMx := h
        show (if a = wMx then some (acc, a :: b) else _) = _
        rw [if_pos h]
  | w :: r, acc, l, tl, h, hs => by
    have hs : (match nm3 w with
      | none => (acc, false)
      | some u => scanE r (acc ++ [(u : Int)])) = (l, true) := hs
    show (if w = wMx then some (acc, w :: (r ++ tl)) else match nm3 w with
      | none => none
      | some u => lnkE (r ++ tl) (acc ++ [(u : Int)])) = _
    cases hn : nm3 w with
    | none => rw [hn] at hs; cases hs
    | some u =>
      rw [hn] at hs
      have hw : w ≠ wMx := fun e => by rw [e, nm3_max] at hn; cases hn
      rw [if_neg hw]
      exact lnk_scan r _ l tl h hs
end Go.Proofs.YtdfiicpikcdokaaGreatDoor
namespace Go.Proofs.YtdfiicpikcdokaaGreatDoor
set_option linter.unusedSimpArgs false
set_option linter.unusedVariables false
open Go.RowKit
set_option maxRecDepth 20000

end Go.Proofs.YtdfiicpikcdokaaGreatDoor
namespace Go.Proofs.YtdfiicpikcdokaaGreatDoor
set_option linter.unusedSimpArgs false
set_option linter.unusedVariables false
open Go.RowKit
set_option maxRecDepth 20000

theorem wne : wLnk ≠ wFlw := by decide
theorem line_fnd {s : By} (h : (cutE 10 s).2.2 = true) : (lineE s).getLast? = some 10 ∧ cutL10 (lineE s) = (cutE 10 s).1 := by
  have h1 : lineE s = (cutE 10 s).1 ++ [10] := by unfold lineE; rw [if_pos h]
  have h2 : (lineE s).getLast? = some 10 := by rw [h1]; simp
  refine ⟨h2, ?_⟩
  unfold cutL10
  rw [if_pos h2, h1, List.dropLast_concat]
end Go.Proofs.YtdfiicpikcdokaaGreatDoor
namespace Go.Proofs.YtdfiicpikcdokaaGreatDoor
set_option linter.unusedSimpArgs false
set_option linter.unusedVariables false
open Go.RowKit
set_option maxRecDepth 20000

theorem spl_oneR {c : UInt8} : ∀ {w : By}, (∀ x, x ∈ w → x ≠ c) → splE c w = [w]
  | [], _ => rfl
  | b :: w, h => by
    show (if b = c then _ else _) = _
    rw [if_neg (h b (by simp)), spl_oneR (w := w) fun x hx => h x (by simp [hx])]
theorem spl_appR {c : UInt8} {r : By} : ∀ {w : By}, (∀ x, x ∈ w → x ≠ c) → splE c (w ++ c :: r) = w :: splE c r
  | [], _ => by
    show (if c = c then _ else _) = _
    rw [if_pos rfl]
  | b :: w, h => by
    show (if b = c then _ else _) = _
    have ih := spl_appR (r := r) (w := w) fun x hx => h x (by simp [hx])
    rw [if_neg (h b (by simp)), show splE c (w.append (c :: r)) = w :: splE c r from ih]
def jnT (ws : List By) : By := (ws.map fun w => 32 :: w).flatten
theorem jnT_cons (w : By) (ws : List By) : jnT (w :: ws) = 32 :: (w ++ jnT ws) := by simp [jnT]
theorem jnT_app (a b : List By) : jnT (a ++ b) = jnT a ++ jnT b := by simp [jnT]
theorem spl_jn : ∀ (ws : List By) (w : By), (∀ v, v ∈ w :: ws → ∀ x, x ∈ v → x ≠ 32) → splE 32 (w ++ jnT ws) = w :: ws
  | [], w, h => by
    show splE 32 (w ++ []) = _
    rw [List.append_nil]
    exact spl_oneR (h w (by simp))
  | v :: vs, w, h => by
    rw [jnT_cons, spl_appR (h w (by simp)), spl_jn vs v fun u hu => h u (by simp at hu ⊢; exact .inr hu)]
def capT (c : Rt) : By := wLnk ++ jnT [txtQ c]
def flwW (f : Fl) : List By := f.links.map Lib.itoa ++ (if f.bnd = true then [wMx, txtQ f.dem] else [])
def flwT (f : Fl) : By := wFlw ++ jnT (flwW f)
def netT (n : Nt) : By := (n.caps.map fun c => capT c ++ [10]).flatten ++ (n.fls.map fun f => flwT f ++ [10]).flatten
def nrmF (f : Fl) : Fl := ⟨f.links, f.bnd, if f.bnd = true then fullR f.dem else ⟨0, 0⟩⟩
def nrmN (n : Nt) : Nt := ⟨n.caps.map fullR, n.fls.map nrmF⟩
theorem chr_ne {x : UInt8} (h : 48 ≤ x.toNat ∧ x.toNat ≤ 57) : x ≠ 10 ∧ x ≠ 32 := by
  constructor <;> (intro e; rw [e] at h; revert h; decide)
theorem it_ch (k : Int) : ∀ x, x ∈ Lib.itoa k → x ≠ 10 ∧ x ≠ 32 := by
  intro x hx
  by_cases h : k < 0
  · rw [itN h] at hx
    rcases List.mem_cons.1 hx with e | e
    · rw [e]; decide
    · exact chr_ne (dd_chars _ x e)
  · rw [itP (by omega)] at hx
    exact chr_ne (dd_chars _ x hx)
theorem tx_ch (r : Rt) : ∀ x, x ∈ txtQ r → x ≠ 10 ∧ x ≠ 32 := by
  intro x hx
  unfold txtQ at hx
  split at hx
  · split at hx
    · rcases List.mem_append.1 hx with e | e
      · exact it_ch _ x e
      · rcases List.mem_cons.1 e with e | e
        · rw [e]; decide
        · exact it_ch _ x e
    · exact it_ch _ x hx
  · cases hx
theorem wL_ch : ∀ x, x ∈ wLnk → x ≠ 10 ∧ x ≠ 32 := by decide
theorem wF_ch : ∀ x, x ∈ wFlw → x ≠ 10 ∧ x ≠ 32 := by decide
theorem wM_ch : ∀ x, x ∈ wMx → x ≠ 10 ∧ x ≠ 32 := by decide
theorem fw_ch (f : Fl) : ∀ w, w ∈ flwW f → ∀ x, x ∈ w → x ≠ 10 ∧ x ≠ 32 := by
  intro w hw
  unfold flwW at hw
  rcases List.mem_append.1 hw with h | h
  · obtain ⟨k, _, rfl⟩ := List.mem_map.1 h
    exact it_ch k
  · split at h
    · rcases List.mem_cons.1 h with h | h
      · rw [h]; exact wM_ch
      · simp only [List.mem_singleton] at h
        rw [h]; exact tx_ch _
    · cases h
theorem jn_ch {ws : List By} (h : ∀ w, w ∈ ws → ∀ x, x ∈ w → x ≠ 10) : ∀ x, x ∈ jnT ws → x ≠ 10 := by
  intro x hx
  unfold jnT at hx
  obtain ⟨l, hl, hxl⟩ := List.mem_flatten.1 hx
  obtain ⟨w, hw, rfl⟩ := List.mem_map.1 hl
  rcases List.mem_cons.1 hxl with e | e
  · rw [e]; decide
  · exact h w hw x e
theorem cap_ch (c : Rt) : ∀ x, x ∈ capT c → x ≠ 10 := by
  intro x hx
  rcases List.mem_append.1 hx with h | h
  · exact (wL_ch x h).1
  · exact jn_ch (fun w hw y hy => by simp only [List.mem_singleton] at hw; rw [hw] at hy; exact (tx_ch c y hy).1) x h
theorem flw_ch (f : Fl) : ∀ x, x ∈ flwT f → x ≠ 10 := by
  intro x hx
  rcases List.mem_append.1 hx with h | h
  · exact (wF_ch x h).1
  · exact jn_ch (fun w hw y hy => (fw_ch f w hw y hy).1) x h
theorem spl_cap (c : Rt) : splE 32 (capT c) = [wLnk, txtQ c] :=
  spl_jn _ _ fun v hv x hx => by
    rcases List.mem_cons.1 hv with e | e
    · rw [e] at hx; exact (wL_ch x hx).2
    · simp only [List.mem_singleton] at e; rw [e] at hx; exact (tx_ch c x hx).2
theorem spl_flw (f : Fl) : splE 32 (flwT f) = wFlw :: flwW f :=
  spl_jn _ _ fun v hv x hx => by
    rcases List.mem_cons.1 hv with e | e
    · rw [e] at hx; exact (wF_ch x hx).2
    · exact (fw_ch f v e x hx).2
theorem cut_line {r : By} : ∀ {l : By}, (∀ x, x ∈ l → x ≠ 10) → cutE 10 (l ++ 10 :: r) = (l, r, true)
  | [], _ => by
    show (if (10 : UInt8) = 10 then _ else _) = _
    rw [if_pos rfl]
  | b :: l, h => by
    have ih := cut_line (r := r) (l := l) fun x hx => h x (by simp [hx])
    show (if b = 10 then _ else _) = _
    rw [if_neg (h b (by simp)), show cutE 10 (l.append (10 :: r)) = (l, r, true) from ih]
theorem prs_lineT {l r : By} {n : Nt} {i : Int} (hl : ∀ x, x ∈ l → x ≠ 10) (h : (addN n (splE 32 l)).2 = true) : prs33 (l ++ 10 :: r) n i = prs33 r (addN n (splE 32 l)).1 (i + 1) := by
  have hc := cut_line (r := r) hl
  have hf : (cutE 10 (l ++ 10 :: r)).2.2 = true := by rw [hc]
  obtain ⟨h1, h2⟩ := line_fnd hf
  have h3 : restE (l ++ 10 :: r) = r := by unfold restE; rw [hc]
  rw [hc] at h2
  rw [prs33, dif_neg (by simp), h2, if_pos ⟨h1, h⟩, h3]
theorem prs_txtQ {r : Rt} (hv : vldR r = true) : prsQ (txtQ r) = (fullR r, 0) := by
  obtain ⟨h1, h2, h3⟩ := txt_full hv
  rw [← h1]
  exact prs_txt (vld_rtok h2) h2 h3
theorem add_cap {n : Nt} {c : Rt} (hn : n.fls = []) (hv : vldR c = true) : addN n (splE 32 (capT c)) = (⟨n.caps ++ [fullR c], n.fls⟩, true) := by
  rw [spl_cap]
  unfold addN
  simp only [List.getD_cons_succ, List.getD_cons_zero, if_true]
  rw [if_pos ⟨rfl, hn⟩]
  rw [prs_txtQ hv]; rfl
theorem scan_read : ∀ (l : List Int) (acc : List Int), (∀ x, x ∈ l → 0 ≤ x ∧ x < 1000) → scanE (l.map Lib.itoa) acc = (acc ++ l, true)
  | [], acc, _ => by rw [List.append_nil]; rfl
  | x :: l, acc, h => by
    have hx := h x (by simp)
    show (match nm3 (Lib.itoa x) with
      | none => (acc, false)
      | some u => scanE (l.map Lib.itoa) (acc ++ [(u : Int)])) = _
    rw [itP hx.1, nm3_dd (by omega)]
    show scanE (l.map Lib.itoa) (acc ++ [((x.toNat : Nat) : Int)]) = _
    rw [show ((x.toNat : Nat) : Int) = x by omega, scan_read l _ fun y hy => h y (by simp [hy])]
    simp
theorem add_flw {n : Nt} {f : Fl} (hl : ∀ x, x ∈ f.links → 0 ≤ x ∧ x < 1000) (h0 : f.links ≠ []) (hv : vldR f.dem = true) : addN n (splE 32 (flwT f)) = (⟨n.caps, n.fls ++ [nrmF f]⟩, true) := by
  rw [spl_flw]
  unfold addN
  have hne : ¬ wFlw = wLnk := fun h => wne h.symm
  simp only [List.getD_cons_zero, List.drop_succ_cons, List.drop_zero, if_neg hne, if_true]
  unfold flwW
  have hs := scan_read f.links [] hl
  rw [List.nil_append] at hs
  obtain ⟨lk, b, d⟩ := f
  simp only at *
  unfold nrmF
  cases b with
  | false =>
    have := lnk_scan _ _ _ [] (.inl rfl) hs
    simp only [Bool.false_eq_true, if_false]
    rw [this]
    simp only [if_true]
    rw [decide_eq_true h0]
  | true =>
    have := lnk_scan _ _ _ [wMx, txtQ d] (.inr rfl) hs
    simp only [if_true]
    rw [this]
    simp only [List.getD_cons_succ, List.getD_cons_zero, prs_txtQ hv, List.length_cons, List.length_nil, and_self, if_true]
    rw [if_neg (by simp), decide_eq_true h0]
theorem read_caps {r : By} : ∀ (l : List Rt) (n : Nt) (i : Int), n.fls = [] → (∀ c, c ∈ l → vldR c = true) → prs33 ((l.map fun c => capT c ++ [10]).flatten ++ r) n i = prs33 r ⟨n.caps ++ l.map fullR, n.fls⟩ (i + l.length)
  | [], n, i, _, _ => by simp
  | c :: l, n, i, hn, hv => by
    rw [List.map_cons, List.flatten_cons, List.append_assoc, List.append_assoc, List.singleton_append]
    have ha := add_cap hn (hv c (by simp))
    rw [prs_lineT (cap_ch c) (by rw [ha]), ha]
    have := read_caps (r := r) l ⟨n.caps ++ [fullR c], n.fls⟩ (i + 1) hn fun d hd => hv d (by simp [hd])
    rw [this]
    simp only [List.append_assoc, List.singleton_append, List.map_cons, List.length_cons]
    congr 1
    omega
theorem read_fls : ∀ (l : List Fl) (n : Nt) (i : Int), (∀ f, f ∈ l → (∀ x, x ∈ f.links → 0 ≤ x ∧ x < 1000) ∧ f.links ≠ [] ∧ vldR f.dem = true) → prs33 (l.map fun f => flwT f ++ [10]).flatten n i = prs33 [] ⟨n.caps, n.fls ++ l.map nrmF⟩ (i + l.length)
  | [], n, i, _ => by simp
  | f :: l, n, i, hv => by
    rw [List.map_cons, List.flatten_cons, List.append_assoc, List.singleton_append]
    obtain ⟨h1, h2, h3⟩ := hv f (by simp)
    have ha := add_flw (n := n) h1 h2 h3
    rw [prs_lineT (flw_ch f) (by rw [ha]), ha]
    have := read_fls l ⟨n.caps, n.fls ++ [nrmF f]⟩ (i + 1) fun g hg => hv g (by simp [hg])
    rw [this]
    simp only [List.append_assoc, List.singleton_append, List.map_cons, List.length_cons]
    congr 1
    omega
theorem vld_nrm {n : Nt} (h : vldN n = true) : vldN (nrmN n) = true := by
  unfold vldN nrmN at *
  simp only [Bool.and_eq_true, decide_eq_true_eq, List.all_eq_true, List.length_map] at *
  obtain ⟨h1, h2, h3, h4⟩ := h
  refine ⟨h1, h2, ?_, ?_⟩
  · intro c hc
    obtain ⟨d, hd, rfl⟩ := List.mem_map.1 hc
    have h5 := h3 d hd
    by_cases e : d.d = 0
    · unfold fullR; rw [if_pos e]; decide
    · unfold fullR; rw [if_neg e]; exact h5
  · intro f hf
    obtain ⟨g, hg, rfl⟩ := List.mem_map.1 hf
    have h5 := h4 g hg
    unfold flB at *
    simp only [Bool.and_eq_true, List.all_eq_true, decide_eq_true_eq, Bool.or_eq_true] at *
    obtain ⟨h6, h7, h8, h9, h10⟩ := h5
    unfold nrmF
    refine ⟨h6, h7, ?_⟩
    simp only
    cases hb : g.bnd with
    | false => simp only [Bool.false_eq_true, if_false]; exact ⟨by decide, by decide, by decide⟩
    | true =>
      simp only [if_true]
      obtain ⟨_, h11, _⟩ := txt_full h8
      refine ⟨h11, ?_, .inl trivial⟩
      unfold fullR
      split
      · decide
      · exact h9
theorem read_net {n : Nt} (h : vldN n = true) : prs33 (netT n) emN 0 = (nrmN n, 0, 0) := by
  have hV := vldN_of h
  have hn := vld_nrm h
  unfold netT
  rw [read_caps n.caps emN 0 rfl fun c hc => (hV.cap c hc).1]
  rw [read_fls n.fls _ _ fun f hf => ⟨fun x hx => by have := hV.link f hf x hx; have := hV.nc; omega, fun e => by have := hV.len f hf; rw [e] at this; exact this rfl, (hV.dem f hf).1⟩]
  rw [prs33, dif_pos rfl]
  exact if_pos hn
end Go.Proofs.YtdfiicpikcdokaaGreatDoor
namespace Go.Proofs.YtdfiicpikcdokaaGreatDoor
set_option linter.unusedSimpArgs false
set_option linter.unusedVariables false
open Go.RowKit
set_option maxRecDepth 20000

theorem itS_str (x : Int) : itS x = strB (Lib.itoa x) := rfl
theorem txtR_str (r : Rt) : txtR r = strB (txtQ r) := by
  unfold txtR txtQ
  split
  · split
    · rw [itS_str, itS_str, show (⟨#[47]⟩ : ByteArray) = strB [47] from rfl, strB_app, strB_app]; rfl
    · rfl
  · rfl
theorem txtC_eq (c : Rt) : (txtC c).data.toList = capT c ++ [10] := by
  unfold txtC
  rw [txtR_str, show ({ data := #[108, 105, 110, 107, 32] } : ByteArray) = strB [108, 105, 110, 107, 32] from rfl, show ({ data := #[10] } : ByteArray) = strB [10] from rfl, strB_app, strB_app, strB_data]
  unfold capT jnT wLnk
  simp
theorem txtL_eq (l : List Int) : txtL l = jnT (l.map Lib.itoa) := by
  unfold txtL jnT
  rw [List.map_map]
  congr 1
theorem txtF_eq (f : Fl) : txtF f = flwT f ++ [10] := by
  unfold txtF flwT flwW
  rw [txtL_eq, jnT_app, txtR_str]
  cases f.bnd with
  | false => simp [jnT, wFlw]
  | true =>
    simp only [if_true]
    rw [show ({ data := #[32, 109, 97, 120, 32] } : ByteArray) = strB [32, 109, 97, 120, 32] from rfl, strB_app, strB_data]
    simp [jnT, wFlw, wMx]
theorem fmt_net {n : Nt} (hv : vldN n = true) : fmtN n = (strB (netT n), 0) := by
  unfold fmtN netT txtCs txtFs
  rw [if_pos hv]
  have h1 : (n.caps.map fun c => (txtC c).data.toList) = n.caps.map fun c => capT c ++ [10] := List.map_congr_left fun c _ => txtC_eq c
  have h2 : n.fls.map txtF = n.fls.map fun f => flwT f ++ [10] := List.map_congr_left fun f _ => txtF_eq f
  rw [h1, h2]; rfl
end Go.Proofs.YtdfiicpikcdokaaGreatDoor
namespace Go.Proofs.YtdfiicpikcdokaaGreatDoor
set_option linter.unusedSimpArgs false
set_option linter.unusedVariables false
open Go.RowKit
set_option maxRecDepth 20000

theorem ev_rdec33 : ∀ n : Nat, n ≤ 1000 → Ev Tryz.prog 28 [.sc (.int .i64 (n : Int))] (.sc (.string (strB (Lib.decDigits n)))) := by
  intro n
  induction n using Nat.strongRecOn with
  | ind n ih =>
    intro hn
    have hm := Nat.mod_lt n (show 0 < 10 by omega)
    refine ev_fn Tryz.func28 comp28 (show 1 ≤ Tryz.f28.ntmps by decide) ?_; unfold cf28 rf28; simp only [↓EVP0, EVQ0, EVQ1, EVQ2, EVQ3, EVQ4, EVA, EVK, EVFD,EVFT, ↓reduceIte, Nat.reduceEqDiff, Nat.reduceAdd, Nat.reduceSub, Nat.reduceMul, Nat.reduceLT, Nat.reduceLeDiff, reduceCtorEq, Int.reduceToNat, Int.reduceLT, Int.reduceLE, Int.reduceAdd, Int.reduceSub, Int.reduceMul, Int.reduceNeg, Int.reduceEq, Nat.reduceMod, forall_eq_or_imp, forall_eq, forall_const, cond_true, cond_false, decide_true, decide_false, true_imp_iff, implies_true, Int.cast_ofNat_Int, forall_eq']
    have e1 : (n : Int).tmod 10 = ((n % 10 : Nat) : Int) := rfl
    have e2 : (n : Int).tdiv 10 = ((n / 10 : Nat) : Int) := rfl
    rw [e1, e2]
    rw [show ((n % 10 : Nat) : Int).toNat = n % 10 by omega, show (((n % 10 : Nat) : Int) + 1).toNat = n % 10 + 1 by omega, dig_str hm]
    have hsz : (⟨#[48, 49, 50, 51, 52, 53, 54, 55, 56, 57]⟩ : ByteArray).size = 10 := rfl
    rw [hsz]
    refine ⟨by omega, by omega, by unfold In64; omega, ⟨by omega, by omega, by omega⟩, fun hg => ?_, fun hg => ⟨⟨by omega, by unfold In64; omega⟩, ?_⟩⟩
    · rw [ddS (by have := of_decide_eq_true hg; omega)]
    · have hn2 : ¬ n < 10 := by have := of_decide_eq_false hg; omega
      have h1 := ih (n / 10) (by omega) (by omega)
      have hl := ddLen 20 (n / 10) (by omega) (by omega)
      refine callK_ro (h1) ?_ ?_
      · simp only [↓EVP0, EVQ0, EVQ1, EVQ2, EVQ3, EVQ4, EVA, EVK, EVFD,EVFT, ↓reduceIte, Nat.reduceEqDiff, Nat.reduceAdd, Nat.reduceSub, Nat.reduceMul, Nat.reduceLT, Nat.reduceLeDiff, reduceCtorEq, Int.reduceToNat, Int.reduceLT, Int.reduceLE, Int.reduceAdd, Int.reduceSub, Int.reduceMul, Int.reduceNeg, Int.reduceEq, Nat.reduceMod, forall_eq_or_imp, forall_eq, forall_const, cond_true, cond_false, decide_true, decide_false, true_imp_iff, implies_true, Int.cast_ofNat_Int, forall_eq']
      simp only [↓EVP0, EVQ0, EVQ1, EVQ2, EVQ3, EVQ4, EVA, EVK, EVFD,EVFT, ↓reduceIte, Nat.reduceEqDiff, Nat.reduceAdd, Nat.reduceSub, Nat.reduceMul, Nat.reduceLT, Nat.reduceLeDiff, reduceCtorEq, Int.reduceToNat, Int.reduceLT, Int.reduceLE, Int.reduceAdd, Int.reduceSub, Int.reduceMul, Int.reduceNeg, Int.reduceEq, Nat.reduceMod, forall_eq_or_imp, forall_eq, forall_const, cond_true, cond_false, decide_true, decide_false, true_imp_iff, implies_true, Int.cast_ofNat_Int, forall_eq']
      rw [strB_app, strB_size, strB_size, ← ddB hn2]
      exact ⟨by simp only [List.length_singleton]; omega, rfl⟩
def txA (n : Nt) (i : Nat) : By := ((n.caps.take i).map fun c => capT c ++ [10]).flatten
def txB (n : Nt) (j : Nat) : By := txA n n.caps.length ++ ((n.fls.take j).map fun f => flwT f ++ [10]).flatten
def txC (n : Nt) (j : Nat) (f : Fl) (k : Nat) : By := txB n j ++ (wFlw ++ jnT ((f.links.take k).map Lib.itoa))
theorem take_oneV {α : Type} {l : List α} {i : Nat} {d : α} (h : i < l.length) : l.take (i + 1) = l.take i ++ [l.getD i d] := by
  rw [List.take_add_one, List.getElem?_eq_getElem h, List.getD_eq_getElem?_getD, List.getElem?_eq_getElem h]; rfl
theorem txA_succ {n : Nt} {i : Nat} (h : i < n.caps.length) : txA n (i + 1) = txA n i ++ (wLnk ++ [32]) ++ txtQ (n.caps.getD i default) ++ [10] := by
  unfold txA
  rw [take_oneV (d := default) h]
  simp [capT, jnT]
theorem txB_succ {n : Nt} {j : Nat} (h : j < n.fls.length) : txB n (j + 1) = txB n j ++ (flwT (n.fls.getD j default) ++ [10]) := by
  unfold txB
  rw [take_oneV (d := default) h]
  simp
theorem txC_zero (n : Nt) (j : Nat) (f : Fl) : txC n j f 0 = txB n j ++ wFlw := by simp [txC, jnT]
theorem txC_succ {n : Nt} {j : Nat} {f : Fl} {k : Nat} (h : k < f.links.length) : txC n j f (k + 1) = txC n j f k ++ [32] ++ Lib.itoa (f.links.getD k 0) := by
  unfold txC
  rw [take_oneV (d := 0) h]
  simp [jnT]
theorem txB_one {n : Nt} {j : Nat} (h : j < n.fls.length) (hb : (n.fls.getD j default).bnd = true) : txB n (j + 1) = txC n j (n.fls.getD j default) (n.fls.getD j default).links.length ++ (32 :: wMx ++ [32]) ++ txtQ (n.fls.getD j default).dem ++ [10] := by
  rw [txB_succ h]
  unfold txC flwT flwW
  rw [List.take_length, if_pos hb, jnT_app]
  simp [jnT]
theorem txB_two {n : Nt} {j : Nat} (h : j < n.fls.length) (hb : (n.fls.getD j default).bnd = false) : txB n (j + 1) = txC n j (n.fls.getD j default) (n.fls.getD j default).links.length ++ [10] := by
  rw [txB_succ h]
  unfold txC flwT flwW
  rw [List.take_length, hb, jnT_app]
  simp [jnT]
theorem capT_len {c : Rt} (h : vldR c = true) : (capT c ++ [10]).length ≤ 60 := by
  have := txtQ_len (vld_rtok h)
  simp [capT, jnT, wLnk]; omega
theorem jnI_len {l : List Int} (h : ∀ x, x ∈ l → In64 x) : (jnT (l.map Lib.itoa)).length ≤ l.length * 22 := by
  unfold jnT
  rw [List.map_map]
  exact flat_le fun x hx => by have := itoa_le (h x hx); simp only [Function.comp, List.length_cons]; omega
theorem flwT_len {f : Fl} (hl : ∀ x, x ∈ f.links → In64 x) (hd : vldR f.dem = true) (h32 : f.links.length ≤ 32) : (flwT f ++ [10]).length ≤ 770 := by
  have h1 := jnI_len hl
  have h2 := txtQ_len (vld_rtok hd)
  unfold flwT flwW
  rw [jnT_app]
  simp only [List.length_append, List.length_singleton]
  rw [show wFlw.length = 4 from rfl]
  have h3 : (jnT (if f.bnd = true then [wMx, txtQ f.dem] else [])).length ≤ 55 := by
    cases f.bnd with
    | true => simp [jnT, wMx]; omega
    | false => simp [jnT]
  omega
theorem txA_len {n : Nt} (hV : VldN n) (i : Nat) : (txA n i).length ≤ 1920 := by
  have h1 : (txA n i).length ≤ (n.caps.take i).length * 60 := flat_le fun c hc => capT_len (hV.cap c (List.mem_of_mem_take hc)).1
  have := hV.nc
  rw [List.length_take] at h1
  have := Nat.mul_le_mul_right 60 (show min i n.caps.length ≤ 32 by omega)
  omega
theorem lk64 {n : Nt} (hV : VldN n) {f : Fl} (hf : f ∈ n.fls) : ∀ x, x ∈ f.links → In64 x := fun x hx => by
  have := hV.link f hf x hx
  have := hV.nc
  unfold In64; omega
theorem txB_len {n : Nt} (hV : VldN n) (j : Nat) : (txB n j).length ≤ 26560 := by
  have h1 : ((n.fls.take j).map fun f => flwT f ++ [10]).flatten.length ≤ (n.fls.take j).length * 770 := flat_le fun f hf => flwT_len (lk64 hV (List.mem_of_mem_take hf)) (hV.dem f (List.mem_of_mem_take hf)).1 (links_len hV (List.mem_of_mem_take hf))
  have h2 := txA_len hV n.caps.length
  have := hV.nf
  rw [List.length_take] at h1
  have := Nat.mul_le_mul_right 770 (show min j n.fls.length ≤ 32 by omega)
  unfold txB
  rw [List.length_append]
  omega
theorem txC_len {n : Nt} (hV : VldN n) (j : Nat) {f : Fl} (hf : f ∈ n.fls) (k : Nat) : (txC n j f k).length ≤ 28000 := by
  have h1 := txB_len hV j
  have h2 := jnI_len (l := f.links.take k) fun x hx => lk64 hV hf x (List.mem_of_mem_take hx)
  have h3 := links_len hV hf
  rw [List.length_take] at h2
  have := Nat.mul_le_mul_right 22 (show min k f.links.length ≤ 32 by omega)
  unfold txC
  rw [List.length_append, List.length_append, show wFlw.length = 4 from rfl]
  omega
theorem ev_rformat33 (n : Nt) (hv : vldN n = true) : Ev Tryz.prog 10 [netV n] (.sc (.string (strB (netT n)))) := by
  have hV := vldN_of hv
  have hnT : netT n = txB n n.fls.length := by unfold netT txB txA; rw [List.take_length, List.take_length]
  rw [hnT]
  have c1 : (⟨#[108, 105, 110, 107, 32]⟩ : ByteArray) = strB (wLnk ++ [32]) := rfl
  have c2 : (⟨#[10]⟩ : ByteArray) = strB [10] := rfl
  have c3 : (⟨#[102, 108, 111, 119]⟩ : ByteArray) = strB wFlw := rfl
  have c4 : (⟨#[32]⟩ : ByteArray) = strB [32] := rfl
  have c5 : (⟨#[32, 109, 97, 120, 32]⟩ : ByteArray) = strB (32 :: wMx ++ [32]) := rfl
  have l1 : (wLnk ++ [32]).length = 5 := rfl
  have l3 : wFlw.length = 4 := rfl
  have l5 : (32 :: wMx ++ [32]).length = 5 := rfl
  unfold netV
  refine ev_fn Tryz.func10 comp10 (show 1 ≤ Tryz.f10.ntmps by decide) ?_; unfold cf10 rf10; simp only [↓EVP0, EVQ0, EVQ1, EVQ2, EVQ3, EVQ4, EVA, EVK, EVFD,EVFT, ↓reduceIte, Nat.reduceEqDiff, Nat.reduceAdd, Nat.reduceSub, Nat.reduceMul, Nat.reduceLT, Nat.reduceLeDiff, reduceCtorEq, Int.reduceToNat, Int.reduceLT, Int.reduceLE, Int.reduceAdd, Int.reduceSub, Int.reduceMul, Int.reduceNeg, Int.reduceEq, Nat.reduceMod, forall_eq_or_imp, forall_eq, forall_const, cond_true, cond_false, decide_true, decide_false, true_imp_iff, implies_true, Int.cast_ofNat_Int, forall_eq']
  refine lwp_for (α := Unit) n.caps.length (fun i _ => True) (fun i _ => [(1, .ptr 0 0 0 0 0), (3, .sc (.string (strB (txA n i)))), (4, .sc (.int .i64 (i : Nat)))]) (fun i _ => [(0, .box [.rsl 2 n.caps.length (rtsF n.caps), .rsl 4 n.fls.length (flsF n.fls)])]) () trivial ?_ (fun _ _ => Nat.zero_le _) ?_
  · simp only [↓EVP0, EVQ0, EVQ1, EVQ2, EVQ3, EVQ4, EVA, EVK, EVFD,EVFT, ↓reduceIte, Nat.reduceEqDiff, Nat.reduceAdd, Nat.reduceSub, Nat.reduceMul, Nat.reduceLT, Nat.reduceLeDiff, reduceCtorEq, Int.reduceToNat, Int.reduceLT, Int.reduceLE, Int.reduceAdd, Int.reduceSub, Int.reduceMul, Int.reduceNeg, Int.reduceEq, Nat.reduceMod, forall_eq_or_imp, forall_eq, forall_const, cond_true, cond_false, decide_true, decide_false, true_imp_iff, implies_true, Int.cast_ofNat_Int, forall_eq']
    rfl
  intro i _ hi _
  unfold lb10_2
  simp only [↓EVP0, EVQ0, EVQ1, EVQ2, EVQ3, EVQ4, EVA, EVK, EVFD,EVFT, ↓reduceIte, Nat.reduceEqDiff, Nat.reduceAdd, Nat.reduceSub, Nat.reduceMul, Nat.reduceLT, Nat.reduceLeDiff, reduceCtorEq, Int.reduceToNat, Int.reduceLT, Int.reduceLE, Int.reduceAdd, Int.reduceSub, Int.reduceMul, Int.reduceNeg, Int.reduceEq, Nat.reduceMod, forall_eq_or_imp, forall_eq, forall_const, cond_true, cond_false, decide_true, decide_false, true_imp_iff, implies_true, Int.cast_ofNat_Int, forall_eq']
  have hlA := txA_len hV i
  refine fun _ => ⟨fun hg => ?_, fun hg => ?_⟩
  · have hi2 : i < n.caps.length := by have := of_decide_eq_true hg; omega
    have hvc := (hV.cap _ (getD_mem default hi2)).1
    have h1 := ev_rtext (n.caps.getD i default) hvc
    have hlt := txtQ_len (vld_rtok hvc)
    have hst := txA_succ hi2
    unfold ratV at h1
    refine ⟨by rw [c1, strB_size, strB_size, l1]; omega, by omega, ?_⟩
    refine callK_ro (h1) ?_ ?_
    · simp only [↓EVP0, EVQ0, EVQ1, EVQ2, EVQ3, EVQ4, EVA, EVK, EVFD,EVFT, ↓reduceIte, Nat.reduceEqDiff, Nat.reduceAdd, Nat.reduceSub, Nat.reduceMul, Nat.reduceLT, Nat.reduceLeDiff, reduceCtorEq, Int.reduceToNat, Int.reduceLT, Int.reduceLE, Int.reduceAdd, Int.reduceSub, Int.reduceMul, Int.reduceNeg, Int.reduceEq, Nat.reduceMod, forall_eq_or_imp, forall_eq, forall_const, cond_true, cond_false, decide_true, decide_false, true_imp_iff, implies_true, Int.cast_ofNat_Int, forall_eq']
    simp only [↓EVP0, EVQ0, EVQ1, EVQ2, EVQ3, EVQ4, EVA, EVK, EVFD,EVFT, ↓reduceIte, Nat.reduceEqDiff, Nat.reduceAdd, Nat.reduceSub, Nat.reduceMul, Nat.reduceLT, Nat.reduceLeDiff, reduceCtorEq, Int.reduceToNat, Int.reduceLT, Int.reduceLE, Int.reduceAdd, Int.reduceSub, Int.reduceMul, Int.reduceNeg, Int.reduceEq, Nat.reduceMod, forall_eq_or_imp, forall_eq, forall_const, cond_true, cond_false, decide_true, decide_false, true_imp_iff, implies_true, Int.cast_ofNat_Int, forall_eq']
    rw [c1, c2]
    simp only [strB_app, strB_size, List.length_append, l1, List.length_singleton]
    exact ⟨by omega, by omega, by unfold In64; omega, hi2, (), by rw [hst]⟩
  have hi2 : i = n.caps.length := by have := of_decide_eq_false hg; omega
  subst hi2
  have hB0 : txA n n.caps.length = txB n 0 := by simp [txB]
  rw [hB0]
  refine lwp_for (α := Unit) n.fls.length (fun j _ => True) (fun j _ => [(1, .ptr 0 0 0 0 0), (3, .sc (.string (strB (txB n j)))), (5, .sc (.int .i64 (j : Nat)))]) (fun j _ => [(0, .box [.rsl 2 n.caps.length (rtsF n.caps), .rsl 4 n.fls.length (flsF n.fls)])]) () trivial ?_ (fun _ _ => Nat.zero_le _) ?_
  · simp only [↓EVP0, EVQ0, EVQ1, EVQ2, EVQ3, EVQ4, EVA, EVK, EVFD,EVFT, ↓reduceIte, Nat.reduceEqDiff, Nat.reduceAdd, Nat.reduceSub, Nat.reduceMul, Nat.reduceLT, Nat.reduceLeDiff, reduceCtorEq, Int.reduceToNat, Int.reduceLT, Int.reduceLE, Int.reduceAdd, Int.reduceSub, Int.reduceMul, Int.reduceNeg, Int.reduceEq, Nat.reduceMod, forall_eq_or_imp, forall_eq, forall_const, cond_true, cond_false, decide_true, decide_false, true_imp_iff, implies_true, Int.cast_ofNat_Int, forall_eq']
  intro j _ hj _
  unfold lb10_1
  simp only [↓EVP0, EVQ0, EVQ1, EVQ2, EVQ3, EVQ4, EVA, EVK, EVFD,EVFT, ↓reduceIte, Nat.reduceEqDiff, Nat.reduceAdd, Nat.reduceSub, Nat.reduceMul, Nat.reduceLT, Nat.reduceLeDiff, reduceCtorEq, Int.reduceToNat, Int.reduceLT, Int.reduceLE, Int.reduceAdd, Int.reduceSub, Int.reduceMul, Int.reduceNeg, Int.reduceEq, Nat.reduceMod, forall_eq_or_imp, forall_eq, forall_const, cond_true, cond_false, decide_true, decide_false, true_imp_iff, implies_true, Int.cast_ofNat_Int, forall_eq']
  have hlB := txB_len hV j
  refine fun _ => ⟨fun hg => ?_, fun hg => ?_⟩
  · have hj2 : j < n.fls.length := by have := of_decide_eq_true hg; omega
    have hm : n.fls.getD j default ∈ n.fls := getD_mem default hj2
    have hvd := (hV.dem _ hm).1
    have h1 := ev_rtext _ hvd
    have hlt := txtQ_len (vld_rtok hvd)
    have hone := txB_one hj2
    have htwo := txB_two hj2
    have hlC := txC_len hV j hm
    have hz := txC_zero n j (n.fls.getD j default)
    have hcs := fun {k} h => txC_succ (n := n) (j := j) (f := n.fls.getD j default) (k := k) h
    have hlk := hV.link _ hm
    have h32 := links_len hV hm
    have hnc := hV.nc
    unfold ratV at h1
    refine ⟨by rw [c3, strB_size, strB_size, l3]; omega, ?_⟩
    rw [c3, strB_app, ← hz]
    refine lwp_for (α := Unit) (n.fls.getD j default).links.length (fun k _ => True) (fun k _ => [(1, .ptr 0 0 0 0 0), (3, .sc (.string (strB (txC n j (n.fls.getD j default) k)))), (5, .sc (.int .i64 (j : Nat))), (6, .sc (.int .i64 (k : Nat)))]) (fun k _ => [(0, .box [.rsl 2 n.caps.length (rtsF n.caps), .rsl 4 n.fls.length (flsF n.fls)])]) () trivial ?_ (fun _ _ => Nat.zero_le _) ?_
    · simp only [↓EVP0, EVQ0, EVQ1, EVQ2, EVQ3, EVQ4, EVA, EVK, EVFD,EVFT, ↓reduceIte, Nat.reduceEqDiff, Nat.reduceAdd, Nat.reduceSub, Nat.reduceMul, Nat.reduceLT, Nat.reduceLeDiff, reduceCtorEq, Int.reduceToNat, Int.reduceLT, Int.reduceLE, Int.reduceAdd, Int.reduceSub, Int.reduceMul, Int.reduceNeg, Int.reduceEq, Nat.reduceMod, forall_eq_or_imp, forall_eq, forall_const, cond_true, cond_false, decide_true, decide_false, true_imp_iff, implies_true, Int.cast_ofNat_Int, forall_eq']
    intro k _ hk _
    unfold lb10_0
    simp only [↓EVP0, EVQ0, EVQ1, EVQ2, EVQ3, EVQ4, EVA, EVK, EVFD,EVFT, ↓reduceIte, Nat.reduceEqDiff, Nat.reduceAdd, Nat.reduceSub, Nat.reduceMul, Nat.reduceLT, Nat.reduceLeDiff, reduceCtorEq, Int.reduceToNat, Int.reduceLT, Int.reduceLE, Int.reduceAdd, Int.reduceSub, Int.reduceMul, Int.reduceNeg, Int.reduceEq, Nat.reduceMod, forall_eq_or_imp, forall_eq, forall_const, cond_true, cond_false, decide_true, decide_false, true_imp_iff, implies_true, Int.cast_ofNat_Int, forall_eq']
    have hlk' := hlC k
    refine ⟨⟨by omega, by omega⟩, fun _ => ⟨fun hg3 => ?_, fun hg3 => ⟨⟨by omega, by omega⟩, fun hb => ?_, fun hb => ?_⟩⟩⟩
    · have hk2 : k < (n.fls.getD j default).links.length := by have := of_decide_eq_true hg3; omega
      have hx := hlk _ (getD_mem 0 hk2)
      have h2 := ev_rdec33 ((n.fls.getD j default).links.getD k 0).toNat (by omega)
      rw [show ((((n.fls.getD j default).links.getD k 0).toNat : Nat) : Int) = (n.fls.getD j default).links.getD k 0 by omega, ← itP hx.1] at h2
      have hil := itoa_le (n := (n.fls.getD j default).links.getD k 0) (by unfold In64; omega)
      have hst := hcs hk2
      refine ⟨by rw [c4, strB_size, strB_size]; simp only [List.length_singleton]; omega, ⟨by omega, by omega⟩, ⟨by omega, by omega⟩, ?_⟩
      refine callK_ro (h2) ?_ ?_
      · simp only [↓EVP0, EVQ0, EVQ1, EVQ2, EVQ3, EVQ4, EVA, EVK, EVFD,EVFT, ↓reduceIte, Nat.reduceEqDiff, Nat.reduceAdd, Nat.reduceSub, Nat.reduceMul, Nat.reduceLT, Nat.reduceLeDiff, reduceCtorEq, Int.reduceToNat, Int.reduceLT, Int.reduceLE, Int.reduceAdd, Int.reduceSub, Int.reduceMul, Int.reduceNeg, Int.reduceEq, Nat.reduceMod, forall_eq_or_imp, forall_eq, forall_const, cond_true, cond_false, decide_true, decide_false, true_imp_iff, implies_true, Int.cast_ofNat_Int, forall_eq']
      simp only [↓EVP0, EVQ0, EVQ1, EVQ2, EVQ3, EVQ4, EVA, EVK, EVFD,EVFT, ↓reduceIte, Nat.reduceEqDiff, Nat.reduceAdd, Nat.reduceSub, Nat.reduceMul, Nat.reduceLT, Nat.reduceLeDiff, reduceCtorEq, Int.reduceToNat, Int.reduceLT, Int.reduceLE, Int.reduceAdd, Int.reduceSub, Int.reduceMul, Int.reduceNeg, Int.reduceEq, Nat.reduceMod, forall_eq_or_imp, forall_eq, forall_const, cond_true, cond_false, decide_true, decide_false, true_imp_iff, implies_true, Int.cast_ofNat_Int, forall_eq']
      rw [c4]
      simp only [strB_app, strB_size, List.length_append, List.length_singleton]
      exact ⟨by omega, by unfold In64; omega, hk2, (), by rw [hst]⟩
    · have hk2 : k = (n.fls.getD j default).links.length := by have := of_decide_eq_false hg3; omega
      subst hk2
      have hst := hone hb
      refine ⟨by rw [c5, strB_size, strB_size, l5]; omega, ⟨by omega, by omega⟩, ?_⟩
      refine callK_ro (h1) ?_ ?_
      · simp only [↓EVP0, EVQ0, EVQ1, EVQ2, EVQ3, EVQ4, EVA, EVK, EVFD,EVFT, ↓reduceIte, Nat.reduceEqDiff, Nat.reduceAdd, Nat.reduceSub, Nat.reduceMul, Nat.reduceLT, Nat.reduceLeDiff, reduceCtorEq, Int.reduceToNat, Int.reduceLT, Int.reduceLE, Int.reduceAdd, Int.reduceSub, Int.reduceMul, Int.reduceNeg, Int.reduceEq, Nat.reduceMod, forall_eq_or_imp, forall_eq, forall_const, cond_true, cond_false, decide_true, decide_false, true_imp_iff, implies_true, Int.cast_ofNat_Int, forall_eq']
      simp only [↓EVP0, EVQ0, EVQ1, EVQ2, EVQ3, EVQ4, EVA, EVK, EVFD,EVFT, ↓reduceIte, Nat.reduceEqDiff, Nat.reduceAdd, Nat.reduceSub, Nat.reduceMul, Nat.reduceLT, Nat.reduceLeDiff, reduceCtorEq, Int.reduceToNat, Int.reduceLT, Int.reduceLE, Int.reduceAdd, Int.reduceSub, Int.reduceMul, Int.reduceNeg, Int.reduceEq, Nat.reduceMod, forall_eq_or_imp, forall_eq, forall_const, cond_true, cond_false, decide_true, decide_false, true_imp_iff, implies_true, Int.cast_ofNat_Int, forall_eq']
      rw [c5, c2]
      simp only [strB_app, strB_size, List.length_append, l5, List.length_singleton]
      refine ⟨by omega, by omega, by unfold In64; omega, hj2, (), by rw [hst]⟩
    · have hk2 : k = (n.fls.getD j default).links.length := by have := of_decide_eq_false hg3; omega
      subst hk2
      have hst := htwo hb
      rw [c2, strB_app, strB_size, strB_size]
      simp only [List.length_singleton]
      exact ⟨by omega, by unfold In64; omega, hj2, (), by rw [hst]⟩
  · have hj2 : j = n.fls.length := by have := of_decide_eq_false hg; omega
    subst hj2
    rfl
end Go.Proofs.YtdfiicpikcdokaaGreatDoor
namespace Go.Proofs.YtdfiicpikcdokaaGreatDoor
set_option linter.unusedSimpArgs false
set_option linter.unusedVariables false
open Go.RowKit
set_option maxRecDepth 20000

structure SmN (a b : Nt) : Prop where
  nc : a.caps.length = b.caps.length
  nf : a.fls.length = b.fls.length
  cap : ∀ i, i < a.caps.length → fullR (a.caps.getD i default) = fullR (b.caps.getD i default)
  fl : ∀ j, j < a.fls.length → (a.fls.getD j default).links = (b.fls.getD j default).links ∧ (a.fls.getD j default).bnd = (b.fls.getD j default).bnd ∧ fullR (a.fls.getD j default).dem = fullR (b.fls.getD j default).dem
theorem full_full (r : Rt) : fullR (fullR r) = fullR r := by
  unfold fullR
  by_cases e : r.d = 0
  · rw [if_pos e]; rfl
  · rw [if_neg e, if_neg e]
theorem sm_nrm {n : Nt} (hv : vldN n = true) : SmN (nrmN n) n := by
  have hV := vldN_of hv
  refine ⟨by simp [nrmN], by simp [nrmN], fun i hi => ?_, fun j hj => ?_⟩
  · have hi : i < n.caps.length := by simpa [nrmN] using hi
    have e : (nrmN n).caps.getD i default = fullR (n.caps.getD i default) := by
      unfold nrmN
      rw [List.getD_eq_getElem?_getD, List.getElem?_map, List.getElem?_eq_getElem hi, List.getD_eq_getElem?_getD, List.getElem?_eq_getElem hi]; rfl
    rw [e, full_full]
  · have hj : j < n.fls.length := by simpa [nrmN] using hj
    have e : (nrmN n).fls.getD j default = nrmF (n.fls.getD j default) := by
      unfold nrmN
      rw [List.getD_eq_getElem?_getD, List.getElem?_map, List.getElem?_eq_getElem hj, List.getD_eq_getElem?_getD, List.getElem?_eq_getElem hj]; rfl
    rw [e]
    refine ⟨rfl, rfl, ?_⟩
    obtain ⟨h1, h2, h3⟩ := hV.dem _ (getD_mem default hj)
    generalize n.fls.getD j default = f at *
    unfold nrmF
    cases hb : f.bnd with
    | true => simp only [if_true]; exact full_full _
    | false =>
      simp only [Bool.false_eq_true, if_false]
      have h4 := h3 hb
      obtain ⟨b1, b2, b3⟩ := txt_full h1
      unfold fullR at b3 ⊢
      by_cases e : f.dem.d = 0
      · rw [if_pos e]; rfl
      · rw [if_neg e] at b3 ⊢
        unfold vldR at h1
        simp only [Bool.or_eq_true, Bool.and_eq_true, decide_eq_true_eq] at h1
        have hd : f.dem.d = 1 := by
          rcases h1 with h1 | h1
          · exact absurd h1.2 e
          · have h5 := h1.2.2.2.2
            rw [h4] at h5
            have : mag f.dem.d = 1 := by simpa [mag] using h5
            unfold mag at this
            omega
        obtain ⟨lk, bn, dm⟩ := f
        cases dm
        simp only at h4 hd
        rw [h4, hd]; rfl
theorem ev_sameV (a b : Rt) (h : fullR a = fullR b) : Ev Tryz.prog 29 [ratV a, ratV b] (.sc (.bool true)) := by
  have f1 := ev_full a
  have f2 := ev_full b
  rw [h] at f1
  unfold ratV at *
  refine ev_fn Tryz.func29 comp29 (show 2 ≤ Tryz.f29.ntmps by decide) ?_; unfold cf29 rf29; simp only [↓EVP0, EVQ0, EVQ1, EVQ2, EVQ3, EVQ4, EVA, EVK, EVFD,EVFT, ↓reduceIte, Nat.reduceEqDiff, Nat.reduceAdd, Nat.reduceSub, Nat.reduceMul, Nat.reduceLT, Nat.reduceLeDiff, reduceCtorEq, Int.reduceToNat, Int.reduceLT, Int.reduceLE, Int.reduceAdd, Int.reduceSub, Int.reduceMul, Int.reduceNeg, Int.reduceEq, Nat.reduceMod, forall_eq_or_imp, forall_eq, forall_const, cond_true, cond_false, decide_true, decide_false, true_imp_iff, implies_true, Int.cast_ofNat_Int, forall_eq']
  first | refine qCallK_ro (f1) ?_ ?_ | refine eCallK_ro (f1) ?_ ?_
  · simp only [↓EVP0, EVQ0, EVQ1, EVQ2, EVQ3, EVQ4, EVA, EVK, EVFD,EVFT, ↓reduceIte, Nat.reduceEqDiff, Nat.reduceAdd, Nat.reduceSub, Nat.reduceMul, Nat.reduceLT, Nat.reduceLeDiff, reduceCtorEq, Int.reduceToNat, Int.reduceLT, Int.reduceLE, Int.reduceAdd, Int.reduceSub, Int.reduceMul, Int.reduceNeg, Int.reduceEq, Nat.reduceMod, forall_eq_or_imp, forall_eq, forall_const, cond_true, cond_false, decide_true, decide_false, true_imp_iff, implies_true, Int.cast_ofNat_Int, forall_eq']
  simp only [↓EVP0, EVQ0, EVQ1, EVQ2, EVQ3, EVQ4, EVA, EVK, EVFD,EVFT, ↓reduceIte, Nat.reduceEqDiff, Nat.reduceAdd, Nat.reduceSub, Nat.reduceMul, Nat.reduceLT, Nat.reduceLeDiff, reduceCtorEq, Int.reduceToNat, Int.reduceLT, Int.reduceLE, Int.reduceAdd, Int.reduceSub, Int.reduceMul, Int.reduceNeg, Int.reduceEq, Nat.reduceMod, forall_eq_or_imp, forall_eq, forall_const, cond_true, cond_false, decide_true, decide_false, true_imp_iff, implies_true, Int.cast_ofNat_Int, forall_eq']
  first | refine qCallK_ro (f2) ?_ ?_ | refine eCallK_ro (f2) ?_ ?_
  · simp only [↓EVP0, EVQ0, EVQ1, EVQ2, EVQ3, EVQ4, EVA, EVK, EVFD,EVFT, ↓reduceIte, Nat.reduceEqDiff, Nat.reduceAdd, Nat.reduceSub, Nat.reduceMul, Nat.reduceLT, Nat.reduceLeDiff, reduceCtorEq, Int.reduceToNat, Int.reduceLT, Int.reduceLE, Int.reduceAdd, Int.reduceSub, Int.reduceMul, Int.reduceNeg, Int.reduceEq, Nat.reduceMod, forall_eq_or_imp, forall_eq, forall_const, cond_true, cond_false, decide_true, decide_false, true_imp_iff, implies_true, Int.cast_ofNat_Int, forall_eq']
  simp only [↓EVP0, EVQ0, EVQ1, EVQ2, EVQ3, EVQ4, EVA, EVK, EVFD,EVFT, ↓reduceIte, Nat.reduceEqDiff, Nat.reduceAdd, Nat.reduceSub, Nat.reduceMul, Nat.reduceLT, Nat.reduceLeDiff, reduceCtorEq, Int.reduceToNat, Int.reduceLT, Int.reduceLE, Int.reduceAdd, Int.reduceSub, Int.reduceMul, Int.reduceNeg, Int.reduceEq, Nat.reduceMod, forall_eq_or_imp, forall_eq, forall_const, cond_true, cond_false, decide_true, decide_false, true_imp_iff, implies_true, Int.cast_ofNat_Int, forall_eq']
theorem ev_rsame33 (a b : Nt) (h : SmN a b) (hc40 : a.caps.length ≤ 40) (hf40 : a.fls.length ≤ 40) : Ev Tryz.prog 12 [netV a, netV b] (.sc (.bool true)) := by
  have hnc := h.nc
  have hnf := h.nf
  unfold netV
  refine ev_fn Tryz.func12 comp12 (show 2 ≤ Tryz.f12.ntmps by decide) ?_; unfold cf12 rf12; simp only [↓EVP0, EVQ0, EVQ1, EVQ2, EVQ3, EVQ4, EVA, EVK, EVFD,EVFT, ↓reduceIte, Nat.reduceEqDiff, Nat.reduceAdd, Nat.reduceSub, Nat.reduceMul, Nat.reduceLT, Nat.reduceLeDiff, reduceCtorEq, Int.reduceToNat, Int.reduceLT, Int.reduceLE, Int.reduceAdd, Int.reduceSub, Int.reduceMul, Int.reduceNeg, Int.reduceEq, Nat.reduceMod, forall_eq_or_imp, forall_eq, forall_const, cond_true, cond_false, decide_true, decide_false, true_imp_iff, implies_true, Int.cast_ofNat_Int, forall_eq']
  rw [← hnc, ← hnf]
  intro _ _
  rw [decide_eq_true (rfl : (a.caps.length : Int) = a.caps.length), decide_eq_true (rfl : (a.fls.length : Int) = a.fls.length)]
  refine ⟨fun h => (by cases h), fun _ => ?_⟩
  refine lwp_for (α := Unit) a.caps.length (fun i _ => True) (fun i _ => [(2, .ptr 0 0 0 0 0), (3, .ptr 1 0 0 0 0), (5, .sc (.int .i64 (i : Nat)))]) (fun i _ => [(0, .box [.rsl 2 a.caps.length (rtsF a.caps), .rsl 4 a.fls.length (flsF a.fls)]), (0, .box [.rsl 2 a.caps.length (rtsF b.caps), .rsl 4 a.fls.length (flsF b.fls)])]) () trivial ?_ (fun _ _ => Nat.zero_le _) ?_
  · simp only [↓EVP0, EVQ0, EVQ1, EVQ2, EVQ3, EVQ4, EVA, EVK, EVFD,EVFT, ↓reduceIte, Nat.reduceEqDiff, Nat.reduceAdd, Nat.reduceSub, Nat.reduceMul, Nat.reduceLT, Nat.reduceLeDiff, reduceCtorEq, Int.reduceToNat, Int.reduceLT, Int.reduceLE, Int.reduceAdd, Int.reduceSub, Int.reduceMul, Int.reduceNeg, Int.reduceEq, Nat.reduceMod, forall_eq_or_imp, forall_eq, forall_const, cond_true, cond_false, decide_true, decide_false, true_imp_iff, implies_true, Int.cast_ofNat_Int, forall_eq']
  intro i _ hi _
  unfold lb12_2
  have h1 := fun h => ev_sameV (a.caps.getD i default) (b.caps.getD i default) h
  simp only [↓EVP0, EVQ0, EVQ1, EVQ2, EVQ3, EVQ4, EVA, EVK, EVFD,EVFT, ↓reduceIte, Nat.reduceEqDiff, Nat.reduceAdd, Nat.reduceSub, Nat.reduceMul, Nat.reduceLT, Nat.reduceLeDiff, reduceCtorEq, Int.reduceToNat, Int.reduceLT, Int.reduceLE, Int.reduceAdd, Int.reduceSub, Int.reduceMul, Int.reduceNeg, Int.reduceEq, Nat.reduceMod, forall_eq_or_imp, forall_eq, forall_const, cond_true, cond_false, decide_true, decide_false, true_imp_iff, implies_true, Int.cast_ofNat_Int, forall_eq']
  refine fun _ => ⟨fun hg => ?_, fun hg => ?_⟩
  · have hi2 : i < a.caps.length := by have := of_decide_eq_true hg; omega
    have h1 := h1 (h.cap i hi2)
    unfold ratV at h1
    refine ⟨⟨by omega, by omega⟩, ⟨by omega, by omega⟩, ?_⟩
    first | refine qCallK_ro (h1) ?_ ?_ | refine eCallK_ro (h1) ?_ ?_
    · simp only [↓EVP0, EVQ0, EVQ1, EVQ2, EVQ3, EVQ4, EVA, EVK, EVFD,EVFT, ↓reduceIte, Nat.reduceEqDiff, Nat.reduceAdd, Nat.reduceSub, Nat.reduceMul, Nat.reduceLT, Nat.reduceLeDiff, reduceCtorEq, Int.reduceToNat, Int.reduceLT, Int.reduceLE, Int.reduceAdd, Int.reduceSub, Int.reduceMul, Int.reduceNeg, Int.reduceEq, Nat.reduceMod, forall_eq_or_imp, forall_eq, forall_const, cond_true, cond_false, decide_true, decide_false, true_imp_iff, implies_true, Int.cast_ofNat_Int, forall_eq']
    simp only [↓EVP0, EVQ0, EVQ1, EVQ2, EVQ3, EVQ4, EVA, EVK, EVFD,EVFT, ↓reduceIte, Nat.reduceEqDiff, Nat.reduceAdd, Nat.reduceSub, Nat.reduceMul, Nat.reduceLT, Nat.reduceLeDiff, reduceCtorEq, Int.reduceToNat, Int.reduceLT, Int.reduceLE, Int.reduceAdd, Int.reduceSub, Int.reduceMul, Int.reduceNeg, Int.reduceEq, Nat.reduceMod, forall_eq_or_imp, forall_eq, forall_const, cond_true, cond_false, decide_true, decide_false, true_imp_iff, implies_true, Int.cast_ofNat_Int, forall_eq']
    exact ⟨by unfold In64; omega, hi2, (), trivial⟩
  have hi2 : i = a.caps.length := by have := of_decide_eq_false hg; omega
  subst hi2
  refine lwp_for (α := Unit) a.fls.length (fun j _ => True) (fun j _ => [(2, .ptr 0 0 0 0 0), (3, .ptr 1 0 0 0 0), (6, .sc (.int .i64 (j : Nat)))]) (fun i _ => [(0, .box [.rsl 2 a.caps.length (rtsF a.caps), .rsl 4 a.fls.length (flsF a.fls)]), (0, .box [.rsl 2 a.caps.length (rtsF b.caps), .rsl 4 a.fls.length (flsF b.fls)])]) () trivial ?_ (fun _ _ => Nat.zero_le _) ?_
  · simp only [↓EVP0, EVQ0, EVQ1, EVQ2, EVQ3, EVQ4, EVA, EVK, EVFD,EVFT, ↓reduceIte, Nat.reduceEqDiff, Nat.reduceAdd, Nat.reduceSub, Nat.reduceMul, Nat.reduceLT, Nat.reduceLeDiff, reduceCtorEq, Int.reduceToNat, Int.reduceLT, Int.reduceLE, Int.reduceAdd, Int.reduceSub, Int.reduceMul, Int.reduceNeg, Int.reduceEq, Nat.reduceMod, forall_eq_or_imp, forall_eq, forall_const, cond_true, cond_false, decide_true, decide_false, true_imp_iff, implies_true, Int.cast_ofNat_Int, forall_eq']
  intro j _ hj _
  unfold lb12_1
  have h2 := fun h => ev_sameV (a.fls.getD j default).dem (b.fls.getD j default).dem h
  simp only [↓EVP0, EVQ0, EVQ1, EVQ2, EVQ3, EVQ4, EVA, EVK, EVFD,EVFT, ↓reduceIte, Nat.reduceEqDiff, Nat.reduceAdd, Nat.reduceSub, Nat.reduceMul, Nat.reduceLT, Nat.reduceLeDiff, reduceCtorEq, Int.reduceToNat, Int.reduceLT, Int.reduceLE, Int.reduceAdd, Int.reduceSub, Int.reduceMul, Int.reduceNeg, Int.reduceEq, Nat.reduceMod, forall_eq_or_imp, forall_eq, forall_const, cond_true, cond_false, decide_true, decide_false, true_imp_iff, implies_true, Int.cast_ofNat_Int, forall_eq']
  refine fun _ => ⟨fun hg => ?_, fun hg => trivial⟩
  have hj2 : j < a.fls.length := by have := of_decide_eq_true hg; omega
  refine lwp_join (α := Bool) (fun _ => True) (fun c => [(2, .ptr 0 0 0 0 0), (3, .ptr 1 0 0 0 0), (6, .sc (.int .i64 (j : Nat))), (7, .ptr (bif c then 2 else 3) 0 0 0 0), (8, .ptr (bif c then 3 else 2) 0 0 0 0)])
    (fun c => [(0, .box [.rsl 2 a.caps.length (rtsF a.caps), .rsl 4 a.fls.length (flsF a.fls)]), (0, .box [.rsl 2 a.caps.length (rtsF b.caps), .rsl 4 a.fls.length (flsF b.fls)]), (0, .box (flL (bif c then a.fls.getD j default else b.fls.getD j default))), (0, .box (flL (bif c then b.fls.getD j default else a.fls.getD j default)))]) (fun c => Nat.zero_le _) ?_ ?_
  · simp only [↓EVP0, EVQ0, EVQ1, EVQ2, EVQ3, EVQ4, EVA, EVK, EVFD,EVFT, ↓reduceIte, Nat.reduceEqDiff, Nat.reduceAdd, Nat.reduceSub, Nat.reduceMul, Nat.reduceLT, Nat.reduceLeDiff, reduceCtorEq, Int.reduceToNat, Int.reduceLT, Int.reduceLE, Int.reduceAdd, Int.reduceSub, Int.reduceMul, Int.reduceNeg, Int.reduceEq, Nat.reduceMod, forall_eq_or_imp, forall_eq, forall_const, cond_true, cond_false, decide_true, decide_false, true_imp_iff, implies_true, Int.cast_ofNat_Int, forall_eq']
    repeat' first
      | exact ⟨by omega, by omega⟩
      | exact ⟨true, ⟨rfl, by decide, rfl, by decide⟩, rfl, ⟨trivial, trivial, trivial, trivial, trivial⟩, rfl, ⟨trivial, trivial, trivial, trivial, trivial⟩⟩
      | exact ⟨false, ⟨rfl, by decide, rfl, by decide⟩, rfl, ⟨trivial, trivial, trivial, trivial, trivial⟩, rfl, ⟨trivial, trivial, trivial, trivial, trivial⟩⟩
      | refine ⟨?_, ?_⟩
  obtain ⟨g1, g2, g3⟩ := h.fl j hj2
  have h2 := h2 g3
  unfold ratV at h2
  rintro c _
  cases c
  · simp only [cond_false]
    unfold flL
    simp only [↓EVP0, EVQ0, EVQ1, EVQ2, EVQ3, EVQ4, EVA, EVK, EVFD,EVFT, ↓reduceIte, Nat.reduceEqDiff, Nat.reduceAdd, Nat.reduceSub, Nat.reduceMul, Nat.reduceLT, Nat.reduceLeDiff, reduceCtorEq, Int.reduceToNat, Int.reduceLT, Int.reduceLE, Int.reduceAdd, Int.reduceSub, Int.reduceMul, Int.reduceNeg, Int.reduceEq, Nat.reduceMod, forall_eq_or_imp, forall_eq, forall_const, cond_true, cond_false, decide_true, decide_false, true_imp_iff, implies_true, Int.cast_ofNat_Int, forall_eq']
    rw [← g1, ← g2]
    generalize (a.fls.getD j default).links = lk at *
    generalize (a.fls.getD j default).bnd = bn at *
    generalize (a.fls.getD j default).dem = da at *
    generalize (b.fls.getD j default).dem = db at *
    rw [show (true ^^ decide (bn = bn)) = false by simp]
    (refine lops_ge_imp ?_; simp only [↓EVP0, EVQ0, EVQ1, EVQ2, EVQ3, EVQ4, EVA, EVK, EVFD,EVFT, ↓reduceIte, Nat.reduceEqDiff, Nat.reduceAdd, Nat.reduceSub, Nat.reduceMul, Nat.reduceLT, Nat.reduceLeDiff, reduceCtorEq, Int.reduceToNat, Int.reduceLT, Int.reduceLE, Int.reduceAdd, Int.reduceSub, Int.reduceMul, Int.reduceNeg, Int.reduceEq, Nat.reduceMod, forall_eq_or_imp, forall_eq, forall_const, cond_true, cond_false, decide_true, decide_false, true_imp_iff, implies_true, Int.cast_ofNat_Int, forall_eq'])
    refine gCallK_ro _ (fun _ => h2) (fun _ => ?_) ?_
    · simp only [↓EVP0, EVQ0, EVQ1, EVQ2, EVQ3, EVQ4, EVA, EVK, EVFD,EVFT, ↓reduceIte, Nat.reduceEqDiff, Nat.reduceAdd, Nat.reduceSub, Nat.reduceMul, Nat.reduceLT, Nat.reduceLeDiff, reduceCtorEq, Int.reduceToNat, Int.reduceLT, Int.reduceLE, Int.reduceAdd, Int.reduceSub, Int.reduceMul, Int.reduceNeg, Int.reduceEq, Nat.reduceMod, forall_eq_or_imp, forall_eq, forall_const, cond_true, cond_false, decide_true, decide_false, true_imp_iff, implies_true, Int.cast_ofNat_Int, forall_eq']
    simp only [↓EVP0, EVQ0, EVQ1, EVQ2, EVQ3, EVQ4, EVA, EVK, EVFD,EVFT, ↓reduceIte, Nat.reduceEqDiff, Nat.reduceAdd, Nat.reduceSub, Nat.reduceMul, Nat.reduceLT, Nat.reduceLeDiff, reduceCtorEq, Int.reduceToNat, Int.reduceLT, Int.reduceLE, Int.reduceAdd, Int.reduceSub, Int.reduceMul, Int.reduceNeg, Int.reduceEq, Nat.reduceMod, forall_eq_or_imp, forall_eq, forall_const, cond_true, cond_false, decide_true, decide_false, true_imp_iff, implies_true, Int.cast_ofNat_Int, forall_eq']
    refine lwp_for (α := Unit) lk.length (fun k _ => True) (fun k _ => [(2, .ptr 0 0 0 0 0), (3, .ptr 1 0 0 0 0), (6, .sc (.int .i64 (j : Nat))), (7, .ptr 3 0 0 0 0), (8, .ptr 2 0 0 0 0), (9, .sc (.int .i64 (k : Nat)))]) (fun _ _ => [(0, .box [.rsl 2 a.caps.length (rtsF a.caps), .rsl 4 a.fls.length (flsF a.fls)]), (0, .box [.rsl 2 a.caps.length (rtsF b.caps), .rsl 4 a.fls.length (flsF b.fls)]), (0, .box [.rsl 1 lk.length (intsF lk), .sc (.bool bn), .sc (.int .i64 db.n), .sc (.int .i64 db.d)]), (0, .box [.rsl 1 lk.length (intsF lk), .sc (.bool bn), .sc (.int .i64 da.n), .sc (.int .i64 da.d)])]) () trivial ?_ (fun _ _ => Nat.zero_le _) ?_
    · simp only [↓EVP0, EVQ0, EVQ1, EVQ2, EVQ3, EVQ4, EVA, EVK, EVFD,EVFT, ↓reduceIte, Nat.reduceEqDiff, Nat.reduceAdd, Nat.reduceSub, Nat.reduceMul, Nat.reduceLT, Nat.reduceLeDiff, reduceCtorEq, Int.reduceToNat, Int.reduceLT, Int.reduceLE, Int.reduceAdd, Int.reduceSub, Int.reduceMul, Int.reduceNeg, Int.reduceEq, Nat.reduceMod, forall_eq_or_imp, forall_eq, forall_const, cond_true, cond_false, decide_true, decide_false, true_imp_iff, implies_true, Int.cast_ofNat_Int, forall_eq']
    intro k _ hk _
    unfold lb12_0
    simp only [↓EVP0, EVQ0, EVQ1, EVQ2, EVQ3, EVQ4, EVA, EVK, EVFD,EVFT, ↓reduceIte, Nat.reduceEqDiff, Nat.reduceAdd, Nat.reduceSub, Nat.reduceMul, Nat.reduceLT, Nat.reduceLeDiff, reduceCtorEq, Int.reduceToNat, Int.reduceLT, Int.reduceLE, Int.reduceAdd, Int.reduceSub, Int.reduceMul, Int.reduceNeg, Int.reduceEq, Nat.reduceMod, forall_eq_or_imp, forall_eq, forall_const, cond_true, cond_false, decide_true, decide_false, true_imp_iff, implies_true, Int.cast_ofNat_Int, forall_eq']
    refine fun _ => ⟨fun hg => ?_, fun hg => ⟨by unfold In64; omega, hj2, (), trivial⟩⟩
    have hk2 : k < lk.length := by have := of_decide_eq_true hg; omega
    exact ⟨⟨by omega, by omega⟩, ⟨by omega, by omega⟩, by unfold In64; omega, hk2, (), trivial⟩
  · simp only [cond_true]
    unfold flL
    simp only [↓EVP0, EVQ0, EVQ1, EVQ2, EVQ3, EVQ4, EVA, EVK, EVFD,EVFT, ↓reduceIte, Nat.reduceEqDiff, Nat.reduceAdd, Nat.reduceSub, Nat.reduceMul, Nat.reduceLT, Nat.reduceLeDiff, reduceCtorEq, Int.reduceToNat, Int.reduceLT, Int.reduceLE, Int.reduceAdd, Int.reduceSub, Int.reduceMul, Int.reduceNeg, Int.reduceEq, Nat.reduceMod, forall_eq_or_imp, forall_eq, forall_const, cond_true, cond_false, decide_true, decide_false, true_imp_iff, implies_true, Int.cast_ofNat_Int, forall_eq']
    rw [← g1, ← g2]
    generalize (a.fls.getD j default).links = lk at *
    generalize (a.fls.getD j default).bnd = bn at *
    generalize (a.fls.getD j default).dem = da at *
    generalize (b.fls.getD j default).dem = db at *
    rw [show (true ^^ decide (bn = bn)) = false by simp]
    (refine lops_ge_imp ?_; simp only [↓EVP0, EVQ0, EVQ1, EVQ2, EVQ3, EVQ4, EVA, EVK, EVFD,EVFT, ↓reduceIte, Nat.reduceEqDiff, Nat.reduceAdd, Nat.reduceSub, Nat.reduceMul, Nat.reduceLT, Nat.reduceLeDiff, reduceCtorEq, Int.reduceToNat, Int.reduceLT, Int.reduceLE, Int.reduceAdd, Int.reduceSub, Int.reduceMul, Int.reduceNeg, Int.reduceEq, Nat.reduceMod, forall_eq_or_imp, forall_eq, forall_const, cond_true, cond_false, decide_true, decide_false, true_imp_iff, implies_true, Int.cast_ofNat_Int, forall_eq'])
    refine gCallK_ro _ (fun _ => h2) (fun _ => ?_) ?_
    · simp only [↓EVP0, EVQ0, EVQ1, EVQ2, EVQ3, EVQ4, EVA, EVK, EVFD,EVFT, ↓reduceIte, Nat.reduceEqDiff, Nat.reduceAdd, Nat.reduceSub, Nat.reduceMul, Nat.reduceLT, Nat.reduceLeDiff, reduceCtorEq, Int.reduceToNat, Int.reduceLT, Int.reduceLE, Int.reduceAdd, Int.reduceSub, Int.reduceMul, Int.reduceNeg, Int.reduceEq, Nat.reduceMod, forall_eq_or_imp, forall_eq, forall_const, cond_true, cond_false, decide_true, decide_false, true_imp_iff, implies_true, Int.cast_ofNat_Int, forall_eq']
    simp only [↓EVP0, EVQ0, EVQ1, EVQ2, EVQ3, EVQ4, EVA, EVK, EVFD,EVFT, ↓reduceIte, Nat.reduceEqDiff, Nat.reduceAdd, Nat.reduceSub, Nat.reduceMul, Nat.reduceLT, Nat.reduceLeDiff, reduceCtorEq, Int.reduceToNat, Int.reduceLT, Int.reduceLE, Int.reduceAdd, Int.reduceSub, Int.reduceMul, Int.reduceNeg, Int.reduceEq, Nat.reduceMod, forall_eq_or_imp, forall_eq, forall_const, cond_true, cond_false, decide_true, decide_false, true_imp_iff, implies_true, Int.cast_ofNat_Int, forall_eq']
    refine lwp_for (α := Unit) lk.length (fun k _ => True) (fun k _ => [(2, .ptr 0 0 0 0 0), (3, .ptr 1 0 0 0 0), (6, .sc (.int .i64 (j : Nat))), (7, .ptr 2 0 0 0 0), (8, .ptr 3 0 0 0 0), (9, .sc (.int .i64 (k : Nat)))]) (fun _ _ => [(0, .box [.rsl 2 a.caps.length (rtsF a.caps), .rsl 4 a.fls.length (flsF a.fls)]), (0, .box [.rsl 2 a.caps.length (rtsF b.caps), .rsl 4 a.fls.length (flsF b.fls)]), (0, .box [.rsl 1 lk.length (intsF lk), .sc (.bool bn), .sc (.int .i64 da.n), .sc (.int .i64 da.d)]), (0, .box [.rsl 1 lk.length (intsF lk), .sc (.bool bn), .sc (.int .i64 db.n), .sc (.int .i64 db.d)])]) () trivial ?_ (fun _ _ => Nat.zero_le _) ?_
    · simp only [↓EVP0, EVQ0, EVQ1, EVQ2, EVQ3, EVQ4, EVA, EVK, EVFD,EVFT, ↓reduceIte, Nat.reduceEqDiff, Nat.reduceAdd, Nat.reduceSub, Nat.reduceMul, Nat.reduceLT, Nat.reduceLeDiff, reduceCtorEq, Int.reduceToNat, Int.reduceLT, Int.reduceLE, Int.reduceAdd, Int.reduceSub, Int.reduceMul, Int.reduceNeg, Int.reduceEq, Nat.reduceMod, forall_eq_or_imp, forall_eq, forall_const, cond_true, cond_false, decide_true, decide_false, true_imp_iff, implies_true, Int.cast_ofNat_Int, forall_eq']
    intro k _ hk _
    unfold lb12_0
    simp only [↓EVP0, EVQ0, EVQ1, EVQ2, EVQ3, EVQ4, EVA, EVK, EVFD,EVFT, ↓reduceIte, Nat.reduceEqDiff, Nat.reduceAdd, Nat.reduceSub, Nat.reduceMul, Nat.reduceLT, Nat.reduceLeDiff, reduceCtorEq, Int.reduceToNat, Int.reduceLT, Int.reduceLE, Int.reduceAdd, Int.reduceSub, Int.reduceMul, Int.reduceNeg, Int.reduceEq, Nat.reduceMod, forall_eq_or_imp, forall_eq, forall_const, cond_true, cond_false, decide_true, decide_false, true_imp_iff, implies_true, Int.cast_ofNat_Int, forall_eq']
    refine fun _ => ⟨fun hg => ?_, fun hg => ⟨by unfold In64; omega, hj2, (), trivial⟩⟩
    have hk2 : k < lk.length := by have := of_decide_eq_true hg; omega
    exact ⟨⟨by omega, by omega⟩, ⟨by omega, by omega⟩, by unfold In64; omega, hk2, (), trivial⟩
end Go.Proofs.YtdfiicpikcdokaaGreatDoor
namespace Go.Proofs.YtdfiicpikcdokaaGreatDoor
set_option linter.unusedSimpArgs false
set_option linter.unusedVariables false
open Go.RowKit
set_option maxRecDepth 20000

theorem nt_it {n : Nt} (hn : NtOk n) : NtIt n :=
  ⟨fun c hc => ⟨ev_itoaA c.n (hn.caps c hc).1, ev_itoaA c.d (hn.caps c hc).2⟩, fun f hf x hx => ev_itoaA x (hn.links f hf x hx), fun f hf => ⟨ev_itoaA f.dem.n (hn.dem f hf).1, ev_itoaA f.dem.d (hn.dem f hf).2⟩⟩
theorem nrm_len {n : Nt} (hv : vldN n = true) : (nrmN n).caps.length ≤ 32 ∧ (nrmN n).fls.length ≤ 32 := by
  have h := vldN_of (vld_nrm hv)
  exact ⟨h.nc, h.nf⟩
theorem netT_len {n : Nt} (hv : vldN n = true) : (netT n).length ≤ 26560 := by
  have hnT : netT n = txB n n.fls.length := by unfold netT txB txA; rw [List.take_length, List.take_length]
  rw [hnT]
  exact txB_len (vldN_of hv) _
theorem ev_lawTexts33 (n : Nt) (hn : NtOk n) : Ev Tryz.prog 3 [netV n] (.sc (.bool true)) := by
  have h0 := ev_awake33
  have h1 := ev_few33 n
  have h2 := ev_format33 n hn (nt_it hn)
  have h3 := ev_validN n hn
  have h5 := ev_plain33 n
  unfold netV at *
  refine ev_fn Tryz.func3 comp3 (show 1 ≤ Tryz.f3.ntmps by decide) ?_; unfold cf3 rf3; simp only [↓EVP0, EVQ0, EVQ1, EVQ2, EVQ3, EVQ4, EVA, EVK, EVFD,EVFT, ↓reduceIte, Nat.reduceEqDiff, Nat.reduceAdd, Nat.reduceSub, Nat.reduceMul, Nat.reduceLT, Nat.reduceLeDiff, reduceCtorEq, Int.reduceToNat, Int.reduceLT, Int.reduceLE, Int.reduceAdd, Int.reduceSub, Int.reduceMul, Int.reduceNeg, Int.reduceEq, Nat.reduceMod, forall_eq_or_imp, forall_eq, forall_const, cond_true, cond_false, decide_true, decide_false, true_imp_iff, implies_true, Int.cast_ofNat_Int, forall_eq']
  refine callK_ro (h0) ?_ ?_
  · simp only [↓EVP0, EVQ0, EVQ1, EVQ2, EVQ3, EVQ4, EVA, EVK, EVFD,EVFT, ↓reduceIte, Nat.reduceEqDiff, Nat.reduceAdd, Nat.reduceSub, Nat.reduceMul, Nat.reduceLT, Nat.reduceLeDiff, reduceCtorEq, Int.reduceToNat, Int.reduceLT, Int.reduceLE, Int.reduceAdd, Int.reduceSub, Int.reduceMul, Int.reduceNeg, Int.reduceEq, Nat.reduceMod, forall_eq_or_imp, forall_eq, forall_const, cond_true, cond_false, decide_true, decide_false, true_imp_iff, implies_true, Int.cast_ofNat_Int, forall_eq']
  simp only [↓EVP0, EVQ0, EVQ1, EVQ2, EVQ3, EVQ4, EVA, EVK, EVFD,EVFT, ↓reduceIte, Nat.reduceEqDiff, Nat.reduceAdd, Nat.reduceSub, Nat.reduceMul, Nat.reduceLT, Nat.reduceLeDiff, reduceCtorEq, Int.reduceToNat, Int.reduceLT, Int.reduceLE, Int.reduceAdd, Int.reduceSub, Int.reduceMul, Int.reduceNeg, Int.reduceEq, Nat.reduceMod, forall_eq_or_imp, forall_eq, forall_const, cond_true, cond_false, decide_true, decide_false, true_imp_iff, implies_true, Int.cast_ofNat_Int, forall_eq']
  (refine lops_ge_imp ?_; simp only [↓EVP0, EVQ0, EVQ1, EVQ2, EVQ3, EVQ4, EVA, EVK, EVFD,EVFT, ↓reduceIte, Nat.reduceEqDiff, Nat.reduceAdd, Nat.reduceSub, Nat.reduceMul, Nat.reduceLT, Nat.reduceLeDiff, reduceCtorEq, Int.reduceToNat, Int.reduceLT, Int.reduceLE, Int.reduceAdd, Int.reduceSub, Int.reduceMul, Int.reduceNeg, Int.reduceEq, Nat.reduceMod, forall_eq_or_imp, forall_eq, forall_const, cond_true, cond_false, decide_true, decide_false, true_imp_iff, implies_true, Int.cast_ofNat_Int, forall_eq'])
  refine gCallK_ro _ (fun _ => h1) (fun _ => ?_) ?_
  · simp only [↓EVP0, EVQ0, EVQ1, EVQ2, EVQ3, EVQ4, EVA, EVK, EVFD,EVFT, ↓reduceIte, Nat.reduceEqDiff, Nat.reduceAdd, Nat.reduceSub, Nat.reduceMul, Nat.reduceLT, Nat.reduceLeDiff, reduceCtorEq, Int.reduceToNat, Int.reduceLT, Int.reduceLE, Int.reduceAdd, Int.reduceSub, Int.reduceMul, Int.reduceNeg, Int.reduceEq, Nat.reduceMod, forall_eq_or_imp, forall_eq, forall_const, cond_true, cond_false, decide_true, decide_false, true_imp_iff, implies_true, Int.cast_ofNat_Int, forall_eq']
  simp only [↓EVP0, EVQ0, EVQ1, EVQ2, EVQ3, EVQ4, EVA, EVK, EVFD,EVFT, ↓reduceIte, Nat.reduceEqDiff, Nat.reduceAdd, Nat.reduceSub, Nat.reduceMul, Nat.reduceLT, Nat.reduceLeDiff, reduceCtorEq, Int.reduceToNat, Int.reduceLT, Int.reduceLE, Int.reduceAdd, Int.reduceSub, Int.reduceMul, Int.reduceNeg, Int.reduceEq, Nat.reduceMod, forall_eq_or_imp, forall_eq, forall_const, cond_true, cond_false, decide_true, decide_false, true_imp_iff, implies_true, Int.cast_ofNat_Int, forall_eq']
  refine ⟨fun hg => ?_, fun hg => ?_⟩
  · refine callK_ro (h0) ?_ ?_
    · simp only [↓EVP0, EVQ0, EVQ1, EVQ2, EVQ3, EVQ4, EVA, EVK, EVFD,EVFT, ↓reduceIte, Nat.reduceEqDiff, Nat.reduceAdd, Nat.reduceSub, Nat.reduceMul, Nat.reduceLT, Nat.reduceLeDiff, reduceCtorEq, Int.reduceToNat, Int.reduceLT, Int.reduceLE, Int.reduceAdd, Int.reduceSub, Int.reduceMul, Int.reduceNeg, Int.reduceEq, Nat.reduceMod, forall_eq_or_imp, forall_eq, forall_const, cond_true, cond_false, decide_true, decide_false, true_imp_iff, implies_true, Int.cast_ofNat_Int, forall_eq']
    simp only [↓EVP0, EVQ0, EVQ1, EVQ2, EVQ3, EVQ4, EVA, EVK, EVFD,EVFT, ↓reduceIte, Nat.reduceEqDiff, Nat.reduceAdd, Nat.reduceSub, Nat.reduceMul, Nat.reduceLT, Nat.reduceLeDiff, reduceCtorEq, Int.reduceToNat, Int.reduceLT, Int.reduceLE, Int.reduceAdd, Int.reduceSub, Int.reduceMul, Int.reduceNeg, Int.reduceEq, Nat.reduceMod, forall_eq_or_imp, forall_eq, forall_const, cond_true, cond_false, decide_true, decide_false, true_imp_iff, implies_true, Int.cast_ofNat_Int, forall_eq']
  have e1 : fewB n = true := by simpa using hg
  obtain ⟨hc40, hf40⟩ := few_of e1
  refine callK_ro (h2) ?_ ?_
  · simp only [↓EVP0, EVQ0, EVQ1, EVQ2, EVQ3, EVQ4, EVA, EVK, EVFD,EVFT, ↓reduceIte, Nat.reduceEqDiff, Nat.reduceAdd, Nat.reduceSub, Nat.reduceMul, Nat.reduceLT, Nat.reduceLeDiff, reduceCtorEq, Int.reduceToNat, Int.reduceLT, Int.reduceLE, Int.reduceAdd, Int.reduceSub, Int.reduceMul, Int.reduceNeg, Int.reduceEq, Nat.reduceMod, forall_eq_or_imp, forall_eq, forall_const, cond_true, cond_false, decide_true, decide_false, true_imp_iff, implies_true, Int.cast_ofNat_Int, forall_eq']
  simp only [↓EVP0, EVQ0, EVQ1, EVQ2, EVQ3, EVQ4, EVA, EVK, EVFD,EVFT, ↓reduceIte, Nat.reduceEqDiff, Nat.reduceAdd, Nat.reduceSub, Nat.reduceMul, Nat.reduceLT, Nat.reduceLeDiff, reduceCtorEq, Int.reduceToNat, Int.reduceLT, Int.reduceLE, Int.reduceAdd, Int.reduceSub, Int.reduceMul, Int.reduceNeg, Int.reduceEq, Nat.reduceMod, forall_eq_or_imp, forall_eq, forall_const, cond_true, cond_false, decide_true, decide_false, true_imp_iff, implies_true, Int.cast_ofNat_Int, forall_eq']
  refine callK_ro (h3) ?_ ?_
  · simp only [↓EVP0, EVQ0, EVQ1, EVQ2, EVQ3, EVQ4, EVA, EVK, EVFD,EVFT, ↓reduceIte, Nat.reduceEqDiff, Nat.reduceAdd, Nat.reduceSub, Nat.reduceMul, Nat.reduceLT, Nat.reduceLeDiff, reduceCtorEq, Int.reduceToNat, Int.reduceLT, Int.reduceLE, Int.reduceAdd, Int.reduceSub, Int.reduceMul, Int.reduceNeg, Int.reduceEq, Nat.reduceMod, forall_eq_or_imp, forall_eq, forall_const, cond_true, cond_false, decide_true, decide_false, true_imp_iff, implies_true, Int.cast_ofNat_Int, forall_eq']
  simp only [↓EVP0, EVQ0, EVQ1, EVQ2, EVQ3, EVQ4, EVA, EVK, EVFD,EVFT, ↓reduceIte, Nat.reduceEqDiff, Nat.reduceAdd, Nat.reduceSub, Nat.reduceMul, Nat.reduceLT, Nat.reduceLeDiff, reduceCtorEq, Int.reduceToNat, Int.reduceLT, Int.reduceLE, Int.reduceAdd, Int.reduceSub, Int.reduceMul, Int.reduceNeg, Int.reduceEq, Nat.reduceMod, forall_eq_or_imp, forall_eq, forall_const, cond_true, cond_false, decide_true, decide_false, true_imp_iff, implies_true, Int.cast_ofNat_Int, forall_eq']
  have h5 := h5 hc40 hf40
  by_cases hv : vldN n = true
  · rw [hv]
    refine ⟨fun h => (by cases h), fun _ => ?_⟩
    rw [fmt_net hv]
    have h4 := ev_parse33 (netT n) (by have := netT_len hv; omega)
    have hpe : parse33 (netT n) = (nrmN n, 0, 0) := by
      unfold parse33
      rw [if_neg (by have := netT_len hv; omega), read_net hv]
    rw [hpe] at h4
    have h6 := ev_rformat33 n hv
    have hnl := nrm_len hv
    have h7 := ev_plain33 (nrmN n) (by omega) (by omega)
    have h8 := ev_rsame33 (nrmN n) n (sm_nrm hv) (by omega) (by omega)
    unfold prR at h4
    unfold netV at h4 h6 h7 h8
    refine callK_ro (h4) ?_ ?_
    · simp only [↓EVP0, EVQ0, EVQ1, EVQ2, EVQ3, EVQ4, EVA, EVK, EVFD,EVFT, ↓reduceIte, Nat.reduceEqDiff, Nat.reduceAdd, Nat.reduceSub, Nat.reduceMul, Nat.reduceLT, Nat.reduceLeDiff, reduceCtorEq, Int.reduceToNat, Int.reduceLT, Int.reduceLE, Int.reduceAdd, Int.reduceSub, Int.reduceMul, Int.reduceNeg, Int.reduceEq, Nat.reduceMod, forall_eq_or_imp, forall_eq, forall_const, cond_true, cond_false, decide_true, decide_false, true_imp_iff, implies_true, Int.cast_ofNat_Int, forall_eq']
    simp only [↓EVP0, EVQ0, EVQ1, EVQ2, EVQ3, EVQ4, EVA, EVK, EVFD,EVFT, ↓reduceIte, Nat.reduceEqDiff, Nat.reduceAdd, Nat.reduceSub, Nat.reduceMul, Nat.reduceLT, Nat.reduceLeDiff, reduceCtorEq, Int.reduceToNat, Int.reduceLT, Int.reduceLE, Int.reduceAdd, Int.reduceSub, Int.reduceMul, Int.reduceNeg, Int.reduceEq, Nat.reduceMod, forall_eq_or_imp, forall_eq, forall_const, cond_true, cond_false, decide_true, decide_false, true_imp_iff, implies_true, Int.cast_ofNat_Int, forall_eq']
    (first | refine lopsQ_gcall ?_ | refine lopsQ_gecl ?_); (simp only [↓EVP0, EVQ0, EVQ1, EVQ2, EVQ3, EVQ4, EVA, EVK, EVFD,EVFT, ↓reduceIte, Nat.reduceEqDiff, Nat.reduceAdd, Nat.reduceSub, Nat.reduceMul, Nat.reduceLT, Nat.reduceLeDiff, reduceCtorEq, Int.reduceToNat, Int.reduceLT, Int.reduceLE, Int.reduceAdd, Int.reduceSub, Int.reduceMul, Int.reduceNeg, Int.reduceEq, Nat.reduceMod, forall_eq_or_imp, forall_eq, forall_const, cond_true, cond_false, decide_true, decide_false, true_imp_iff, implies_true, Int.cast_ofNat_Int, forall_eq'])
    first | refine gCallK_ro _ (fun _ => h5) (fun _ => ?_) ?_ | refine geCallK_ro _ (fun _ => h5) (fun _ => ?_) ?_
    · simp only [↓EVP0, EVQ0, EVQ1, EVQ2, EVQ3, EVQ4, EVA, EVK, EVFD,EVFT, ↓reduceIte, Nat.reduceEqDiff, Nat.reduceAdd, Nat.reduceSub, Nat.reduceMul, Nat.reduceLT, Nat.reduceLeDiff, reduceCtorEq, Int.reduceToNat, Int.reduceLT, Int.reduceLE, Int.reduceAdd, Int.reduceSub, Int.reduceMul, Int.reduceNeg, Int.reduceEq, Nat.reduceMod, forall_eq_or_imp, forall_eq, forall_const, cond_true, cond_false, decide_true, decide_false, true_imp_iff, implies_true, Int.cast_ofNat_Int, forall_eq']
    simp only [↓EVP0, EVQ0, EVQ1, EVQ2, EVQ3, EVQ4, EVA, EVK, EVFD,EVFT, ↓reduceIte, Nat.reduceEqDiff, Nat.reduceAdd, Nat.reduceSub, Nat.reduceMul, Nat.reduceLT, Nat.reduceLeDiff, reduceCtorEq, Int.reduceToNat, Int.reduceLT, Int.reduceLE, Int.reduceAdd, Int.reduceSub, Int.reduceMul, Int.reduceNeg, Int.reduceEq, Nat.reduceMod, forall_eq_or_imp, forall_eq, forall_const, cond_true, cond_false, decide_true, decide_false, true_imp_iff, implies_true, Int.cast_ofNat_Int, forall_eq']
    (first | refine lopsQ_gcall ?_ | refine lopsQ_gecl ?_); (simp only [↓EVP0, EVQ0, EVQ1, EVQ2, EVQ3, EVQ4, EVA, EVK, EVFD,EVFT, ↓reduceIte, Nat.reduceEqDiff, Nat.reduceAdd, Nat.reduceSub, Nat.reduceMul, Nat.reduceLT, Nat.reduceLeDiff, reduceCtorEq, Int.reduceToNat, Int.reduceLT, Int.reduceLE, Int.reduceAdd, Int.reduceSub, Int.reduceMul, Int.reduceNeg, Int.reduceEq, Nat.reduceMod, forall_eq_or_imp, forall_eq, forall_const, cond_true, cond_false, decide_true, decide_false, true_imp_iff, implies_true, Int.cast_ofNat_Int, forall_eq'])
    first | refine gCallK_ro _ (fun _ => h6) (fun _ => ?_) ?_ | refine geCallK_ro _ (fun _ => h6) (fun _ => ?_) ?_
    · simp only [↓EVP0, EVQ0, EVQ1, EVQ2, EVQ3, EVQ4, EVA, EVK, EVFD,EVFT, ↓reduceIte, Nat.reduceEqDiff, Nat.reduceAdd, Nat.reduceSub, Nat.reduceMul, Nat.reduceLT, Nat.reduceLeDiff, reduceCtorEq, Int.reduceToNat, Int.reduceLT, Int.reduceLE, Int.reduceAdd, Int.reduceSub, Int.reduceMul, Int.reduceNeg, Int.reduceEq, Nat.reduceMod, forall_eq_or_imp, forall_eq, forall_const, cond_true, cond_false, decide_true, decide_false, true_imp_iff, implies_true, Int.cast_ofNat_Int, forall_eq']
    simp only [↓EVP0, EVQ0, EVQ1, EVQ2, EVQ3, EVQ4, EVA, EVK, EVFD,EVFT, ↓reduceIte, Nat.reduceEqDiff, Nat.reduceAdd, Nat.reduceSub, Nat.reduceMul, Nat.reduceLT, Nat.reduceLeDiff, reduceCtorEq, Int.reduceToNat, Int.reduceLT, Int.reduceLE, Int.reduceAdd, Int.reduceSub, Int.reduceMul, Int.reduceNeg, Int.reduceEq, Nat.reduceMod, forall_eq_or_imp, forall_eq, forall_const, cond_true, cond_false, decide_true, decide_false, true_imp_iff, implies_true, Int.cast_ofNat_Int, forall_eq']
    (first | refine lopsQ_gcall ?_ | refine lopsQ_gecl ?_); (simp only [↓EVP0, EVQ0, EVQ1, EVQ2, EVQ3, EVQ4, EVA, EVK, EVFD,EVFT, ↓reduceIte, Nat.reduceEqDiff, Nat.reduceAdd, Nat.reduceSub, Nat.reduceMul, Nat.reduceLT, Nat.reduceLeDiff, reduceCtorEq, Int.reduceToNat, Int.reduceLT, Int.reduceLE, Int.reduceAdd, Int.reduceSub, Int.reduceMul, Int.reduceNeg, Int.reduceEq, Nat.reduceMod, forall_eq_or_imp, forall_eq, forall_const, cond_true, cond_false, decide_true, decide_false, true_imp_iff, implies_true, Int.cast_ofNat_Int, forall_eq'])
    first | refine gCallK_ro _ (fun _ => h7) (fun _ => ?_) ?_ | refine geCallK_ro _ (fun _ => h7) (fun _ => ?_) ?_
    · simp only [↓EVP0, EVQ0, EVQ1, EVQ2, EVQ3, EVQ4, EVA, EVK, EVFD,EVFT, ↓reduceIte, Nat.reduceEqDiff, Nat.reduceAdd, Nat.reduceSub, Nat.reduceMul, Nat.reduceLT, Nat.reduceLeDiff, reduceCtorEq, Int.reduceToNat, Int.reduceLT, Int.reduceLE, Int.reduceAdd, Int.reduceSub, Int.reduceMul, Int.reduceNeg, Int.reduceEq, Nat.reduceMod, forall_eq_or_imp, forall_eq, forall_const, cond_true, cond_false, decide_true, decide_false, true_imp_iff, implies_true, Int.cast_ofNat_Int, forall_eq']
    simp only [↓EVP0, EVQ0, EVQ1, EVQ2, EVQ3, EVQ4, EVA, EVK, EVFD,EVFT, ↓reduceIte, Nat.reduceEqDiff, Nat.reduceAdd, Nat.reduceSub, Nat.reduceMul, Nat.reduceLT, Nat.reduceLeDiff, reduceCtorEq, Int.reduceToNat, Int.reduceLT, Int.reduceLE, Int.reduceAdd, Int.reduceSub, Int.reduceMul, Int.reduceNeg, Int.reduceEq, Nat.reduceMod, forall_eq_or_imp, forall_eq, forall_const, cond_true, cond_false, decide_true, decide_false, true_imp_iff, implies_true, Int.cast_ofNat_Int, forall_eq']
    (first | refine lopsQ_gcall ?_ | refine lopsQ_gecl ?_); (simp only [↓EVP0, EVQ0, EVQ1, EVQ2, EVQ3, EVQ4, EVA, EVK, EVFD,EVFT, ↓reduceIte, Nat.reduceEqDiff, Nat.reduceAdd, Nat.reduceSub, Nat.reduceMul, Nat.reduceLT, Nat.reduceLeDiff, reduceCtorEq, Int.reduceToNat, Int.reduceLT, Int.reduceLE, Int.reduceAdd, Int.reduceSub, Int.reduceMul, Int.reduceNeg, Int.reduceEq, Nat.reduceMod, forall_eq_or_imp, forall_eq, forall_const, cond_true, cond_false, decide_true, decide_false, true_imp_iff, implies_true, Int.cast_ofNat_Int, forall_eq'])
    first | refine gCallK_ro _ (fun _ => h5) (fun _ => ?_) ?_ | refine geCallK_ro _ (fun _ => h5) (fun _ => ?_) ?_
    · simp only [↓EVP0, EVQ0, EVQ1, EVQ2, EVQ3, EVQ4, EVA, EVK, EVFD,EVFT, ↓reduceIte, Nat.reduceEqDiff, Nat.reduceAdd, Nat.reduceSub, Nat.reduceMul, Nat.reduceLT, Nat.reduceLeDiff, reduceCtorEq, Int.reduceToNat, Int.reduceLT, Int.reduceLE, Int.reduceAdd, Int.reduceSub, Int.reduceMul, Int.reduceNeg, Int.reduceEq, Nat.reduceMod, forall_eq_or_imp, forall_eq, forall_const, cond_true, cond_false, decide_true, decide_false, true_imp_iff, implies_true, Int.cast_ofNat_Int, forall_eq']
    simp only [↓EVP0, EVQ0, EVQ1, EVQ2, EVQ3, EVQ4, EVA, EVK, EVFD,EVFT, ↓reduceIte, Nat.reduceEqDiff, Nat.reduceAdd, Nat.reduceSub, Nat.reduceMul, Nat.reduceLT, Nat.reduceLeDiff, reduceCtorEq, Int.reduceToNat, Int.reduceLT, Int.reduceLE, Int.reduceAdd, Int.reduceSub, Int.reduceMul, Int.reduceNeg, Int.reduceEq, Nat.reduceMod, forall_eq_or_imp, forall_eq, forall_const, cond_true, cond_false, decide_true, decide_false, true_imp_iff, implies_true, Int.cast_ofNat_Int, forall_eq']
    (first | refine lopsQ_gcall ?_ | refine lopsQ_gecl ?_); (simp only [↓EVP0, EVQ0, EVQ1, EVQ2, EVQ3, EVQ4, EVA, EVK, EVFD,EVFT, ↓reduceIte, Nat.reduceEqDiff, Nat.reduceAdd, Nat.reduceSub, Nat.reduceMul, Nat.reduceLT, Nat.reduceLeDiff, reduceCtorEq, Int.reduceToNat, Int.reduceLT, Int.reduceLE, Int.reduceAdd, Int.reduceSub, Int.reduceMul, Int.reduceNeg, Int.reduceEq, Nat.reduceMod, forall_eq_or_imp, forall_eq, forall_const, cond_true, cond_false, decide_true, decide_false, true_imp_iff, implies_true, Int.cast_ofNat_Int, forall_eq'])
    first | refine gCallK_ro _ (fun _ => h8) (fun _ => ?_) ?_ | refine geCallK_ro _ (fun _ => h8) (fun _ => ?_) ?_
    · simp only [↓EVP0, EVQ0, EVQ1, EVQ2, EVQ3, EVQ4, EVA, EVK, EVFD,EVFT, ↓reduceIte, Nat.reduceEqDiff, Nat.reduceAdd, Nat.reduceSub, Nat.reduceMul, Nat.reduceLT, Nat.reduceLeDiff, reduceCtorEq, Int.reduceToNat, Int.reduceLT, Int.reduceLE, Int.reduceAdd, Int.reduceSub, Int.reduceMul, Int.reduceNeg, Int.reduceEq, Nat.reduceMod, forall_eq_or_imp, forall_eq, forall_const, cond_true, cond_false, decide_true, decide_false, true_imp_iff, implies_true, Int.cast_ofNat_Int, forall_eq']
    simp only [↓EVP0, EVQ0, EVQ1, EVQ2, EVQ3, EVQ4, EVA, EVK, EVFD,EVFT, ↓reduceIte, Nat.reduceEqDiff, Nat.reduceAdd, Nat.reduceSub, Nat.reduceMul, Nat.reduceLT, Nat.reduceLeDiff, reduceCtorEq, Int.reduceToNat, Int.reduceLT, Int.reduceLE, Int.reduceAdd, Int.reduceSub, Int.reduceMul, Int.reduceNeg, Int.reduceEq, Nat.reduceMod, forall_eq_or_imp, forall_eq, forall_const, cond_true, cond_false, decide_true, decide_false, true_imp_iff, implies_true, Int.cast_ofNat_Int, forall_eq']
  · have hv : vldN n = false := by simpa using hv
    rw [hv]
    refine ⟨fun _ => ?_, fun h => (by cases h)⟩
    unfold fmtN
    rw [if_neg (by rw [hv]; decide)]
    rfl
end Go.Proofs.YtdfiicpikcdokaaGreatDoor
namespace Go.Proofs.YtdfiicpikcdokaaGreatDoor
open Go.RowKit Go.ChangeShapes

theorem star19 : "*" ++ "errors.errorString" = "*errors.errorString" := by decide
theorem row19 (u : TypeId) (h : Tryz.prog.typeName? 3 u = some "*errors.errorString") : u = 163 :=
  typeName_ptr_named (nm := "errors.errorString") (by rw [star19]; kernel_rfl) (by kernel_rfl) (by decide) u (by rw [star19]; exact h)
theorem ifc_of_laid {n : String} {text : List UInt8} {r : List (String × DataW Unit)} {W : World} {g : Nat}
    (h : laidMet Tryz.prog ((n, .iface "*errors.errorString" (.ptr (.agg [.lit (.string text)]))) :: r) W) (hg : Tryz.prog.globalNamed n = some g) (ht : (Tryz.prog.globals[g]?).map (·.type) = some 55) : IfcAt W g := by
  obtain ⟨a, s, hv, _, _, _⟩ := laid_sentinel h hg ht Tryz.underlying55 row19 Tryz.underlying163 Tryz.underlying165 rfl rfl Tryz.underlying9 (by kernel_rfl) (by kernel_rfl)
  exact ⟨_, World.var?_cell hg hv 0, .inr ⟨_, _, rfl⟩⟩
theorem gx_mk {a b : String × DataW Unit} {rest : List (String × DataW Unit)} {W : World} (h : laidMet Tryz.prog (a :: b :: ("internal/strconv.uint64pow10", Rows.laid_internal_strconv_uint64pow10) :: rest) W) (hs : W.ShapedOpen Tryz.prog) (h2 : IfcAt W 4) (h3 : IfcAt W 5) : GX W :=
  ⟨Lib.tabIs_of_head (g := 0) (t := 136) (e := 86) (n := 20) (by kernel_rfl) (by kernel_rfl) (by kernel_rfl) (by kernel_rfl) (by kernel_rfl) (by kernel_rfl) (show laidMet Tryz.prog (("internal/strconv.uint64pow10", Lib.tabData .u64 Lib.pow10Tab) :: rest) W from (h.tail).tail),
    cell_of_shapedOpen_int (zero := #[.int .i64 0]) (t := 3) hs (of_decide_eq_true (by kernel_rfl)) (by kernel_rfl) rfl (by kernel_rfl) (by kernel_rfl) Tryz.underlying3, h2, h3⟩
theorem gx_of {a b c : String × DataW Unit} {rest : List (String × DataW Unit)} {W : World} (h : laidMetH Tryz.prog (a :: b :: ("internal/strconv.uint64pow10", Rows.laid_internal_strconv_uint64pow10) :: c :: ("strconv.ErrRange", Rows.laid_strconv_ErrRange) :: ("strconv.ErrSyntax", Rows.laid_strconv_ErrSyntax) :: rest) W)
    (hp : ((a :: b :: ("internal/strconv.uint64pow10", Rows.laid_internal_strconv_uint64pow10) :: c :: ("strconv.ErrRange", Rows.laid_strconv_ErrRange) :: ("strconv.ErrSyntax", Rows.laid_strconv_ErrSyntax) :: rest).all fun x => x.2.handleName?.isNone) = true) (hs : W.ShapedOpen Tryz.prog) : GX W := by
  rw [MakeChecks.laidMetH_plain _ _ _ hp] at h
  have h3 := (((h.tail).tail).tail).tail
  exact gx_mk h hs (ifc_of_laid h3.tail (by kernel_rfl) (by kernel_rfl)) (ifc_of_laid h3 (by kernel_rfl) (by kernel_rfl))
end Go.Proofs.YtdfiicpikcdokaaGreatDoor
