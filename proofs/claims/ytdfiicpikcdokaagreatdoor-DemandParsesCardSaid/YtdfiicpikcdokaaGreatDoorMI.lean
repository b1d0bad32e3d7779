/- Chapter 33: demand.Parse, walked: the whole; Chapter 33: demand.Parse: what it hands back; Chapter 33: the reference's words; Chapter 33: the reference's flow; Chapter 33: the reference's reading of a net, in plain terms; Chapter 33: the reference's Parse, walked; Chapter 33: the reference reads a net's text as Parse does; Chapter 33: a net's text is read as that net, and what was read has the string as its text; Chapter 33: what was read has the string as its text; Chapter 33: the reference's text of a net; Chapter 33: equal nets; Chapter 33: the laws of texts; What a world must hold, from what a row lists and from the shape of the variables. Conditions: none. -/
import Derived.Test.YtdfiicpikcdokaaGreatDoorMH
import Derived.Lib.LaidTab
import Derived.Stop.LaidErr
import Derived.KernelRfl
import Derived.Shelf.Vars
import Derived.FnData
namespace Go.Proofs.YtdfiicpikcdokaaGreatDoor
set_option linter.unusedSimpArgs false
set_option linter.unusedVariables false
open Go.RowKit
set_option maxRecDepth 20000

theorem end_of {P : Program} {fn : Func} {N : Nat} {l : List RX} {r : LV} {R R1 : RO} {ι0 ι1 : IM} {h : LH} {s : LS} {a : Act} {w w' : World} (hl : cRes P fn.results.toList = some l) (hR : ∀ b o, R b = some o → w.heap[b]? = some o) (hT : Trans w.heap.size R ι0 LH.empty w R1 ι1 h w') (hA : ActOk N (unD a) s R1 ι1 h) (hq : fin l r s h) :
    ∃ v, (results fn a.tmps).run P w' = .ok v w' ∧ ∃ v' R', Ending.returned v = .returned v' ∧ RoLe R R' ∧ (∀ b, b < w.heap.size → R' b = R b) ∧ (∀ b o, R' b = some o → w'.heap[b]? = some o) ∧ Below w.heap.size w w' ∧ Ro R' r v' := by
  obtain ⟨v, hv1, hv2⟩ := out_ok hT.rep hA hl hq.1
  refine ⟨v, hv1, v, fun b => if b < w.heap.size then R b else w'.heap[b]?, rfl, ?_, ?_, ?_, hT.below, ?_⟩
  · intro b o hbo
    have h1 := hR b o hbo
    have h2 := (Array.getElem?_eq_some_iff.1 h1).1
    simp only [h2, if_true]; exact hbo
  · intro b hb; simp [hb]
  · intro b o hbo
    by_cases hlt : b < w.heap.size
    · simp only [hlt, if_true] at hbo
      rw [hT.below.block b hlt]; exact hR b o hbo
    · simp only [hlt, if_false] at hbo; exact hbo
  · refine roTo3_ok hT.rep ?_ ?_ hv2 hq.2
    · intro b o hbo
      by_cases hlt : b < w.heap.size
      · simp only [hlt, if_true]; rw [← hT.rob b hlt]; exact hbo
      · simp only [hlt, if_false]; exact hT.rep.ro b o hbo
    · intro k hk h1 h3
      have := (hT.rep.base k hk h1 h3).1
      simp only [show ¬ (ι1 k).b < w.heap.size by omega, if_false]
def prR (RES : Nt × Int × Int) : LV := .tup [netV RES.1, .sc (.int .i64 RES.2.1), .sc (.int .i64 RES.2.2)]
def prX : List RX := [.cell 2 (some 2), .cell 3 none, .cell 4 none]
theorem pr_res : cRes Tryz.prog Tryz.f9.results.toList = some prX := by kernel_rfl
theorem lc_lines (s : By) (l : List (Nat × LO)) (hl : l = [(0, .box [.nsl, .nsl]), (0, .box [.sc (.int .i64 0)]), (0, .box [.sc (.int .i64 0)]), (0, .box [.nsl, .nsl]), (0, .box [.sc (.int .i64 0)])]) : LCall Tryz.prog 23 [.sc (.string (strB s))] (mkH l) (.fn 43 [.ptr 5 0 0 0 0]) (mkH (l ++ [(0, .box [.sc (.string (strB s))])])) := by
  subst hl
  refine lcall_of_lwp Tryz.func23 comp23 (show 1 ≤ Tryz.f23.ntmps by decide) (by simp [mkH]) ?_
  unfold cf23 rf23
  simp only [↓EVP0, EVQ0, EVQ1, EVQ2, EVQ3, EVQ4, EVA, EVK, EVFD,EVFT, ↓reduceIte, Nat.reduceEqDiff, Nat.reduceAdd, Nat.reduceSub, Nat.reduceMul, Nat.reduceLT, Nat.reduceLeDiff, reduceCtorEq, Int.reduceToNat, Int.reduceLT, Int.reduceLE, Int.reduceAdd, Int.reduceSub, Int.reduceMul, Int.reduceNeg, Int.reduceEq, Nat.reduceMod, forall_eq_or_imp, forall_eq, forall_const, EVY, true_imp_iff, implies_true, Int.cast_ofNat_Int, forall_eq']
  unfold fin2
  simp only [↓EVP0, EVQ0, EVQ1, EVQ2, EVQ3, EVQ4, EVA, EVK, EVFD,EVFT, ↓reduceIte, Nat.reduceEqDiff, Nat.reduceAdd, Nat.reduceSub, Nat.reduceMul, Nat.reduceLT, Nat.reduceLeDiff, reduceCtorEq, Int.reduceToNat, Int.reduceLT, Int.reduceLE, Int.reduceAdd, Int.reduceSub, Int.reduceMul, Int.reduceNeg, Int.reduceEq, Nat.reduceMod, forall_eq_or_imp, forall_eq, forall_const, EVY, true_imp_iff, implies_true, Int.cast_ofNat_Int, forall_eq']
theorem pr_pre (s : By) (RES : Nt × Int × Int) (hs : s.length ≤ 100000) (hR : 65536 < s.length → RES = (emN, 0, 5)) : lwp Tryz.prog 0 lcP0 (fun s1 h1 => lwp Tryz.prog 0 lcP1 (fun s1 h1 => lwp Tryz.prog 0 lcP2 (fun s1 h1 => lwp Tryz.prog 0 lcP3 (fun s1 h1 => lwp Tryz.prog 0 lcP4
    (fun s1 h1 => s.length ≤ 65536 ∧ (s1 2 = .ptr 0 0 0 0 0 ∧ s1 3 = .ptr 1 0 0 0 0 ∧ s1 4 = .ptr 2 0 0 0 0 ∧ s1 5 = .ptr 3 0 0 0 0 ∧ s1 6 = .ptr 4 0 0 0 0 ∧ s1 15 = .fn 43 [.ptr 5 0 0 0 0]) ∧
      h1 = mkH [(0, .box [.nsl, .nsl]), (0, .box [.sc (.int .i64 0)]), (0, .box [.sc (.int .i64 0)]), (0, .box [.nsl, .nsl]), (0, .box [.sc (.int .i64 0)]), (0, .box [.sc (.string (strB s))])])
    (fun _ _ _ => False) (fun _ _ => False) s1 h1) (fun _ _ _ => False) (fun _ _ => False) s1 h1) (fun _ _ _ => False) (fun _ _ => False) s1 h1) (fun _ _ _ => False) (fin prX (prR RES)) s1 h1) (fun _ _ _ => False) (fun _ _ => False) (argS [.sc (.string (strB s))] 0) LH.empty := by
  have h1 := lc_lines s _ rfl
  unfold lcP0 lcP1 lcP2 lcP3 lcP4
  simp only [↓EVP0, EVQ0, EVQ1, EVQ2, EVQ3, EVQ4, EVA, EVK, EVFD,EVFT, ↓reduceIte, Nat.reduceEqDiff, Nat.reduceAdd, Nat.reduceSub, Nat.reduceMul, Nat.reduceLT, Nat.reduceLeDiff, reduceCtorEq, Int.reduceToNat, Int.reduceLT, Int.reduceLE, Int.reduceAdd, Int.reduceSub, Int.reduceMul, Int.reduceNeg, Int.reduceEq, Nat.reduceMod, forall_eq_or_imp, forall_eq, forall_const, EVY, true_imp_iff, implies_true, Int.cast_ofNat_Int, forall_eq']
  rw [strB_size]
  refine ⟨fun h => ?_, fun h => ?_⟩
  · have := of_decide_eq_true h
    rw [hR (by omega)]
    unfold prX prR netV emN
    simp only [↓EVP0, EVQ0, EVQ1, EVQ2, EVQ3, EVQ4, EVA, EVK, EVFD,EVFT, ↓reduceIte, Nat.reduceEqDiff, Nat.reduceAdd, Nat.reduceSub, Nat.reduceMul, Nat.reduceLT, Nat.reduceLeDiff, reduceCtorEq, Int.reduceToNat, Int.reduceLT, Int.reduceLE, Int.reduceAdd, Int.reduceSub, Int.reduceMul, Int.reduceNeg, Int.reduceEq, Nat.reduceMod, forall_eq_or_imp, forall_eq, forall_const, EVY, true_imp_iff, implies_true, Int.cast_ofNat_Int, forall_eq']
  · have := of_decide_eq_false h
    refine callK_mut h1 ?_
    simp only [List.cons_append, List.nil_append]
    simp only [↓EVP0, EVQ0, EVQ1, EVQ2, EVQ3, EVQ4, EVA, EVK, EVFD,EVFT, ↓reduceIte, Nat.reduceEqDiff, Nat.reduceAdd, Nat.reduceSub, Nat.reduceMul, Nat.reduceLT, Nat.reduceLeDiff, reduceCtorEq, Int.reduceToNat, Int.reduceLT, Int.reduceLE, Int.reduceAdd, Int.reduceSub, Int.reduceMul, Int.reduceNeg, Int.reduceEq, Nat.reduceMod, forall_eq_or_imp, forall_eq, forall_const, EVY, true_imp_iff, implies_true, Int.cast_ofNat_Int, forall_eq']
    omega
theorem pr_post (n : Nt) (i : Int) (hn : NtOk n) : lwp Tryz.prog (mkH (nhO n i [])).n lcP7 (fin prX (prR (if vldN n = true then (n, 0, 0) else (emN, 0, 1)))) (fun _ _ _ => False) (fin prX (prR (if vldN n = true then (n, 0, 0) else (emN, 0, 1)))) sO (mkH (nhO n i [])) := by
  have h1 := ev_validN n hn
  unfold lcP7 sO nhO ntB caO flO
  unfold netV at h1
  simp only [↓EVP0, EVQ0, EVQ1, EVQ2, EVQ3, EVQ4, EVA, EVK, EVFD,EVFT, ↓reduceIte, Nat.reduceEqDiff, Nat.reduceAdd, Nat.reduceSub, Nat.reduceMul, Nat.reduceLT, Nat.reduceLeDiff, reduceCtorEq, Int.reduceToNat, Int.reduceLT, Int.reduceLE, Int.reduceAdd, Int.reduceSub, Int.reduceMul, Int.reduceNeg, Int.reduceEq, Nat.reduceMod, forall_eq_or_imp, forall_eq, forall_const, EVY, true_imp_iff, implies_true, Int.cast_ofNat_Int, forall_eq']
  refine callK_frz h1 ?_ trivial ?_
  · simp only [↓EVP0, EVQ0, EVQ1, EVQ2, EVQ3, EVQ4, EVA, EVK, EVFD,EVFT, ↓reduceIte, Nat.reduceEqDiff, Nat.reduceAdd, Nat.reduceSub, Nat.reduceMul, Nat.reduceLT, Nat.reduceLeDiff, reduceCtorEq, Int.reduceToNat, Int.reduceLT, Int.reduceLE, Int.reduceAdd, Int.reduceSub, Int.reduceMul, Int.reduceNeg, Int.reduceEq, Nat.reduceMod, forall_eq_or_imp, forall_eq, forall_const, EVY, true_imp_iff, implies_true, Int.cast_ofNat_Int, forall_eq']
    exact ⟨⟨⟨Nat.le_refl _, fun k hk => by rw [apF_rt hk]; rfl⟩, fun k hk => apF_rt hk⟩, ⟨Nat.le_refl _, fun k hk => by rw [apF_fl hk]; rfl⟩, fun k hk => apF_fl hk⟩
  simp only [↓EVP0, EVQ0, EVQ1, EVQ2, EVQ3, EVQ4, EVA, EVK, EVFD,EVFT, ↓reduceIte, Nat.reduceEqDiff, Nat.reduceAdd, Nat.reduceSub, Nat.reduceMul, Nat.reduceLT, Nat.reduceLeDiff, reduceCtorEq, Int.reduceToNat, Int.reduceLT, Int.reduceLE, Int.reduceAdd, Int.reduceSub, Int.reduceMul, Int.reduceNeg, Int.reduceEq, Nat.reduceMod, forall_eq_or_imp, forall_eq, forall_const, EVY, true_imp_iff, implies_true, Int.cast_ofNat_Int, forall_eq']
  cases hv : vldN n with
  | false =>
    rw [if_neg (by decide)]
    unfold prX prR netV emN
    refine ⟨fun _ => ?_, fun h => by cases h⟩
    simp only [↓EVP0, EVQ0, EVQ1, EVQ2, EVQ3, EVQ4, EVA, EVK, EVFD,EVFT, ↓reduceIte, Nat.reduceEqDiff, Nat.reduceAdd, Nat.reduceSub, Nat.reduceMul, Nat.reduceLT, Nat.reduceLeDiff, reduceCtorEq, Int.reduceToNat, Int.reduceLT, Int.reduceLE, Int.reduceAdd, Int.reduceSub, Int.reduceMul, Int.reduceNeg, Int.reduceEq, Nat.reduceMod, forall_eq_or_imp, forall_eq, forall_const, EVY, true_imp_iff, implies_true, Int.cast_ofNat_Int, forall_eq']
  | true =>
    rw [if_pos rfl]
    unfold prX prR netV
    refine ⟨fun h => (by cases h), fun _ => ?_⟩
    simp only [↓EVP0, EVQ0, EVQ1, EVQ2, EVQ3, EVQ4, EVA, EVK, EVFD,EVFT, ↓reduceIte, Nat.reduceEqDiff, Nat.reduceAdd, Nat.reduceSub, Nat.reduceMul, Nat.reduceLT, Nat.reduceLeDiff, reduceCtorEq, Int.reduceToNat, Int.reduceLT, Int.reduceLE, Int.reduceAdd, Int.reduceSub, Int.reduceMul, Int.reduceNeg, Int.reduceEq, Nat.reduceMod, forall_eq_or_imp, forall_eq, forall_const, EVY, true_imp_iff, implies_true, Int.cast_ofNat_Int, forall_eq']
    exact ⟨⟨⟨Nat.le_refl _, fun k hk => by rw [apF_rt hk]; rfl⟩, fun k hk => apF_rt hk⟩, ⟨Nat.le_refl _, fun k hk => by rw [apF_fl hk]; rfl⟩, fun k hk => apF_fl hk⟩
theorem pr_stop {RES : Nt × Int × Int} {h : LH} (h0 : TE RES h) : fin prX (prR RES) sO h := by
  obtain ⟨i, tl, rfl, rfl⟩ := h0
  unfold fin prX prR netV emN sO
  simp only [↓EVP0, EVQ0, EVQ1, EVQ2, EVQ3, EVQ4, EVA, EVK, EVFD,EVFT, ↓reduceIte, Nat.reduceEqDiff, Nat.reduceAdd, Nat.reduceSub, Nat.reduceMul, Nat.reduceLT, Nat.reduceLeDiff, reduceCtorEq, Int.reduceToNat, Int.reduceLT, Int.reduceLE, Int.reduceAdd, Int.reduceSub, Int.reduceMul, Int.reduceNeg, Int.reduceEq, Nat.reduceMod, forall_eq_or_imp, forall_eq, forall_const, EVY, true_imp_iff, implies_true, Int.cast_ofNat_Int, forall_eq']
  exact ⟨by omega, by omega, by omega⟩
theorem sO_of {s1 : LS} (h : s1 2 = .ptr 0 0 0 0 0 ∧ s1 3 = .ptr 1 0 0 0 0 ∧ s1 4 = .ptr 2 0 0 0 0 ∧ s1 5 = .ptr 3 0 0 0 0 ∧ s1 6 = .ptr 4 0 0 0 0 ∧ s1 15 = .fn 43 [.ptr 5 0 0 0 0]) (t : Nat) : sO t = s1 t ∨ sO t = .any := by
  obtain ⟨h2, h3, h4, h5, h6, h15⟩ := h
  show (if t = 2 then LV.ptr 0 0 0 0 0 else if t = 3 then .ptr 1 0 0 0 0 else if t = 4 then .ptr 2 0 0 0 0 else if t = 5 then .ptr 3 0 0 0 0 else if t = 6 then .ptr 4 0 0 0 0 else if t = 15 then .fn 43 [.ptr 5 0 0 0 0] else .any) = s1 t ∨ (if t = 2 then LV.ptr 0 0 0 0 0 else if t = 3 then .ptr 1 0 0 0 0 else if t = 4 then .ptr 2 0 0 0 0 else if t = 5 then .ptr 3 0 0 0 0 else if t = 6 then .ptr 4 0 0 0 0 else if t = 15 then .fn 43 [.ptr 5 0 0 0 0] else .any) = .any
  by_cases c2 : t = 2
  · rw [if_pos c2, c2, h2]; exact .inl rfl
  rw [if_neg c2]
  by_cases c3 : t = 3
  · rw [if_pos c3, c3, h3]; exact .inl rfl
  rw [if_neg c3]
  by_cases c4 : t = 4
  · rw [if_pos c4, c4, h4]; exact .inl rfl
  rw [if_neg c4]
  by_cases c5 : t = 5
  · rw [if_pos c5, c5, h5]; exact .inl rfl
  rw [if_neg c5]
  by_cases c6 : t = 6
  · rw [if_pos c6, c6, h6]; exact .inl rfl
  rw [if_neg c6]
  by_cases c7 : t = 15
  · rw [if_pos c7, c7, h15]; exact .inl rfl
  rw [if_neg c7]; exact .inr rfl
theorem ph_start {s : By} {B : Nat} {R0 : RO} {ι0 : IM} {h0 : LH} {w0 w : World} {s1 : LS} {a : Act} {N : Nat} (hg : Good N B R0 ι0 h0 w0 s1 (mkH [(0, .box [.nsl, .nsl]), (0, .box [.sc (.int .i64 0)]), (0, .box [.sc (.int .i64 0)]), (0, .box [.nsl, .nsl]), (0, .box [.sc (.int .i64 0)]), (0, .box [.sc (.string (strB s))])]) a w)
    (hs : ∀ t, sO t = s1 t ∨ sO t = .any) : Good N B R0 ι0 h0 w0 sO (mkH (nhO emN 0 s)) a w := by
  obtain ⟨R, ι, hT, hA⟩ := hg
  have hB : B ≤ w.heap.size := Nat.le_trans hT.size hT.below.size
  obtain ⟨ι1, hT1⟩ := ph_trans (j := 3) (c := 0) (sz := 2) (ob := .row 2 0 (elO .dead)) ⟨rfl, by simp [mkH], rfl⟩ hB hT.rep
  rw [phH_mk (v := 0) (by simp) rfl] at hT1
  obtain ⟨ι2, hT2⟩ := ph_trans (j := 3) (c := 1) (sz := 4) (ob := .row 4 0 (elO .dead)) ⟨rfl, by simp [mkH], rfl⟩ hB hT1.rep
  rw [phH_mk (v := 0) (by simp) rfl] at hT2
  have hT3 := hT1.trans hT2
  refine ⟨R, ι2, hT.trans hT3, ⟨hA.defers, hA.size, fun t => ?_⟩⟩
  rcases hs t with e | e
  · rw [e]; exact (hA.slots t).mono hT3.mono
  · rw [e]; exact .any _
end Go.Proofs.YtdfiicpikcdokaaGreatDoor
namespace Go.Proofs.YtdfiicpikcdokaaGreatDoor
set_option linter.unusedSimpArgs false
set_option linter.unusedVariables false
open Go.RowKit
set_option maxRecDepth 20000

theorem ev_parse33 (s : By) (hs : s.length ≤ 100000) : Ev Tryz.prog 9 [.sc (.string (strB s))] (prR (parse33 s)) := by
  intro R w vs hR hgl hvs ha
  refine (callsIn_wide (n := 4)).1 ?_
  refine callsIn_of_wp_marks Tryz.func9 pr_body trivial ?_
  have hrep : Rep R (fun _ => default) LH.empty w.heap.size w :=
    ⟨hR, fun k hk => absurd hk (Nat.not_lt_zero _), fun k hk => absurd hk (Nat.not_lt_zero _), fun k hk => absurd hk (Nat.not_lt_zero _), fun k _ hk => absurd hk (Nat.not_lt_zero _), fun k _ hk => absurd hk (Nat.not_lt_zero _), fun k hk => absurd hk (Nat.not_lt_zero _), hgl⟩
  have hgood : Good 39 w.heap.size R (fun _ => default) LH.empty w (argS [.sc (.string (strB s))] 0) LH.empty { tmps := vs ++ Array.replicate (39 - vs.size) undef, defers := [] } w :=
    ⟨R, fun _ => default, Trans.refl hrep (Nat.le_refl _), args_act hvs (by simp) (fun i a hi => .ro (ha i a hi))⟩
  have hD : GoodD 39 w.heap.size R (fun _ => default) LH.empty w [] (argS [.sc (.string (strB s))] 0) LH.empty { tmps := vs ++ Array.replicate (39 - vs.size) undef, defers := [] } w := ⟨rfl, hgood⟩
  -- the ends
  have fin0 : ∀ s1 h1 a1 w1, GoodD 39 w.heap.size R (fun _ => default) LH.empty w [] s1 h1 a1 w1 → fin prX (prR (parse33 s)) s1 h1 → bodyPostM Fence.wide 4 Tryz.prog Tryz.f9 (fun e w' => ∃ v R', e = .returned v ∧ RoLe R R' ∧ (∀ b, b < w.heap.size → R' b = R b) ∧ (∀ b o, R' b = some o → w'.heap[b]? = some o) ∧ Below w.heap.size w w' ∧ Ro R' (prR (parse33 s)) v) .ret a1 w1 := by
    rintro s1 h1 a1 w1 ⟨hd, R1, ι1, hT, hA⟩ hq
    show LeavesInM _ _ _ _ _ _ a1.defers _ _
    rw [hd]
    exact end_of pr_res hR hT hA hq
  have fin1 : ∀ D rec s1 h1 a1 w1, GoodL 39 w.heap.size D rec R (fun _ => default) LH.empty w [{ target := .collected D, args := #[] }] s1 h1 a1 w1 → fin prX (prR (parse33 s)) s1 h1 → bodyPostM Fence.wide 4 Tryz.prog Tryz.f9 (fun e w' => ∃ v R', e = .returned v ∧ RoLe R R' ∧ (∀ b, b < w.heap.size → R' b = R b) ∧ (∀ b o, R' b = some o → w'.heap[b]? = some o) ∧ Below w.heap.size w w' ∧ Ro R' (prR (parse33 s)) v) .ret a1 w1 := by
    rintro D rec s1 h1 a1 w1 ⟨hd, R1, ι1, hT, hA, hb⟩ hq
    show LeavesInM _ _ _ _ _ _ a1.defers _ _
    rw [hd]
    refine ⟨by simp, .inl ⟨D, _, rfl, run_takeDeferred hb.d, ?_⟩⟩
    exact end_of pr_res hR (hT.putI _ hb.B hb.d rfl hb.nd) hA hq
  have hpre := pr_pre s (parse33 s) hs (fun h => by unfold parse33; rw [if_pos h])
  show (Code.seq _ _).wpIn (FW none) _ _ _ _ _
  refine wpIn_seq (lwpIn_ok (ro := none) _ _ pr_c0 pr_n0 ?_ (fun _ _ _ _ _ _ h => h.elim) (fun _ _ _ _ _ h => h.elim) _ _ _ _ hD hpre)
  intro s1 h1 a1 w1 hD1 hl1
  show (Code.seq _ _).wpIn (FW none) _ _ _ _ _
  refine wpIn_seq (lwpIn_ok (ro := none) _ _ pr_c1 pr_n1 ?_ (fun _ _ _ _ _ _ h => h.elim) ?_ _ _ _ _ hD1 hl1)
  rotate_left
  · intro s2 h2 a2 w2 hD2 hq
    exact fin0 s2 h2 a2 w2 hD2 hq
  intro s2 h2 a2 w2 hD2 hl2
  show (Code.seq _ _).wpIn (FW none) _ _ _ _ _
  refine wpIn_seq (lwpIn_ok (ro := none) _ _ pr_c2 pr_n2 ?_ (fun _ _ _ _ _ _ h => h.elim) (fun _ _ _ _ _ h => h.elim) _ _ _ _ hD2 hl2)
  intro s3 h3 a3 w3 hD3 hl3
  show (Code.seq _ _).wpIn (FW none) _ _ _ _ _
  refine wpIn_seq (lwpIn_ok (ro := none) _ _ pr_c3 pr_n3 ?_ (fun _ _ _ _ _ _ h => h.elim) (fun _ _ _ _ _ h => h.elim) _ _ _ _ hD3 hl3)
  intro s4 h4 a4 w4 hD4 hl4
  show (Code.seq _ _).wpIn (FW none) _ _ _ _ _
  refine wpIn_seq ?_
  refine wpIn_seq (lwpIn_ok (ro := none) _ _ pr_c4 pr_n4 ?_ (fun _ _ _ _ _ _ h => h.elim) (fun _ _ _ _ _ h => h.elim) _ _ _ _ hD4 hl4)
  rintro s5 h5 a5 w5 hD5 ⟨hlen, hsl, rfl⟩
  show (Code.block 0 _).wpIn (FW none) _ _ _ _ _
  have hg5 := ph_start hD5.2 (sO_of hsl)
  have hparse : parse33 s = prs33 s emN 0 := by unfold parse33; rw [if_neg (by omega)]
  have ha5 : unD a5 = a5 := by have := hD5.1; cases a5; simp only at this; subst this; rfl
  rw [ha5] at hg5
  refine wpIn_block (range_ok (p := 16) (gf := 43) (caps := [.ptr 5 0 0 0 0]) (K := fun h' => ∃ n2 i2, h' = mkH (nhO n2 i2 []) ∧ JI (parse33 s) s.length [] n2 i2) (T := TE (parse33 s)) hg5 rfl (enters_of Tryz.func43 (by kernel_rfl) rfl) ?_ ?_ ?_)
  · intro R1 ι1 w1 D rec vs1 hrep1 hB1 hb1 hA1 hst hpe hps hra hrb hvs1 hcap
    refine lines_iter hrep1 hB1 hb1 hst hpe (JI (parse33 s) s.length) (TE (parse33 s)) ⟨hparse.symm, emN_ok, by simp [emN], by omega, by simp⟩ (fun s' n' i' hJ => by have := hJ.l; omega) hvs1 (hcap 0 _ rfl) ?_
    intro s' n' i' hJ hne R' ι' w' v hT hb hv
    subst hv
    exact parse_round hlen hJ hne hst hps hA1 hT.mono hT.rep (Nat.le_trans hT.size hT.below.size) hb hra hrb
  · rintro D rec' h' a' w' hg ⟨n2, i2, rfl, hJ⟩
    show (sq2 (sq2 (sq2 (sq2 (sq2 prC))))).wpIn (FW none) _ _ _ _ _
    have hr := hJ.r
    rw [prs33, dif_pos rfl] at hr
    have hpost := pr_post n2 i2 hJ.ok
    rw [hr] at hpost
    refine lwpL_ok (ro := none) pr_c7 pr_n7 (fun s6 h6 a6 w6 hg6 hq => ?_) (fun _ _ _ _ _ _ h => h.elim) (fun s6 h6 a6 w6 hg6 hq => ?_) hg hpost
    · exact fin1 D rec' s6 h6 a6 w6 hg6 hq
    · exact fin1 D rec' s6 h6 a6 w6 hg6 hq
  · intro D rec' h' a' w' hg hT
    exact fin1 D rec' _ _ _ _ hg (pr_stop hT)
end Go.Proofs.YtdfiicpikcdokaaGreatDoor
namespace Go.Proofs.YtdfiicpikcdokaaGreatDoor
set_option linter.unusedSimpArgs false
set_option linter.unusedVariables false
open Go.RowKit
set_option maxRecDepth 20000

theorem FrzTo.trans {s s1 s2 : LS} {h h1 h2 : LH} (a : FrzTo s h s1 h1) (b : FrzTo s1 h1 s2 h2) : FrzTo s h s2 h2 := by
  intro B R ι w hB hr
  obtain ⟨R1, ι1, hT1, hv1⟩ := a B R ι w hB hr
  obtain ⟨R2, ι2, hT2, hv2⟩ := b B R1 ι1 w hB hT1.rep
  exact ⟨R2, ι2, hT1.trans hT2, fun t x hx => hv2 t x (hv1 t x hx)⟩
theorem FrzTo.weak {s s1 s2 : LS} {h h1 : LH} (a : FrzTo s h s1 h1) (b : ∀ t, s2 t = s1 t ∨ s2 t = .any) : FrzTo s h s2 h1 := by
  intro B R ι w hB hr
  obtain ⟨R1, ι1, hT1, hv1⟩ := a B R ι w hB hr
  refine ⟨R1, ι1, hT1, fun t x hx => ?_⟩
  rcases b t with e | e
  · rw [e]; exact hv1 t x hx
  · rw [e]; exact .any _
theorem ph_toS {s : LS} {h : LH} {t sz : Nat} {ob : LO} (ho : phO ob) (hs : s t = .nsl) : FrzTo s h (upd s t (.sl h.n 0 sz 0 0)) (h.push ob) := by
  intro B R ι w hB hr
  have hT := hr.phantom hB ho
  refine ⟨R, _, hT, fun u x hx => ?_⟩
  show Rv _ _ _ (if u = t then .sl h.n 0 sz 0 0 else s u) x
  by_cases e : u = t
  · rw [if_pos e]
    rw [e, hs] at hx
    obtain rfl := hx.nsl_inv
    exact .sl h.n 0 sz 0 0 none 0 (show h.n < h.n + 1 by omega) (Nat.zero_le _) (Nat.le_refl _) (by unfold maxLen; omega) (.inl rfl)
  · rw [if_neg e]; exact hx.mono hT.mono
theorem lwp_toJ2 {P : Program} {s : LS} {h : LH} {nb : Nat} {a b : LC} {K : LS → LH → Prop} {E : Nat → LS → LH → Prop} {T : LS → LH → Prop} {α : Type} (I : α → Prop) (sv : α → LS) (ho : α → List (Nat × LO))
    (h1 : lwp P nb a (fun s h => ∃ x, I x ∧ FrzTo s h (sv x) (mkH (ho x))) E T s h) (h3 : ∀ x, I x → lwp P nb b K E T (sv x) (mkH (ho x))) : @lwpJ P nb a b ⟨K, E, T⟩ s h :=
  lwp_mono_k (c := a) h1 fun s h ⟨x, hx, h2⟩ => ⟨_, _, .inr (.inr (.inl h2)), h3 x hx⟩
def wdO (l : List By) : Nat × LO := (l.length, .row 1 l.length (apF 1 (txsF (l.map strB)) l.length))
def splW (w r : By) : List By := match splE 32 r with
  | [] => [w]
  | v :: vs => (w ++ v) :: vs
theorem splW_nil (r : By) : splW [] r = splE 32 r := by
  unfold splW
  have := splE_ne 32 r
  cases h : splE 32 r with
  | nil => exact absurd h this
  | cons v vs => rfl
theorem splW_end (w : By) : splW w [] = [w] := by
  show [w ++ []] = [w]
  rw [List.append_nil]
theorem splW_sp (w r : By) : splW w (32 :: r) = w :: splW [] r := by
  rw [splW_nil]
  show (w ++ []) :: splE 32 r = _
  rw [List.append_nil]
theorem splW_ch {c : UInt8} (h : c ≠ 32) (w r : By) : splW w (c :: r) = splW (w ++ [c]) r := by
  have e : splE 32 (c :: r) = match splE 32 r with
    | [] => [[c]]
    | v :: vs => (c :: v) :: vs := by
    show (if c = 32 then _ else _) = _
    rw [if_neg h]
    cases splE 32 r <;> rfl
  unfold splW
  rw [e]
  cases splE 32 r with
  | nil => rfl
  | cons v vs => simp
theorem txs_old {l : List By} {c : By} {j : Nat} (h : j < l.length) : txsF ((l ++ [c]).map strB) j = txsF (l.map strB) j := by
  unfold txsF
  rw [map_getV, map_getV, List.getD_eq_getElem?_getD, List.getElem?_append_left h, List.getD_eq_getElem?_getD]
theorem txs_new (l : List By) (c : By) : txsF ((l ++ [c]).map strB) l.length = [.sc (.string (strB c))] := by
  unfold txsF
  rw [map_getV, List.getD_eq_getElem?_getD, List.getElem?_concat_length]; rfl
theorem app_wds (l : List By) (c : By) : (fun i => if i < l.length then apF 1 (txsF (l.map strB)) l.length i else List.take 1 (List.drop ((i - l.length) * 1) [.sc (.string (strB c))])) = apF 1 (txsF ((l ++ [c]).map strB)) (l.length + 1) := by
  show _ = fun i => if i < l.length then apF 1 (txsF ((l ++ [c]).map strB)) l.length i else List.take 1 (List.drop ((i - l.length) * 1) (txsF ((l ++ [c]).map strB) l.length))
  rw [txs_new, apF_congr (m := l.length) (g := txsF ((l ++ [c]).map strB)) (g' := txsF (l.map strB)) fun j hj => txs_old hj]
theorem apF_tx {l : List By} {m i : Nat} (h : i < m) : apF 1 (txsF (l.map strB)) m i = txsF (l.map strB) i := apF_get (z := 1) (g := txsF (l.map strB)) (fun _ => rfl) h
theorem ap_allT {n : Nat} {l : List By} {m : Nat} : ∀ i, i < m → allC n (List.take 1 (apF 1 (txsF (l.map strB)) m i)) := by
  intro i hi
  rw [apF_tx hi]
  exact ⟨trivial, trivial⟩
structure WI (s : By) (x : Nat × List By × By) : Prop where
  r : splE 32 s = x.2.1 ++ splW x.2.2 (s.drop x.1)
  j : x.1 ≤ s.length
  a : x.2.1.length ≤ x.1
  w : x.2.2.length ≤ x.1
theorem ev_words (s : By) (hs : s.length ≤ 100000) : Ev Tryz.prog 30 [.sc (.string (strB s))] (wsV (splE 32 s)) := by
  unfold wsV
  refine ev_fn Tryz.func30 comp30 (show 1 ≤ Tryz.f30.ntmps by decide) ?_; unfold cf30 rf30; simp only [↓EVP0, EVQ0, EVQ1, EVQ2, EVQ3, EVQ4, EVA, EVK, EVFD,EVFT, ↓reduceIte, Nat.reduceEqDiff, Nat.reduceAdd, Nat.reduceSub, Nat.reduceMul, Nat.reduceLT, Nat.reduceLeDiff, reduceCtorEq, Int.reduceToNat, Int.reduceLT, Int.reduceLE, Int.reduceAdd, Int.reduceSub, Int.reduceMul, Int.reduceNeg, Int.reduceEq, Nat.reduceMod, forall_eq_or_imp, forall_eq, forall_const, EVY, true_imp_iff, implies_true, Int.cast_ofNat_Int, forall_eq']
  refine lwp_toJ2 (α := Unit) (fun _ => True) (fun _ => mkS [(0, .sc (.string (strB s))), (3, .sl 0 0 1 0 0), (4, .sc (.string (strB [])))]) (fun _ => [wdO []]) ?_ ?_
  · simp only [↓EVP0, EVQ0, EVQ1, EVQ2, EVQ3, EVQ4, EVA, EVK, EVFD,EVFT, ↓reduceIte, Nat.reduceEqDiff, Nat.reduceAdd, Nat.reduceSub, Nat.reduceMul, Nat.reduceLT, Nat.reduceLeDiff, reduceCtorEq, Int.reduceToNat, Int.reduceLT, Int.reduceLE, Int.reduceAdd, Int.reduceSub, Int.reduceMul, Int.reduceNeg, Int.reduceEq, Nat.reduceMod, forall_eq_or_imp, forall_eq, forall_const, EVY, true_imp_iff, implies_true, Int.cast_ofNat_Int, forall_eq']
    refine ⟨(), ?_⟩
    have h9 := fun st (h : st 3 = LV.nsl) => ph_toS (s := st) (h := mkH []) (t := 3) (sz := 1) (ob := .row 1 0 (elO .dead)) rfl h
    rw [mkH_push] at h9
    refine (h9 _ rfl).weak fun t => ?_
    show (if t = 0 then _ else if t = 3 then _ else if t = 4 then _ else LV.any) = (if t = 3 then _ else if t = 4 then _ else if t = 3 then _ else if t = 2 then _ else if t = 0 then _ else _) ∨ _
    by_cases c0 : t = 0
    · subst c0; exact .inl rfl
    by_cases c3 : t = 3
    · subst c3; exact .inl rfl
    by_cases c4 : t = 4
    · subst c4; exact .inl rfl
    right
    show (if t = 0 then _ else if t = 3 then _ else if t = 4 then _ else LV.any) = LV.any
    rw [if_neg c0, if_neg c3, if_neg c4]
  · intro _ _
    unfold wdO
    simp only [↓EVP0, EVQ0, EVQ1, EVQ2, EVQ3, EVQ4, EVA, EVK, EVFD,EVFT, ↓reduceIte, Nat.reduceEqDiff, Nat.reduceAdd, Nat.reduceSub, Nat.reduceMul, Nat.reduceLT, Nat.reduceLeDiff, reduceCtorEq, Int.reduceToNat, Int.reduceLT, Int.reduceLE, Int.reduceAdd, Int.reduceSub, Int.reduceMul, Int.reduceNeg, Int.reduceEq, Nat.reduceMod, forall_eq_or_imp, forall_eq, forall_const, EVY, true_imp_iff, implies_true, Int.cast_ofNat_Int, forall_eq']
    refine lwp_loop (α := Nat × List By × By) (WI s) (fun x => [(0, .sc (.string (strB s))), (3, .sl 0 x.2.1.length 1 0 x.2.1.length), (4, .sc (.string (strB x.2.2))), (5, .sc (.int .i64 (x.1 : Nat)))]) (fun x => [wdO x.2.1]) (fun x => s.length - x.1) (0, [], []) ⟨by rw [splW_nil]; rfl, Nat.zero_le _, Nat.le_refl _, Nat.le_refl _⟩ ?_ (fun _ => Nat.zero_le _) ?_
    · unfold wdO
      simp only [↓EVP0, EVQ0, EVQ1, EVQ2, EVQ3, EVQ4, EVA, EVK, EVFD,EVFT, ↓reduceIte, Nat.reduceEqDiff, Nat.reduceAdd, Nat.reduceSub, Nat.reduceMul, Nat.reduceLT, Nat.reduceLeDiff, reduceCtorEq, Int.reduceToNat, Int.reduceLT, Int.reduceLE, Int.reduceAdd, Int.reduceSub, Int.reduceMul, Int.reduceNeg, Int.reduceEq, Nat.reduceMod, forall_eq_or_imp, forall_eq, forall_const, EVY, true_imp_iff, implies_true, Int.cast_ofNat_Int, forall_eq']
      exact fun i hi => absurd hi (Nat.not_lt_zero _)
    rintro ⟨j, acc, w⟩ ⟨hr, hj, ha, hw⟩
    simp only at hr hj ha hw ⊢
    unfold lb30_0 wdO
    simp only [↓EVP0, EVQ0, EVQ1, EVQ2, EVQ3, EVQ4, EVA, EVK, EVFD,EVFT, ↓reduceIte, Nat.reduceEqDiff, Nat.reduceAdd, Nat.reduceSub, Nat.reduceMul, Nat.reduceLT, Nat.reduceLeDiff, reduceCtorEq, Int.reduceToNat, Int.reduceLT, Int.reduceLE, Int.reduceAdd, Int.reduceSub, Int.reduceMul, Int.reduceNeg, Int.reduceEq, Nat.reduceMod, forall_eq_or_imp, forall_eq, forall_const, EVY, true_imp_iff, implies_true, Int.cast_ofNat_Int, forall_eq']
    rw [strB_size, sb_str]
    refine ⟨fun hg => ⟨⟨by omega, ?_⟩, fun hg2 => ?_, fun hg2 => ?_⟩, fun hg => ?_⟩
    · have := of_decide_eq_true hg; omega
    · have hjl : j < s.length := by have := of_decide_eq_true hg; omega
      have hc : s.getD j 0 = 32 := UInt8.toNat_inj.1 (by have := of_decide_eq_true hg2; rw [show (32 : UInt8).toNat = 32 from rfl]; omega)
      rw [List.drop_eq_getElem_cons hjl] at hr
      have hc2 : s[j] = 32 := by rw [List.getD_eq_getElem?_getD, List.getElem?_eq_getElem hjl] at hc; exact hc
      rw [hc2, splW_sp] at hr
      refine ⟨_, fun _ _ => rfl, ⟨Nat.le_refl _, fun k hk => by rw [apF_tx hk]; rfl⟩, by unfold appRoom; omega, by unfold In64; omega, (j + 1, acc ++ [w], []), ⟨by simpa using hr, by simp only; omega, by simp; omega, by simp⟩, ⟨⟨by simp, rfl, by simp⟩, ⟨by simp, ?_⟩, ap_allT⟩, by simp only; omega⟩
      simp only [List.length_append, List.length_singleton]
      exact congrArg (LO.row 1 (acc.length + 1)) (app_wds acc w)
    · have hjl : j < s.length := by have := of_decide_eq_true hg; omega
      have hc : s.getD j 0 ≠ 32 := fun e => by rw [e] at hg2; exact absurd hg2 (by decide)
      rw [List.drop_eq_getElem_cons hjl] at hr
      have hc2 : s.getD j 0 = s[j] := by rw [List.getD_eq_getElem?_getD, List.getElem?_eq_getElem hjl]; rfl
      rw [hc2] at hc
      rw [splW_ch hc] at hr
      have hx : (strB s).extract j (((j : Int) + 1).toNat) = strB [s[j]] := by
        rw [show ((j : Int) + 1).toNat = j + 1 by omega, ← strB_of ((strB s).extract j (j + 1)), Lib.extract_data, strB_data, show j + 1 - j = 1 by omega, List.drop_eq_getElem_cons hjl]
        rfl
      rw [hx, strB_app, strB_size, strB_size]
      refine ⟨by unfold In64; omega, ⟨by omega, by omega, by omega⟩, by simp only [List.length_singleton]; omega, by unfold In64; omega, (j + 1, acc, w ++ [s[j]]), ⟨hr, by simp only; omega, by simp only; omega, by simp; omega⟩, ⟨⟨rfl, rfl, by simp⟩, ⟨rfl, rfl⟩, ap_allT⟩, by simp only; omega⟩
    · have hjl : s.drop j = [] := List.drop_eq_nil_of_le (by have := of_decide_eq_false hg; omega)
      rw [hjl, splW_end] at hr
      refine ⟨_, fun _ _ => rfl, ⟨Nat.le_refl _, fun k hk => by rw [apF_tx hk]; rfl⟩, by unfold appRoom; omega, by rw [hr]; simp, ⟨Nat.le_refl _, fun k hk => ?_⟩, fun k hk => ?_⟩
      · rw [congrFun (app_wds acc w) k, apF_tx hk]; rfl
      · rw [congrFun (app_wds acc w) k, apF_tx hk, hr]; rfl
end Go.Proofs.YtdfiicpikcdokaaGreatDoor
namespace Go.Proofs.YtdfiicpikcdokaaGreatDoor
set_option linter.unusedSimpArgs false
set_option linter.unusedVariables false
open Go.RowKit
set_option maxRecDepth 20000

def scanE : List By → List Int → List Int × Bool
  | [], acc => (acc, true)
  | w :: r, acc => match nm3 w with
    | none => (acc, false)
    | some u => scanE r (acc ++ [(u : Int)])
def rflE (ws : List By) : Fl × Bool :=
  if 2 ≤ ws.length ∧ ws.getD (ws.length - 2) [] = wMx then
    match rpQ (ws.getD (ws.length - 1) []) with
    | none => (⟨[], false, ⟨0, 0⟩⟩, false)
    | some r => (⟨(scanE (ws.take (ws.length - 2)) []).1, true, r⟩, (scanE (ws.take (ws.length - 2)) []).2 && decide (2 < ws.length))
  else (⟨(scanE ws []).1, false, ⟨0, 0⟩⟩, (scanE ws []).2 && decide (0 < ws.length))
theorem scan_step {l : List By} {acc : List Int} {j : Nat} (h : j < l.length) : scanE (l.drop j) acc = match nm3 (l.getD j []) with
    | none => (acc, false)
    | some u => scanE (l.drop (j + 1)) (acc ++ [(u : Int)]) := by
  rw [List.drop_eq_getElem_cons h, List.getD_eq_getElem?_getD, List.getElem?_eq_getElem h]
  rfl
theorem ev_rflow (ws : List By) (hw : ws.length ≤ 100000) (hl : ∀ w, w ∈ ws → w.length ≤ 100000) : Ev Tryz.prog 32 [wsV ws] (.tup [.agg (flL (rflE ws).1), .sc (.bool (rflE ws).2)]) := by
  unfold wsV flL
  have hp := ev_rparse (ws.getD (ws.length - 1) []) (by
    rcases Nat.lt_or_ge (ws.length - 1) ws.length with h | h
    · have := hl _ (getD_mem [] h); omega
    · rw [List.getD_eq_getElem?_getD, List.getElem?_eq_none h]; simp)
  generalize hA : rflE ws = A
  unfold rflE at hA
  refine ev_fn Tryz.func32 comp32 (show 1 ≤ Tryz.f32.ntmps by decide) ?_; unfold cf32 rf32; simp only [↓EVP0, EVQ0, EVQ1, EVQ2, EVQ3, EVQ4, EVA, EVK, EVFD,EVFT, ↓reduceIte, Nat.reduceEqDiff, Nat.reduceAdd, Nat.reduceSub, Nat.reduceMul, Nat.reduceLT, Nat.reduceLeDiff, reduceCtorEq, Int.reduceToNat, Int.reduceLT, Int.reduceLE, Int.reduceAdd, Int.reduceSub, Int.reduceMul, Int.reduceNeg, Int.reduceEq, Nat.reduceMod, forall_eq_or_imp, forall_eq, forall_const, EVY, true_imp_iff, implies_true, Int.cast_ofNat_Int, forall_eq']
  intro _
  refine lwp_join (α := Nat × Bool × Rt) (fun x => x.1 ≤ ws.length ∧ A = (⟨(scanE (ws.take x.1) []).1, x.2.1, x.2.2⟩, (scanE (ws.take x.1) []).2 && decide (0 < x.1))) (fun x => [(0, .rsl 1 ws.length (txsF (List.map strB ws))), (2, .ptr 0 0 0 0 0), (4, .ptr 1 0 0 0 0), (5, .sc (.int .i64 (x.1 : Nat)))])
    (fun x => [(0, .box [.nsl, .sc (.bool false), .sc (.int .i64 0), .sc (.int .i64 0)]), (0, .box [.nsl, .sc (.bool x.2.1), .sc (.int .i64 x.2.2.n), .sc (.int .i64 x.2.2.d)])]) (fun _ => Nat.zero_le _) ?_ ?_
  · simp only [↓EVP0, EVQ0, EVQ1, EVQ2, EVQ3, EVQ4, EVA, EVK, EVFD,EVFT, ↓reduceIte, Nat.reduceEqDiff, Nat.reduceAdd, Nat.reduceSub, Nat.reduceMul, Nat.reduceLT, Nat.reduceLeDiff, reduceCtorEq, Int.reduceToNat, Int.reduceLT, Int.reduceLE, Int.reduceAdd, Int.reduceSub, Int.reduceMul, Int.reduceNeg, Int.reduceEq, Nat.reduceMod, forall_eq_or_imp, forall_eq, forall_const, EVY, true_imp_iff, implies_true, Int.cast_ofNat_Int, forall_eq']
    rw [map_getV, map_getV, show ({ data := #[109, 97, 120] } : ByteArray) = strB wMx from rfl, decV, show ((ws.length : Int) - 2).toNat = ws.length - 2 by omega, show ((ws.length : Int) - 1).toNat = ws.length - 1 by omega]
    refine ⟨fun h => ?_, fun h => ?_, fun h => ?_, fun h => ?_⟩
    · have := of_decide_eq_true h; unfold In64; omega
    · have := of_decide_eq_true h; omega
    · have h2 : 2 ≤ ws.length ∧ ws.getD (ws.length - 2) [] = wMx := by
        by_cases e : 2 ≤ (ws.length : Int)
        · rw [decide_eq_true e] at h
          exact ⟨by omega, by simpa using h⟩
        · rw [decide_eq_false e] at h; cases h
      rw [if_pos h2] at hA
      refine ⟨by unfold In64; omega, ⟨by omega, by omega⟩, ?_⟩
      generalize rpQ (ws.getD (ws.length - 1) []) = q at *
      unfold ratV at hp
      refine callK_ro (hp) ?_ ?_
      · simp only [↓EVP0, EVQ0, EVQ1, EVQ2, EVQ3, EVQ4, EVA, EVK, EVFD,EVFT, ↓reduceIte, Nat.reduceEqDiff, Nat.reduceAdd, Nat.reduceSub, Nat.reduceMul, Nat.reduceLT, Nat.reduceLeDiff, reduceCtorEq, Int.reduceToNat, Int.reduceLT, Int.reduceLE, Int.reduceAdd, Int.reduceSub, Int.reduceMul, Int.reduceNeg, Int.reduceEq, Nat.reduceMod, forall_eq_or_imp, forall_eq, forall_const, EVY, true_imp_iff, implies_true, Int.cast_ofNat_Int, forall_eq']
      simp only [↓EVP0, EVQ0, EVQ1, EVQ2, EVQ3, EVQ4, EVA, EVK, EVFD,EVFT, ↓reduceIte, Nat.reduceEqDiff, Nat.reduceAdd, Nat.reduceSub, Nat.reduceMul, Nat.reduceLT, Nat.reduceLeDiff, reduceCtorEq, Int.reduceToNat, Int.reduceLT, Int.reduceLE, Int.reduceAdd, Int.reduceSub, Int.reduceMul, Int.reduceNeg, Int.reduceEq, Nat.reduceMod, forall_eq_or_imp, forall_eq, forall_const, EVY, true_imp_iff, implies_true, Int.cast_ofNat_Int, forall_eq']
      refine ⟨fun h3 => ?_, fun h3 => ?_⟩
      · cases q with
        | some r => cases h3
        | none => subst hA; exact ⟨⟨rfl, rfl, rfl, rfl⟩, rfl⟩
      · cases q with
        | none => cases h3
        | some r =>
          refine ⟨by unfold In64; omega, (ws.length - 2, true, r), ⟨by simp only; omega, ?_⟩, by simp only; omega, rfl⟩
          rw [← hA]
          simp only
          rw [decide_eq_decide.2 (show 2 < ws.length ↔ 0 < ws.length - 2 by omega)]
    · have h2 : ¬ (2 ≤ ws.length ∧ ws.getD (ws.length - 2) [] = wMx) := by
        rintro ⟨e1, e2⟩
        rw [decide_eq_true (show 2 ≤ (ws.length : Int) by omega), decide_eq_true e2] at h
        cases h
      rw [if_neg h2] at hA
      exact ⟨(ws.length, false, ⟨0, 0⟩), ⟨Nat.le_refl _, by rw [List.take_length]; exact hA.symm⟩, rfl, rfl⟩
  · rintro ⟨m, b, d⟩ ⟨hm, hA2⟩
    simp only at hm hA2 ⊢
    simp only [↓EVP0, EVQ0, EVQ1, EVQ2, EVQ3, EVQ4, EVA, EVK, EVFD,EVFT, ↓reduceIte, Nat.reduceEqDiff, Nat.reduceAdd, Nat.reduceSub, Nat.reduceMul, Nat.reduceLT, Nat.reduceLeDiff, reduceCtorEq, Int.reduceToNat, Int.reduceLT, Int.reduceLE, Int.reduceAdd, Int.reduceSub, Int.reduceMul, Int.reduceNeg, Int.reduceEq, Nat.reduceMod, forall_eq_or_imp, forall_eq, forall_const, EVY, true_imp_iff, implies_true, Int.cast_ofNat_Int, forall_eq']
    refine lwp_toJ (α := Unit) (fun _ => True) (fun _ => [(0, .rsl 1 ws.length (txsF (List.map strB ws))), (2, .ptr 0 0 0 0 0), (4, .ptr 1 0 0 0 0), (5, .sc (.int .i64 (m : Nat))), (8, .sc (.int .i64 0))])
      (fun _ => [(0, .box [.nsl, .sc (.bool false), .sc (.int .i64 0), .sc (.int .i64 0)]), (0, .box [.sl 2 0 1 0 0, .sc (.bool b), .sc (.int .i64 d.n), .sc (.int .i64 d.d)]), (0, .ints [])]) ?_ ?_
    · simp only [↓EVP0, EVQ0, EVQ1, EVQ2, EVQ3, EVQ4, EVA, EVK, EVFD,EVFT, ↓reduceIte, Nat.reduceEqDiff, Nat.reduceAdd, Nat.reduceSub, Nat.reduceMul, Nat.reduceLT, Nat.reduceLeDiff, reduceCtorEq, Int.reduceToNat, Int.reduceLT, Int.reduceLE, Int.reduceAdd, Int.reduceSub, Int.reduceMul, Int.reduceNeg, Int.reduceEq, Nat.reduceMod, forall_eq_or_imp, forall_eq, forall_const, EVY, true_imp_iff, implies_true, Int.cast_ofNat_Int, forall_eq']
      refine ⟨(), ?_⟩
      have h9 := fun st => ph_to (s := st) (h := mkH [(0, .box [.nsl, .sc (.bool false), .sc (.int .i64 0), .sc (.int .i64 0)]), (0, .box [.nsl, .sc (.bool b), .sc (.int .i64 d.n), .sc (.int .i64 d.d)])]) (j := 1) (c := 0) (sz := 1) (ob := .ints []) ⟨rfl, by simp [mkH], rfl⟩
      rw [phH_mk (v := 0) (by simp) rfl] at h9
      exact h9 _
    intro _ _
    simp only [↓EVP0, EVQ0, EVQ1, EVQ2, EVQ3, EVQ4, EVA, EVK, EVFD,EVFT, ↓reduceIte, Nat.reduceEqDiff, Nat.reduceAdd, Nat.reduceSub, Nat.reduceMul, Nat.reduceLT, Nat.reduceLeDiff, reduceCtorEq, Int.reduceToNat, Int.reduceLT, Int.reduceLE, Int.reduceAdd, Int.reduceSub, Int.reduceMul, Int.reduceNeg, Int.reduceEq, Nat.reduceMod, forall_eq_or_imp, forall_eq, forall_const, EVY, true_imp_iff, implies_true, Int.cast_ofNat_Int, forall_eq']
    refine lwp_loop (α := Nat × List Int) (fun x => x.1 ≤ m ∧ x.2.length = x.1 ∧ scanE ((ws.take m).drop x.1) x.2 = scanE (ws.take m) []) (fun x => [(0, .rsl 1 ws.length (txsF (List.map strB ws))), (2, .ptr 0 0 0 0 0), (4, .ptr 1 0 0 0 0), (5, .sc (.int .i64 (m : Nat))), (8, .sc (.int .i64 (x.1 : Nat)))])
      (fun x => [(0, .box [.nsl, .sc (.bool false), .sc (.int .i64 0), .sc (.int .i64 0)]), (0, .box [.sl 2 x.2.length 1 0 x.2.length, .sc (.bool b), .sc (.int .i64 d.n), .sc (.int .i64 d.d)]), (x.2.length, .ints x.2)]) (fun x => m - x.1) (0, []) ⟨Nat.zero_le _, rfl, rfl⟩ ?_ (fun _ => Nat.zero_le _) ?_
    · simp only [↓EVP0, EVQ0, EVQ1, EVQ2, EVQ3, EVQ4, EVA, EVK, EVFD,EVFT, ↓reduceIte, Nat.reduceEqDiff, Nat.reduceAdd, Nat.reduceSub, Nat.reduceMul, Nat.reduceLT, Nat.reduceLeDiff, reduceCtorEq, Int.reduceToNat, Int.reduceLT, Int.reduceLE, Int.reduceAdd, Int.reduceSub, Int.reduceMul, Int.reduceNeg, Int.reduceEq, Nat.reduceMod, forall_eq_or_imp, forall_eq, forall_const, EVY, true_imp_iff, implies_true, Int.cast_ofNat_Int, forall_eq']
    rintro ⟨j, acc⟩ ⟨hj, ha, hr⟩
    simp only at hj ha hr ⊢
    unfold lb32_0
    have hpn := ev_rnumber33 (ws.getD j []) (by
      rcases Nat.lt_or_ge j ws.length with h | h
      · exact hl _ (getD_mem [] h)
      · rw [List.getD_eq_getElem?_getD, List.getElem?_eq_none h]; simp)
    generalize hnm : nm3 (ws.getD j []) = u at hpn
    simp only [↓EVP0, EVQ0, EVQ1, EVQ2, EVQ3, EVQ4, EVA, EVK, EVFD,EVFT, ↓reduceIte, Nat.reduceEqDiff, Nat.reduceAdd, Nat.reduceSub, Nat.reduceMul, Nat.reduceLT, Nat.reduceLeDiff, reduceCtorEq, Int.reduceToNat, Int.reduceLT, Int.reduceLE, Int.reduceAdd, Int.reduceSub, Int.reduceMul, Int.reduceNeg, Int.reduceEq, Nat.reduceMod, forall_eq_or_imp, forall_eq, forall_const, EVY, true_imp_iff, implies_true, Int.cast_ofNat_Int, forall_eq']
    rw [map_getV]
    refine ⟨fun hg => ?_, fun hg => ?_⟩
    · have hjm : j < m := by have := of_decide_eq_true hg; omega
      have hst := scan_step (acc := acc) (show j < (ws.take m).length by rw [List.length_take]; omega)
      rw [show (ws.take m).getD j [] = ws.getD j [] by rw [List.getD_eq_getElem?_getD, List.getElem?_take_of_lt hjm, List.getD_eq_getElem?_getD], hnm] at hst
      refine ⟨⟨by omega, by omega⟩, ?_⟩
      refine callK_ro (hpn) ?_ ?_
      · simp only [↓EVP0, EVQ0, EVQ1, EVQ2, EVQ3, EVQ4, EVA, EVK, EVFD,EVFT, ↓reduceIte, Nat.reduceEqDiff, Nat.reduceAdd, Nat.reduceSub, Nat.reduceMul, Nat.reduceLT, Nat.reduceLeDiff, reduceCtorEq, Int.reduceToNat, Int.reduceLT, Int.reduceLE, Int.reduceAdd, Int.reduceSub, Int.reduceMul, Int.reduceNeg, Int.reduceEq, Nat.reduceMod, forall_eq_or_imp, forall_eq, forall_const, EVY, true_imp_iff, implies_true, Int.cast_ofNat_Int, forall_eq']
      simp only [↓EVP0, EVQ0, EVQ1, EVQ2, EVQ3, EVQ4, EVA, EVK, EVFD,EVFT, ↓reduceIte, Nat.reduceEqDiff, Nat.reduceAdd, Nat.reduceSub, Nat.reduceMul, Nat.reduceLT, Nat.reduceLeDiff, reduceCtorEq, Int.reduceToNat, Int.reduceLT, Int.reduceLE, Int.reduceAdd, Int.reduceSub, Int.reduceMul, Int.reduceNeg, Int.reduceEq, Nat.reduceMod, forall_eq_or_imp, forall_eq, forall_const, EVY, true_imp_iff, implies_true, Int.cast_ofNat_Int, forall_eq']
      cases u with
      | none =>
        have hst : scanE ((ws.take m).drop j) acc = (acc, false) := hst
        rw [hst] at hr
        rw [← hr] at hA2
        subst hA2
        exact ⟨fun _ => ⟨⟨⟨rfl, Nat.le_refl _, fun i _ => rfl⟩, rfl, rfl, rfl⟩, rfl⟩, fun h => absurd h (by decide)⟩
      | some u =>
        have hst : scanE ((ws.take m).drop j) acc = scanE ((ws.take m).drop (j + 1)) (acc ++ [(u : Int)]) := hst
        rw [hst] at hr
        refine ⟨fun h => absurd (show (u : Int) < 0 from of_decide_eq_true h) (by omega), fun _ => ⟨Nat.le_refl _, by unfold appRoom; omega, by unfold In64; omega, (j + 1, acc ++ [(u : Int)]), ⟨by simp only; omega, by simp [ha], hr⟩, ⟨by simp, by simp, by simp, by simp⟩, by simp only; omega⟩⟩
    · have hjm : j = m := by have := of_decide_eq_false hg; omega
      rw [List.drop_eq_nil_of_le (by rw [List.length_take]; omega)] at hr
      have hr : (acc, true) = scanE (ws.take m) [] := hr
      rw [← hr] at hA2
      subst hA2
      refine ⟨⟨⟨rfl, Nat.le_refl _, fun i _ => rfl⟩, rfl, rfl, rfl⟩, ?_⟩
      simp
end Go.Proofs.YtdfiicpikcdokaaGreatDoor
namespace Go.Proofs.YtdfiicpikcdokaaGreatDoor
set_option linter.unusedSimpArgs false
set_option linter.unusedVariables false
open Go.RowKit
set_option maxRecDepth 20000

def raddN (n : Nt) (ws : List By) : Nt × Bool :=
  if ws.getD 0 [] = wLnk ∧ ws.length = 2 ∧ n.fls = [] then
    match rpQ (ws.getD 1 []) with
    | none => (n, false)
    | some r => (⟨n.caps ++ [r], n.fls⟩, true)
  else if ws.getD 0 [] = wFlw ∧ (rflE (ws.drop 1)).2 = true then (⟨n.caps, n.fls ++ [(rflE (ws.drop 1)).1]⟩, true)
  else (n, false)
def rprs33 (s : By) (n : Nt) (i : Int) : Nt × Int × Int :=
  if h : s = [] then (if vldN n = true then (n, 0, 0) else (emN, 0, 1))
  else if (cutE 10 s).2.2 = true ∧ (raddN n (splE 32 (cutE 10 s).1)).2 = true then rprs33 (restE s) (raddN n (splE 32 (cutE 10 s).1)).1 (i + 1)
  else (emN, i + 1, 3)
termination_by s.length
decreasing_by exact rest_lt h
theorem rp_prs2 (w : By) : (∃ r, rpQ w = some r ∧ prsQ w = (r, 0)) ∨ (rpQ w = none ∧ prsQ w = (⟨0, 0⟩, 3)) := rp_prs w fun r _ hv => vld_rtok hv
theorem nm3_max : nm3 wMx = none := by decide
theorem lnk_scan : ∀ (ws : List By) (acc l : List Int) (tl : List By), (tl = [] ∨ tl.getD 0 [] = wMx) → scanE ws acc = (l, true) → lnkE (ws ++ tl) acc = some (l, tl)
  | [], acc, l, tl, h, hs => by
    have hs : (acc, true) = (l, true) := hs
    cases hs
    show lnkE tl acc = some (acc, tl)
    cases tl with
    | nil => rfl
    | cons a b =>
      rcases h with h | h
      · cases h
      · have h : a = wMx := h
        show (if a = wMx then some (acc, a :: b) else _) = _
        rw [if_pos h]
  | w :: r, acc, l, tl, h, hs => by
    have hs : (match nm3 w with
      | none => (acc, false)
      | some u => scanE r (acc ++ [(u : Int)])) = (l, true) := hs
    show (if w = wMx then some (acc, w :: (r ++ tl)) else match nm3 w with
      | none => none
      | some u => lnkE (r ++ tl) (acc ++ [(u : Int)])) = _
    cases hn : nm3 w with
    | none => rw [hn] at hs; cases hs
    | some u =>
      rw [hn] at hs
      have hw : w ≠ wMx := fun e => by rw [e, nm3_max] at hn; cases hn
      rw [if_neg hw]
      exact lnk_scan r _ l tl h hs
theorem lnk_inv : ∀ (ws : List By) (acc l : List Int) (tl : List By), lnkE ws acc = some (l, tl) → ∃ pre, ws = pre ++ tl ∧ scanE pre acc = (l, true) ∧ (tl = [] ∨ tl.getD 0 [] = wMx)
  | [], acc, l, tl, h => by
    have h : some (acc, ([] : List By)) = some (l, tl) := h
    cases h
    exact ⟨[], rfl, rfl, .inl rfl⟩
  | w :: r, acc, l, tl, h => by
    have h : (if w = wMx then some (acc, w :: r) else match nm3 w with
      | none => none
      | some u => lnkE r (acc ++ [(u : Int)])) = some (l, tl) := h
    by_cases e : w = wMx
    · rw [if_pos e] at h
      cases h
      exact ⟨[], rfl, rfl, .inr e⟩
    · rw [if_neg e] at h
      cases hn : nm3 w with
      | none => rw [hn] at h; cases h
      | some u =>
        rw [hn] at h
        obtain ⟨pre, h1, h2, h3⟩ := lnk_inv r _ l tl h
        refine ⟨w :: pre, by rw [h1]; rfl, ?_, h3⟩
        show (match nm3 w with
          | none => (acc, false)
          | some u => scanE pre (acc ++ [(u : Int)])) = _
        rw [hn]; exact h2
theorem scan_max : ∀ (ws : List By) (acc l : List Int), scanE ws acc = (l, true) → (∀ w, w ∈ ws → w ≠ wMx) ∧ l.length = acc.length + ws.length
  | [], acc, l, h => by
    have h : (acc, true) = (l, true) := h
    cases h
    exact ⟨fun w hw => (by cases hw), rfl⟩
  | w :: r, acc, l, h => by
    have h : (match nm3 w with
      | none => (acc, false)
      | some u => scanE r (acc ++ [(u : Int)])) = (l, true) := h
    cases hn : nm3 w with
    | none => rw [hn] at h; cases h
    | some u =>
      rw [hn] at h
      obtain ⟨h1, h2⟩ := scan_max r _ l h
      refine ⟨fun v hv => ?_, by simp at h2; simp only [List.length_cons]; omega⟩
      rcases List.mem_cons.1 hv with e | e
      · rw [e]; intro e2; rw [e2, nm3_max] at hn; cases hn
      · exact h1 v e
def flwA (ws : List By) : Option Fl :=
  match lnkE ws [] with
  | none => none
  | some (l, r) => if r = [] then (if l ≠ [] then some ⟨l, false, ⟨0, 0⟩⟩ else none) else if r.length = 2 ∧ (prsQ (r.getD 1 [])).2 = 0 ∧ l ≠ [] then some ⟨l, true, (prsQ (r.getD 1 [])).1⟩ else none
theorem flwA_eq (ws : List By) : flwA ws = if (rflE ws).2 = true then some (rflE ws).1 else none := by
  unfold flwA rflE
  by_cases hx : 2 ≤ ws.length ∧ ws.getD (ws.length - 2) [] = wMx
  · rw [if_pos hx]
    obtain ⟨h2, hm⟩ := hx
    have hsp : ws = ws.take (ws.length - 2) ++ [wMx, ws.getD (ws.length - 1) []] := by
      conv => lhs; rw [← List.take_append_drop (ws.length - 2) ws]
      congr 1
      rw [List.drop_eq_getElem_cons (by omega), List.drop_eq_getElem_cons (by omega), List.drop_eq_nil_of_le (by omega)]
      rw [List.getD_eq_getElem?_getD, List.getElem?_eq_getElem (by omega)] at hm
      rw [List.getD_eq_getElem?_getD, List.getElem?_eq_getElem (by omega)]
      have e : ws.length - 2 + 1 = ws.length - 1 := by omega
      simp only [e]
      rw [show ws[ws.length - 2]'(by omega) = wMx from hm]
      rfl
    by_cases hs : (scanE (ws.take (ws.length - 2)) []).2 = true
    · obtain ⟨l, hl⟩ : ∃ l, scanE (ws.take (ws.length - 2)) [] = (l, true) := ⟨_, Prod.ext rfl hs⟩
      have hlk := lnk_scan _ _ _ [wMx, ws.getD (ws.length - 1) []] (.inr rfl) hl
      rw [← hsp] at hlk
      have hll := (scan_max _ _ _ hl).2
      rw [List.length_take] at hll
      rw [hlk, hl]
      simp only
      rw [if_neg (by simp)]
      have hne : l ≠ [] ↔ 2 < ws.length := by
        constructor
        · intro h
          have : 0 < l.length := List.length_pos_iff.2 h
          simp at hll; omega
        · intro h e
          rw [e] at hll; simp at hll; omega
      simp only [List.length_cons, List.length_nil, List.getD_cons_succ, List.getD_cons_zero]
      rcases rp_prs2 (ws.getD (ws.length - 1) []) with ⟨r, h3, h4⟩ | ⟨h3, h4⟩
      · rw [h3, h4]
        by_cases h5 : l = []
        · have h6 : ¬ 2 < ws.length := fun h => hne.2 h h5
          simp [h5, h6]
        · have h6 : 2 < ws.length := hne.1 h5
          simp [h5, h6]
      · rw [h3, h4]
        simp
    · have hnone : (if ((match rpQ (ws.getD (ws.length - 1) []) with
          | none => ((⟨[], false, ⟨0, 0⟩⟩ : Fl), false)
          | some r => (⟨(scanE (ws.take (ws.length - 2)) []).1, true, r⟩, (scanE (ws.take (ws.length - 2)) []).2 && decide (2 < ws.length)))).2 = true then some ((match rpQ (ws.getD (ws.length - 1) []) with
          | none => ((⟨[], false, ⟨0, 0⟩⟩ : Fl), false)
          | some r => (⟨(scanE (ws.take (ws.length - 2)) []).1, true, r⟩, (scanE (ws.take (ws.length - 2)) []).2 && decide (2 < ws.length)))).1 else none) = none := by
        have hs : (scanE (ws.take (ws.length - 2)) []).2 = false := by simpa using hs
        cases rpQ (ws.getD (ws.length - 1) []) with
        | none => rfl
        | some r => simp [hs]
      refine Eq.trans ?_ hnone.symm
      cases hlk : lnkE ws [] with
      | none => rfl
      | some q =>
        obtain ⟨l, tl⟩ := q
        obtain ⟨pre, h3, h4, h5⟩ := lnk_inv _ _ _ _ hlk
        have hnm := (scan_max _ _ _ h4).1
        have hlen : ws.length = pre.length + tl.length := by rw [h3, List.length_append]
        have h3t : 3 ≤ tl.length := by
          rcases Nat.lt_or_ge tl.length 3 with hlt | hge
          · exfalso
            by_cases h6 : tl.length = 2
            · have : pre = ws.take (ws.length - 2) := by rw [h3, List.length_append, h6, Nat.add_sub_cancel, List.take_left]
              rw [← this, h4] at hs
              exact hs rfl
            · have h7 : ws.length - 2 < pre.length := by omega
              have h8 : ws.getD (ws.length - 2) [] ∈ pre := by
                have : ws.getD (ws.length - 2) [] = pre.getD (ws.length - 2) [] := by
                  rw [List.getD_eq_getElem?_getD, List.getD_eq_getElem?_getD]
                  conv => lhs; rw [h3]
                  rw [List.getElem?_append_left (by rw [← h3]; exact h7), ← h3]
                rw [this]; exact getD_mem [] h7
              exact hnm _ h8 hm
          · exact hge
        simp only
        rw [if_neg (by intro e; rw [e] at h3t; simp at h3t), if_neg (fun h => by omega)]
  · rw [if_neg hx]
    by_cases hs : (scanE ws []).2 = true
    · obtain ⟨l, hl⟩ : ∃ l, scanE ws [] = (l, true) := ⟨_, Prod.ext rfl hs⟩
      have hlk := lnk_scan _ _ _ [] (.inl rfl) hl
      rw [List.append_nil] at hlk
      have hll := (scan_max _ _ _ hl).2
      rw [hlk, hl]
      simp only [if_true]
      have hne : l ≠ [] ↔ 0 < ws.length := by
        constructor
        · intro h
          have : 0 < l.length := List.length_pos_iff.2 h
          simp at hll; omega
        · intro h e
          rw [e] at hll; simp at hll; omega
      by_cases h5 : l ≠ []
      · rw [if_pos h5, if_pos (by simpa using hne.1 h5)]
      · rw [if_neg h5, if_neg (fun h => h5 (hne.2 (by simpa using h)))]
    · have hs2 : (scanE ws []).2 = false := by simpa using hs
      rw [hs2]
      simp only [Bool.false_and, Bool.false_eq_true, if_false]
      cases hlk : lnkE ws [] with
      | none => rfl
      | some q =>
        obtain ⟨l, tl⟩ := q
        obtain ⟨pre, h3, h4, h5⟩ := lnk_inv _ _ _ _ hlk
        have hlen : ws.length = pre.length + tl.length := by rw [h3, List.length_append]
        have hne : tl ≠ [] := by
          intro e
          rw [e, List.append_nil] at h3
          rw [h3, h4] at hs
          exact hs rfl
        simp only
        rw [if_neg hne]
        rw [if_neg]
        intro h
        refine hx ⟨by omega, ?_⟩
        rcases h5 with h5 | h5
        · exact absurd h5 hne
        · rw [← h5, List.getD_eq_getElem?_getD, List.getD_eq_getElem?_getD]
          conv => lhs; rw [h3]
          rw [List.getElem?_append_right (by rw [List.length_append]; omega), List.length_append, h.1, show pre.length + 2 - 2 - pre.length = 0 by omega]
end Go.Proofs.YtdfiicpikcdokaaGreatDoor
namespace Go.Proofs.YtdfiicpikcdokaaGreatDoor
set_option linter.unusedSimpArgs false
set_option linter.unusedVariables false
open Go.RowKit
set_option maxRecDepth 20000

theorem cut_free10 : ∀ l : By, ∀ j, j < (cutE 10 l).1.length → l.getD j 0 ≠ 10
  | [], j, h => absurd h (Nat.not_lt_zero _)
  | b :: r, j, h => by
    by_cases e : b = 10
    · have : cutE 10 (b :: r) = ([], r, true) := by show (if b = 10 then _ else _) = _; rw [if_pos e]
      rw [this] at h; exact absurd h (Nat.not_lt_zero _)
    · have : cutE 10 (b :: r) = (b :: (cutE 10 r).1, (cutE 10 r).2.1, (cutE 10 r).2.2) := by show (if b = 10 then _ else _) = _; rw [if_neg e]
      rw [this] at h
      cases j with
      | zero => exact e
      | succ j => exact cut_free10 r j (by simpa using h)
theorem cut_pos (s : By) : ((cutE 10 s).2.2 = false ∧ (cutE 10 s).1.length = s.length) ∨ ((cutE 10 s).2.2 = true ∧ (cutE 10 s).1.length < s.length ∧ s.getD (cutE 10 s).1.length 0 = 10 ∧ (cutE 10 s).1 = s.take (cutE 10 s).1.length ∧ restE s = s.drop ((cutE 10 s).1.length + 1)) := by
  rcases idx_cut 10 s with ⟨h1, h2, h3, h4⟩ | ⟨i, h1, h2, h3, h4, h5⟩
  · exact .inl ⟨h1, by rw [h3]⟩
  · have hl : (cutE 10 s).1.length = i := by rw [h4, List.length_take]; omega
    have hj := cutJ 10 s h1
    refine .inr ⟨h1, by omega, ?_, by rw [hl]; exact h4, by rw [hl]; exact h5⟩
    have e := congrArg (fun l => l.getD (cutE 10 s).1.length 0) hj
    rw [show s.getD (cutE 10 s).1.length 0 = ((cutE 10 s).1 ++ 10 :: (cutE 10 s).2.1).getD (cutE 10 s).1.length 0 from e, List.getD_eq_getElem?_getD, List.getElem?_append_right (Nat.le_refl _), Nat.sub_self]; rfl
theorem spl_lenP (c : UInt8) : ∀ l : By, (splE c l).length ≤ l.length + 1
  | [] => by simp [splE]
  | b :: r => by
    have ih := spl_lenP c r
    unfold splE
    split
    · simp only [List.length_cons]; omega
    · revert ih
      cases splE c r with
      | nil => intro _; simp
      | cons v vs => intro ih; simp only [List.length_cons] at ih ⊢; omega
theorem rpQ_ok {s : By} {r : Rt} (h : rpQ s = some r) : RtOk r := by
  rcases rp_cases s with ⟨q, h1, h2, _⟩ | h1
  · rw [h] at h1; cases h1; exact vld_rtok h2
  · rw [h] at h1; cases h1
theorem scanE_ok : ∀ {ws : List By} {acc : List Int}, (∀ x, x ∈ acc → 0 ≤ x ∧ x < 1000) → ∀ x, x ∈ (scanE ws acc).1 → 0 ≤ x ∧ x < 1000
  | [], acc, ha, x, h => ha x h
  | w :: ws, acc, ha, x, h => by
    have h : x ∈ (match nm3 w with
      | none => (acc, false)
      | some u => scanE ws (acc ++ [(u : Int)])).1 := h
    split at h
    · exact ha x h
    · rename_i u hu
      refine scanE_ok (fun y hy => ?_) x h
      rcases List.mem_append.1 hy with h1 | h1
      · exact ha y h1
      · have := (nm3_inv hu).2.1
        simp only [List.mem_singleton] at h1
        subst h1; omega
theorem rflE_ok (ws : List By) : (∀ x, x ∈ (rflE ws).1.links → 0 ≤ x ∧ x < 1000) ∧ RtOk (rflE ws).1.dem := by
  unfold rflE
  split
  · split
    · exact ⟨fun x hx => (by cases hx), rt0_ok⟩
    · rename_i r hr
      exact ⟨fun x hx => scanE_ok (fun y hy => (by cases hy)) x hx, rpQ_ok hr⟩
  · exact ⟨fun x hx => scanE_ok (fun y hy => (by cases hy)) x hx, rt0_ok⟩
theorem cap_app {n : Nt} (hn : NtOk n) {r : Rt} (hd : RtOk r) : NtOk ⟨n.caps ++ [r], n.fls⟩ := by
  refine ⟨fun q hq => ?_, hn.links, hn.dem⟩
  rcases List.mem_append.1 hq with h | h
  · exact hn.caps q h
  · simp only [List.mem_singleton] at h
    subst h; exact hd
def nqO (n : Nt) : List (Nat × LO) := [(0, .box [.nsl, .nsl]), (0, .box [.sl 2 n.caps.length 2 0 n.caps.length, .sl 3 n.fls.length 4 0 n.fls.length]), caO n.caps, flO n.fls]
def rparse33 (s : By) : Nt × Int × Int := if 65536 < s.length then (emN, 0, 5) else rprs33 s emN 0
structure RI (RES : Nt × Int × Int) (L : Nat) (x : By × Nt × Int) : Prop where
  r : rprs33 x.1 x.2.1 x.2.2 = RES
  ok : NtOk x.2.1
  l : x.2.1.caps.length + x.2.1.fls.length + x.1.length ≤ L
  i : 0 ≤ x.2.2 ∧ x.2.2 + x.1.length ≤ L
theorem ev_rparse33 (s : By) (hs : s.length ≤ 100000) : Ev Tryz.prog 13 [.sc (.string (strB s))] (prR (rparse33 s)) := by
  unfold prR
  generalize hA : rparse33 s = A
  unfold rparse33 at hA
  refine ev_fn Tryz.func13 comp13 (show 1 ≤ Tryz.f13.ntmps by decide) ?_; unfold cf13 rf13; simp only [↓EVP0, EVQ0, EVQ1, EVQ2, EVQ3, EVQ4, EVA, EVK, EVFD,EVFT, ↓reduceIte, Nat.reduceEqDiff, Nat.reduceAdd, Nat.reduceSub, Nat.reduceMul, Nat.reduceLT, Nat.reduceLeDiff, reduceCtorEq, Int.reduceToNat, Int.reduceLT, Int.reduceLE, Int.reduceAdd, Int.reduceSub, Int.reduceMul, Int.reduceNeg, Int.reduceEq, Nat.reduceMod, forall_eq_or_imp, forall_eq, forall_const, EVY, true_imp_iff, implies_true, Int.cast_ofNat_Int, forall_eq']
  rw [strB_size]
  refine ⟨fun h => ?_, fun h => ?_⟩
  · rw [if_pos (by have := of_decide_eq_true h; omega)] at hA
    subst hA
    unfold netV emN
    simp only [↓EVP0, EVQ0, EVQ1, EVQ2, EVQ3, EVQ4, EVA, EVK, EVFD,EVFT, ↓reduceIte, Nat.reduceEqDiff, Nat.reduceAdd, Nat.reduceSub, Nat.reduceMul, Nat.reduceLT, Nat.reduceLeDiff, reduceCtorEq, Int.reduceToNat, Int.reduceLT, Int.reduceLE, Int.reduceAdd, Int.reduceSub, Int.reduceMul, Int.reduceNeg, Int.reduceEq, Nat.reduceMod, forall_eq_or_imp, forall_eq, forall_const, EVY, true_imp_iff, implies_true, Int.cast_ofNat_Int, forall_eq']
  rw [if_neg (by have := of_decide_eq_false h; omega)] at hA
  refine lwp_toJ (α := Unit) (fun _ => True) (fun _ => [(0, .sc (.string (strB s))), (2, .ptr 0 0 0 0 0), (5, .ptr 1 0 0 0 0), (6, .sc (.int .i64 0))]) (fun _ => nqO emN) ?_ ?_
  · simp only [↓EVP0, EVQ0, EVQ1, EVQ2, EVQ3, EVQ4, EVA, EVK, EVFD,EVFT, ↓reduceIte, Nat.reduceEqDiff, Nat.reduceAdd, Nat.reduceSub, Nat.reduceMul, Nat.reduceLT, Nat.reduceLeDiff, reduceCtorEq, Int.reduceToNat, Int.reduceLT, Int.reduceLE, Int.reduceAdd, Int.reduceSub, Int.reduceMul, Int.reduceNeg, Int.reduceEq, Nat.reduceMod, forall_eq_or_imp, forall_eq, forall_const, EVY, true_imp_iff, implies_true, Int.cast_ofNat_Int, forall_eq']
    refine ⟨(), ?_, by simp [nqO], by simp [nqO]⟩
    have h9 := fun st => ph_to (s := st) (h := mkH [(0, .box [.nsl, .nsl]), (0, .box [.nsl, .nsl])]) (j := 1) (c := 0) (sz := 2) (ob := .row 2 0 (elO .dead)) ⟨rfl, by simp [mkH], rfl⟩
    rw [phH_mk (v := 0) (by simp) rfl] at h9
    have h10 := fun st => ph_to (s := st) (h := mkH [(0, .box [.nsl, .nsl]), (0, .box [.sl 2 0 2 0 0, .nsl]), (0, .row 2 0 (elO .dead))]) (j := 1) (c := 1) (sz := 4) (ob := .row 4 0 (elO .dead)) ⟨rfl, by simp [mkH], rfl⟩
    rw [phH_mk (v := 0) (by simp) rfl] at h10
    exact (h9 _).trans (h10 _)
  intro _ _
  simp only [↓EVP0, EVQ0, EVQ1, EVQ2, EVQ3, EVQ4, EVA, EVK, EVFD,EVFT, ↓reduceIte, Nat.reduceEqDiff, Nat.reduceAdd, Nat.reduceSub, Nat.reduceMul, Nat.reduceLT, Nat.reduceLeDiff, reduceCtorEq, Int.reduceToNat, Int.reduceLT, Int.reduceLE, Int.reduceAdd, Int.reduceSub, Int.reduceMul, Int.reduceNeg, Int.reduceEq, Nat.reduceMod, forall_eq_or_imp, forall_eq, forall_const, EVY, true_imp_iff, implies_true, Int.cast_ofNat_Int, forall_eq']
  refine lwp_loop (α := By × Nt × Int) (RI A s.length) (fun x => [(0, .sc (.string (strB x.1))), (2, .ptr 0 0 0 0 0), (5, .ptr 1 0 0 0 0), (6, .sc (.int .i64 x.2.2))]) (fun x => nqO x.2.1) (fun x => x.1.length) (s, emN, 0) ⟨hA, emN_ok, by simp [emN], by simp only; omega⟩ ?_ (fun x => Nat.zero_le _) ?_
  · unfold nqO caO flO
    simp only [↓EVP0, EVQ0, EVQ1, EVQ2, EVQ3, EVQ4, EVA, EVK, EVFD,EVFT, ↓reduceIte, Nat.reduceEqDiff, Nat.reduceAdd, Nat.reduceSub, Nat.reduceMul, Nat.reduceLT, Nat.reduceLeDiff, reduceCtorEq, Int.reduceToNat, Int.reduceLT, Int.reduceLE, Int.reduceAdd, Int.reduceSub, Int.reduceMul, Int.reduceNeg, Int.reduceEq, Nat.reduceMod, forall_eq_or_imp, forall_eq, forall_const, EVY, true_imp_iff, implies_true, Int.cast_ofNat_Int, forall_eq']
    exact ⟨ap_allR, ap_allF⟩
  rintro ⟨t, n, i⟩ ⟨hr, hok, hl, hi⟩
  simp only at hr hok hl hi ⊢
  unfold lb13_1 nqO caO flO
  simp only [↓EVP0, EVQ0, EVQ1, EVQ2, EVQ3, EVQ4, EVA, EVK, EVFD,EVFT, ↓reduceIte, Nat.reduceEqDiff, Nat.reduceAdd, Nat.reduceSub, Nat.reduceMul, Nat.reduceLT, Nat.reduceLeDiff, reduceCtorEq, Int.reduceToNat, Int.reduceLT, Int.reduceLE, Int.reduceAdd, Int.reduceSub, Int.reduceMul, Int.reduceNeg, Int.reduceEq, Nat.reduceMod, forall_eq_or_imp, forall_eq, forall_const, EVY, true_imp_iff, implies_true, Int.cast_ofNat_Int, forall_eq']
  rw [strB_size]
  have hcp := cut_pos t
  have hcf := cut_free10 t
  refine ⟨fun hg => ⟨by unfold In64; omega, ?_⟩, fun hg => ?_⟩
  · have ht0 : t ≠ [] := fun e => by rw [e] at hg; simp at hg
    rw [rprs33, dif_neg ht0] at hr
    refine lwp_for (α := Unit) (cutE 10 t).1.length (fun _ _ => True) (fun j _ => [(0, .sc (.string (strB t))), (2, .ptr 0 0 0 0 0), (5, .ptr 1 0 0 0 0), (6, .sc (.int .i64 (i + 1))), (7, .sc (.int .i64 (j : Nat)))]) (fun _ _ => nqO n) () trivial ?_ (fun _ _ => Nat.zero_le _) ?_
    · unfold nqO caO flO
      simp only [↓EVP0, EVQ0, EVQ1, EVQ2, EVQ3, EVQ4, EVA, EVK, EVFD,EVFT, ↓reduceIte, Nat.reduceEqDiff, Nat.reduceAdd, Nat.reduceSub, Nat.reduceMul, Nat.reduceLT, Nat.reduceLeDiff, reduceCtorEq, Int.reduceToNat, Int.reduceLT, Int.reduceLE, Int.reduceAdd, Int.reduceSub, Int.reduceMul, Int.reduceNeg, Int.reduceEq, Nat.reduceMod, forall_eq_or_imp, forall_eq, forall_const, EVY, true_imp_iff, implies_true, Int.cast_ofNat_Int, forall_eq']
      exact ⟨ap_allR, ap_allF⟩
    intro j _ hj _
    unfold lb13_0 nqO caO flO
    simp only [↓EVP0, EVQ0, EVQ1, EVQ2, EVQ3, EVQ4, EVA, EVK, EVFD,EVFT, ↓reduceIte, Nat.reduceEqDiff, Nat.reduceAdd, Nat.reduceSub, Nat.reduceMul, Nat.reduceLT, Nat.reduceLeDiff, reduceCtorEq, Int.reduceToNat, Int.reduceLT, Int.reduceLE, Int.reduceAdd, Int.reduceSub, Int.reduceMul, Int.reduceNeg, Int.reduceEq, Nat.reduceMod, forall_eq_or_imp, forall_eq, forall_const, EVY, true_imp_iff, implies_true, Int.cast_ofNat_Int, forall_eq']
    rw [strB_size]
    have hc10 : ∀ c : UInt8, decide (((c.toNat : Nat) : Int) = 10) = decide (c = 10) := fun c => decide_eq_decide.2 ⟨fun h => UInt8.toNat_inj.1 (by rw [show (10 : UInt8).toNat = 10 from rfl]; omega), fun h => by rw [h]; rfl⟩
    rw [sb_str, hc10]
    refine ⟨fun h => ⟨by omega, by have := of_decide_eq_true h; omega⟩, fun h => ?_, fun h => ?_⟩
    · have h2 : j < t.length ∧ t.getD j 0 ≠ 10 := by
        by_cases e : (j : Int) < (t.length : Nat)
        · rw [decide_eq_true e] at h
          exact ⟨by omega, by simpa using h⟩
        · rw [decide_eq_false e] at h; cases h
      have h3 : j < (cutE 10 t).1.length := by
        rcases hcp with ⟨_, h4⟩ | ⟨_, h4, h5, _⟩
        · omega
        · rcases Nat.lt_or_ge j (cutE 10 t).1.length with h6 | h6
          · exact h6
          · have h7 : j = (cutE 10 t).1.length := by omega
            rw [h7] at h2; exact absurd h5 h2.2
      exact ⟨by unfold In64; omega, h3, (), ap_allR, ap_allF⟩
    have hje : j = (cutE 10 t).1.length := by
      rcases Nat.lt_or_ge j (cutE 10 t).1.length with h6 | h6
      · exfalso
        have h7 := hcf j h6
        have h8 : j < t.length := by
          rcases hcp with ⟨_, h4⟩ | ⟨_, h4, _⟩ <;> omega
        rw [decide_eq_true (show (j : Int) < (t.length : Nat) by omega), decide_eq_false h7] at h
        cases h
      · omega
    subst hje
    refine ⟨fun h2 => ?_, fun h2 => ⟨⟨by omega, ?_⟩, ?_⟩⟩
    · have h3 : (cutE 10 t).1.length = t.length := by have := of_decide_eq_true h2; omega
      have h4 : (cutE 10 t).2.2 = false := by
        rcases hcp with ⟨h4, _⟩ | ⟨_, h4, _⟩
        · exact h4
        · omega
      rw [if_neg (fun h => by rw [h4] at h; cases h.1)] at hr
      subst hr
      unfold netV emN
      simp only [↓EVP0, EVQ0, EVQ1, EVQ2, EVQ3, EVQ4, EVA, EVK, EVFD,EVFT, ↓reduceIte, Nat.reduceEqDiff, Nat.reduceAdd, Nat.reduceSub, Nat.reduceMul, Nat.reduceLT, Nat.reduceLeDiff, reduceCtorEq, Int.reduceToNat, Int.reduceLT, Int.reduceLE, Int.reduceAdd, Int.reduceSub, Int.reduceMul, Int.reduceNeg, Int.reduceEq, Nat.reduceMod, forall_eq_or_imp, forall_eq, forall_const, EVY, true_imp_iff, implies_true, Int.cast_ofNat_Int, forall_eq']
    · have := of_decide_eq_false h2
      rcases hcp with ⟨_, h4⟩ | ⟨_, h4, _⟩ <;> omega
    have h3 : (cutE 10 t).2.2 = true ∧ (cutE 10 t).1.length < t.length ∧ (cutE 10 t).1 = t.take (cutE 10 t).1.length ∧ restE t = t.drop ((cutE 10 t).1.length + 1) := by
      rcases hcp with ⟨_, h4⟩ | ⟨h4, h5, _, h6, h7⟩
      · have := of_decide_eq_false h2; omega
      · exact ⟨h4, h5, h6, h7⟩
    obtain ⟨hfnd, hlt, htk, hrs⟩ := h3
    rw [strB_take, ← htk]
    have hw := ev_words (cutE 10 t).1 (by omega)
    unfold wsV at hw
    refine callK_ro (hw) ?_ ?_
    · simp only [↓EVP0, EVQ0, EVQ1, EVQ2, EVQ3, EVQ4, EVA, EVK, EVFD,EVFT, ↓reduceIte, Nat.reduceEqDiff, Nat.reduceAdd, Nat.reduceSub, Nat.reduceMul, Nat.reduceLT, Nat.reduceLeDiff, reduceCtorEq, Int.reduceToNat, Int.reduceLT, Int.reduceLE, Int.reduceAdd, Int.reduceSub, Int.reduceMul, Int.reduceNeg, Int.reduceEq, Nat.reduceMod, forall_eq_or_imp, forall_eq, forall_const, EVY, true_imp_iff, implies_true, Int.cast_ofNat_Int, forall_eq']
    simp only [↓EVP0, EVQ0, EVQ1, EVQ2, EVQ3, EVQ4, EVA, EVK, EVFD,EVFT, ↓reduceIte, Nat.reduceEqDiff, Nat.reduceAdd, Nat.reduceSub, Nat.reduceMul, Nat.reduceLT, Nat.reduceLeDiff, reduceCtorEq, Int.reduceToNat, Int.reduceLT, Int.reduceLE, Int.reduceAdd, Int.reduceSub, Int.reduceMul, Int.reduceNeg, Int.reduceEq, Nat.reduceMod, forall_eq_or_imp, forall_eq, forall_const, EVY, true_imp_iff, implies_true, Int.cast_ofNat_Int, forall_eq']
    have hwl : ∀ w, w ∈ splE 32 (cutE 10 t).1 → w.length ≤ 100000 := fun w hw => by have := splE_le 32 _ w hw; omega
    have hwn := spl_lenP 32 (cutE 10 t).1
    have hw0 : 0 < (splE 32 (cutE 10 t).1).length := List.length_pos_iff.2 (splE_ne 32 _)
    have hrl : (restE t).length + (cutE 10 t).1.length + 1 = t.length := by rw [hrs, List.length_drop]; omega
    have hdr : (strB t).extract (((cutE 10 t).1.length : Int) + 1).toNat (strB t).size = strB (restE t) := by
      rw [hrs, show (((cutE 10 t).1.length : Int) + 1).toNat = (cutE 10 t).1.length + 1 by omega, ← strB_of ((strB t).extract _ _), Lib.extract_data, strB_data, strB_size]
      congr 1
      rw [List.take_of_length_le (by rw [List.length_drop]; omega)]
    rw [hfnd] at hr
    generalize splE 32 (cutE 10 t).1 = ws at *
    have hp := ev_rparse (ws.getD 1 []) (by
      rcases Nat.lt_or_ge 1 ws.length with h | h
      · have := hwl _ (getD_mem [] h); omega
      · rw [List.getD_eq_getElem?_getD, List.getElem?_eq_none h]; simp)
    have hfl := ev_rflow (ws.drop 1) (by rw [List.length_drop]; omega) (fun w hw => hwl w (List.mem_of_mem_drop hw))
    have hwd : wsV (ws.drop 1) = .rsl 1 (ws.length - 1) (fun i => [.sc (.string ((ws.map strB).getD (1 + i) ⟨#[]⟩))]) := by
      unfold wsV
      rw [List.length_drop]
      congr 1
      funext i
      unfold txsF
      rw [map_getV, map_getV, List.getD_eq_getElem?_getD, List.getElem?_drop, ← List.getD_eq_getElem?_getD]
    rw [hwd] at hfl
    unfold raddN at hr
    rw [show ({ data := #[108, 105, 110, 107] } : ByteArray) = strB wLnk from rfl, map_getV, map_getV, decV]
    have hLk : ∀ b : Bool, (bif (bif decide (ws.getD 0 [] = wLnk) then decide (((ws.length : Nat) : Int) = 2) else false) then decide (((n.fls.length : Nat) : Int) = 0) else false) = b → (b = true ↔ ws.getD 0 [] = wLnk ∧ ws.length = 2 ∧ n.fls = []) := by
      intro b hb
      subst hb
      by_cases e1 : ws.getD 0 [] = wLnk
      · by_cases e2 : ws.length = 2
        · cases hf : n.fls with
          | nil => rw [decide_eq_true e1, e2]; exact ⟨fun _ => ⟨e1, rfl, rfl⟩, fun _ => rfl⟩
          | cons a b => rw [decide_eq_true e1, e2]; exact ⟨fun h => (by have := of_decide_eq_true (show decide ((((a :: b).length : Nat) : Int) = 0) = true from h); simp at this; omega), fun h => (by cases h.2.2)⟩
        · rw [decide_eq_false (show ¬ ((ws.length : Nat) : Int) = 2 by omega)]
          refine ⟨fun h => ?_, fun h => absurd h.2.1 e2⟩
          cases hd : decide (ws.getD 0 [] = wLnk) <;> rw [hd] at h <;> cases h
      · rw [decide_eq_false e1]
        exact ⟨fun h => (by cases h), fun h => absurd h.1 e1⟩
    refine ⟨by unfold In64; omega, ⟨by omega, by rw [strB_size]; omega, by omega⟩, by omega, fun h4 => ?_, fun h4 => ⟨⟨by omega, by omega⟩, ?_⟩⟩
    · have h5 := (hLk _ h4).1 rfl
      rw [if_pos h5] at hr
      refine ⟨by omega, ?_⟩
      unfold ratV at hp
      refine callK_ro (hp) ?_ ?_
      · simp only [↓EVP0, EVQ0, EVQ1, EVQ2, EVQ3, EVQ4, EVA, EVK, EVFD,EVFT, ↓reduceIte, Nat.reduceEqDiff, Nat.reduceAdd, Nat.reduceSub, Nat.reduceMul, Nat.reduceLT, Nat.reduceLeDiff, reduceCtorEq, Int.reduceToNat, Int.reduceLT, Int.reduceLE, Int.reduceAdd, Int.reduceSub, Int.reduceMul, Int.reduceNeg, Int.reduceEq, Nat.reduceMod, forall_eq_or_imp, forall_eq, forall_const, EVY, true_imp_iff, implies_true, Int.cast_ofNat_Int, forall_eq']
      simp only [↓EVP0, EVQ0, EVQ1, EVQ2, EVQ3, EVQ4, EVA, EVK, EVFD,EVFT, ↓reduceIte, Nat.reduceEqDiff, Nat.reduceAdd, Nat.reduceSub, Nat.reduceMul, Nat.reduceLT, Nat.reduceLeDiff, reduceCtorEq, Int.reduceToNat, Int.reduceLT, Int.reduceLE, Int.reduceAdd, Int.reduceSub, Int.reduceMul, Int.reduceNeg, Int.reduceEq, Nat.reduceMod, forall_eq_or_imp, forall_eq, forall_const, EVY, true_imp_iff, implies_true, Int.cast_ofNat_Int, forall_eq']
      cases hq : rpQ (ws.getD 1 []) with
      | none =>
        rw [hq] at hr
        simp only [Bool.false_eq_true, and_false, if_false] at hr
        subst hr
        refine ⟨fun _ => ?_, fun h => by cases h⟩
        unfold netV emN
        simp only [↓EVP0, EVQ0, EVQ1, EVQ2, EVQ3, EVQ4, EVA, EVK, EVFD,EVFT, ↓reduceIte, Nat.reduceEqDiff, Nat.reduceAdd, Nat.reduceSub, Nat.reduceMul, Nat.reduceLT, Nat.reduceLeDiff, reduceCtorEq, Int.reduceToNat, Int.reduceLT, Int.reduceLE, Int.reduceAdd, Int.reduceSub, Int.reduceMul, Int.reduceNeg, Int.reduceEq, Nat.reduceMod, forall_eq_or_imp, forall_eq, forall_const, EVY, true_imp_iff, implies_true, Int.cast_ofNat_Int, forall_eq']
      | some q =>
        rw [hq] at hr
        simp only [and_self, if_true] at hr
        refine ⟨fun h => (by cases h), fun _ => ?_⟩
        refine ⟨bsF_len rfl, ⟨Nat.le_refl _, fun k hk => by rw [apF_rt hk]; rfl⟩, by unfold appRoom; omega, (restE t, ⟨n.caps ++ [q], n.fls⟩, i + 1), ⟨hr, cap_app hok (rpQ_ok hq), by simp; omega, by simp only; omega⟩, ⟨⟨hdr, rfl⟩, by simp, ⟨by simp, ?_⟩, ap_allR, ⟨rfl, rfl⟩, ap_allF⟩, by simp only; omega⟩
        simp only [List.length_append, List.length_singleton]
        exact congrArg (LO.row 2 (n.caps.length + 1)) (app_caps n.caps q)
    · have h5 : ¬ (ws.getD 0 [] = wLnk ∧ ws.length = 2 ∧ n.fls = []) := fun h => by have := (hLk _ h4).2 h; cases this
      rw [if_neg h5] at hr
      unfold flL at hfl
      refine callK_ro (hfl) ?_ ?_
      · simp only [↓EVP0, EVQ0, EVQ1, EVQ2, EVQ3, EVQ4, EVA, EVK, EVFD,EVFT, ↓reduceIte, Nat.reduceEqDiff, Nat.reduceAdd, Nat.reduceSub, Nat.reduceMul, Nat.reduceLT, Nat.reduceLeDiff, reduceCtorEq, Int.reduceToNat, Int.reduceLT, Int.reduceLE, Int.reduceAdd, Int.reduceSub, Int.reduceMul, Int.reduceNeg, Int.reduceEq, Nat.reduceMod, forall_eq_or_imp, forall_eq, forall_const, EVY, true_imp_iff, implies_true, Int.cast_ofNat_Int, forall_eq']
      simp only [↓EVP0, EVQ0, EVQ1, EVQ2, EVQ3, EVQ4, EVA, EVK, EVFD,EVFT, ↓reduceIte, Nat.reduceEqDiff, Nat.reduceAdd, Nat.reduceSub, Nat.reduceMul, Nat.reduceLT, Nat.reduceLeDiff, reduceCtorEq, Int.reduceToNat, Int.reduceLT, Int.reduceLE, Int.reduceAdd, Int.reduceSub, Int.reduceMul, Int.reduceNeg, Int.reduceEq, Nat.reduceMod, forall_eq_or_imp, forall_eq, forall_const, EVY, true_imp_iff, implies_true, Int.cast_ofNat_Int, forall_eq']
      rw [show ({ data := #[102, 108, 111, 119] } : ByteArray) = strB wFlw from rfl, map_getV, decV]
      have hok2 := rflE_ok (ws.drop 1)
      generalize rflE (ws.drop 1) = q at *
      obtain ⟨f, b⟩ := q
      simp only at hr hok2 ⊢
      refine ⟨by omega, fun h6 => ?_, fun h6 => ?_⟩
      · have h7 : ¬ (ws.getD 0 [] = wFlw ∧ b = true) := by
          rintro ⟨e1, e2⟩
          rw [decide_eq_true e1, e2] at h6; cases h6
        rw [if_neg h7] at hr
        simp only [Bool.false_eq_true, and_false, if_false] at hr
        subst hr
        unfold netV emN
        simp only [↓EVP0, EVQ0, EVQ1, EVQ2, EVQ3, EVQ4, EVA, EVK, EVFD,EVFT, ↓reduceIte, Nat.reduceEqDiff, Nat.reduceAdd, Nat.reduceSub, Nat.reduceMul, Nat.reduceLT, Nat.reduceLeDiff, reduceCtorEq, Int.reduceToNat, Int.reduceLT, Int.reduceLE, Int.reduceAdd, Int.reduceSub, Int.reduceMul, Int.reduceNeg, Int.reduceEq, Nat.reduceMod, forall_eq_or_imp, forall_eq, forall_const, EVY, true_imp_iff, implies_true, Int.cast_ofNat_Int, forall_eq']
      · have h7 : ws.getD 0 [] = wFlw ∧ b = true := by
          by_cases e : ws.getD 0 [] = wFlw
          · refine ⟨e, ?_⟩
            rw [decide_eq_true e] at h6
            cases b with
            | true => rfl
            | false => cases h6
          · rw [decide_eq_false e] at h6; cases h6
        rw [if_pos h7] at hr
        simp only [and_self, if_true] at hr
        refine ⟨bsF_len rfl, ⟨Nat.le_refl _, fun k hk => by rw [apF_fl hk]; rfl⟩, by unfold appRoom; omega, (restE t, ⟨n.caps, n.fls ++ [f]⟩, i + 1), ⟨hr, fl_app hok hok2.1 hok2.2, by simp; omega, by simp only; omega⟩, ⟨⟨hdr, rfl⟩, by simp, ⟨rfl, rfl⟩, ap_allR, ⟨by simp, ?_⟩, ap_allF⟩, by simp only; omega⟩
        simp only [List.length_append, List.length_singleton]
        exact congrArg (LO.row 4 (n.fls.length + 1)) (app_fls n.fls f)
  · have ht0 : t = [] := by
      have := of_decide_eq_false hg
      exact List.length_eq_zero_iff.1 (by omega)
    subst ht0
    rw [rprs33, dif_pos rfl] at hr
    have hv := ev_refvalid n (by omega) (by omega)
    unfold netV at hv
    refine callK_frz hv ?_ trivial ?_
    · simp only [↓EVP0, EVQ0, EVQ1, EVQ2, EVQ3, EVQ4, EVA, EVK, EVFD,EVFT, ↓reduceIte, Nat.reduceEqDiff, Nat.reduceAdd, Nat.reduceSub, Nat.reduceMul, Nat.reduceLT, Nat.reduceLeDiff, reduceCtorEq, Int.reduceToNat, Int.reduceLT, Int.reduceLE, Int.reduceAdd, Int.reduceSub, Int.reduceMul, Int.reduceNeg, Int.reduceEq, Nat.reduceMod, forall_eq_or_imp, forall_eq, forall_const, EVY, true_imp_iff, implies_true, Int.cast_ofNat_Int, forall_eq']
      exact ⟨⟨⟨Nat.le_refl _, fun k hk => by rw [apF_rt hk]; rfl⟩, fun k hk => apF_rt hk⟩, ⟨Nat.le_refl _, fun k hk => by rw [apF_fl hk]; rfl⟩, fun k hk => apF_fl hk⟩
    simp only [↓EVP0, EVQ0, EVQ1, EVQ2, EVQ3, EVQ4, EVA, EVK, EVFD,EVFT, ↓reduceIte, Nat.reduceEqDiff, Nat.reduceAdd, Nat.reduceSub, Nat.reduceMul, Nat.reduceLT, Nat.reduceLeDiff, reduceCtorEq, Int.reduceToNat, Int.reduceLT, Int.reduceLE, Int.reduceAdd, Int.reduceSub, Int.reduceMul, Int.reduceNeg, Int.reduceEq, Nat.reduceMod, forall_eq_or_imp, forall_eq, forall_const, EVY, true_imp_iff, implies_true, Int.cast_ofNat_Int, forall_eq']
    cases hb : vldN n with
    | false =>
      rw [hb, if_neg (by decide)] at hr
      subst hr
      refine ⟨fun _ => ?_, fun h => by cases h⟩
      unfold netV emN
      simp only [↓EVP0, EVQ0, EVQ1, EVQ2, EVQ3, EVQ4, EVA, EVK, EVFD,EVFT, ↓reduceIte, Nat.reduceEqDiff, Nat.reduceAdd, Nat.reduceSub, Nat.reduceMul, Nat.reduceLT, Nat.reduceLeDiff, reduceCtorEq, Int.reduceToNat, Int.reduceLT, Int.reduceLE, Int.reduceAdd, Int.reduceSub, Int.reduceMul, Int.reduceNeg, Int.reduceEq, Nat.reduceMod, forall_eq_or_imp, forall_eq, forall_const, EVY, true_imp_iff, implies_true, Int.cast_ofNat_Int, forall_eq']
    | true =>
      rw [hb, if_pos rfl] at hr
      subst hr
      refine ⟨fun h => (by cases h), fun _ => ?_⟩
      unfold netV
      simp only [↓EVP0, EVQ0, EVQ1, EVQ2, EVQ3, EVQ4, EVA, EVK, EVFD,EVFT, ↓reduceIte, Nat.reduceEqDiff, Nat.reduceAdd, Nat.reduceSub, Nat.reduceMul, Nat.reduceLT, Nat.reduceLeDiff, reduceCtorEq, Int.reduceToNat, Int.reduceLT, Int.reduceLE, Int.reduceAdd, Int.reduceSub, Int.reduceMul, Int.reduceNeg, Int.reduceEq, Nat.reduceMod, forall_eq_or_imp, forall_eq, forall_const, EVY, true_imp_iff, implies_true, Int.cast_ofNat_Int, forall_eq']
      exact ⟨⟨⟨Nat.le_refl _, fun k hk => by rw [apF_rt hk]; rfl⟩, fun k hk => apF_rt hk⟩, ⟨Nat.le_refl _, fun k hk => by rw [apF_fl hk]; rfl⟩, fun k hk => apF_fl hk⟩
end Go.Proofs.YtdfiicpikcdokaaGreatDoor
namespace Go.Proofs.YtdfiicpikcdokaaGreatDoor
set_option linter.unusedSimpArgs false
set_option linter.unusedVariables false
open Go.RowKit
set_option maxRecDepth 20000

theorem wne : wLnk ≠ wFlw := by decide
theorem add_radd (n : Nt) (ws : List By) : (addN n ws).2 = (raddN n ws).2 ∧ ((raddN n ws).2 = true → (addN n ws).1 = (raddN n ws).1) := by
  have hf := flwA_eq (ws.drop 1)
  unfold addN raddN
  by_cases h1 : ws.getD 0 [] = wLnk
  · rw [if_pos h1]
    have h2 : ¬ (ws.getD 0 [] = wFlw ∧ (rflE (ws.drop 1)).2 = true) := fun h => wne (h1.symm.trans h.1)
    by_cases h3 : ws.length = 2 ∧ n.fls = []
    · rw [if_pos h3, if_pos ⟨h1, h3⟩]
      rcases rp_prs2 (ws.getD 1 []) with ⟨r, h4, h5⟩ | ⟨h4, h5⟩
      · rw [h4, h5]; exact ⟨rfl, fun _ => rfl⟩
      · rw [h4, h5]; exact ⟨rfl, fun h => by cases h⟩
    · rw [if_neg h3, if_neg (fun h => h3 h.2), if_neg h2]
      exact ⟨rfl, fun h => by cases h⟩
  · have h1' : ¬ (ws.getD 0 [] = wLnk ∧ ws.length = 2 ∧ n.fls = []) := fun h => h1 h.1
    rw [if_neg h1, if_neg h1']
    by_cases h2 : ws.getD 0 [] = wFlw
    · rw [if_pos h2]
      unfold flwA at hf
      cases hl : lnkE (ws.drop 1) [] with
      | none =>
        rw [hl] at hf
        by_cases h3 : (rflE (ws.drop 1)).2 = true
        · rw [if_pos h3] at hf; cases hf
        · rw [if_neg (fun h => h3 h.2)]; exact ⟨rfl, fun h => by cases h⟩
      | some q =>
        obtain ⟨l, r⟩ := q
        rw [hl] at hf
        simp only at hf ⊢
        by_cases h4 : r = []
        · rw [if_pos h4] at hf ⊢
          by_cases h5 : l ≠ []
          · rw [if_pos h5] at hf
            by_cases h3 : (rflE (ws.drop 1)).2 = true
            · rw [if_pos h3] at hf
              rw [if_pos ⟨h2, h3⟩]
              have hf := Option.some.inj hf
              exact ⟨decide_eq_true h5, fun _ => by rw [← hf]⟩
            · rw [if_neg h3] at hf; cases hf
          · rw [if_neg h5] at hf
            by_cases h3 : (rflE (ws.drop 1)).2 = true
            · rw [if_pos h3] at hf; cases hf
            · rw [if_neg (fun h => h3 h.2)]; exact ⟨decide_eq_false h5, fun h => by cases h⟩
        · rw [if_neg h4] at hf ⊢
          by_cases h6 : r.length = 2 ∧ (prsQ (r.getD 1 [])).2 = 0
          · rw [if_pos h6]
            by_cases h5 : l ≠ []
            · rw [if_pos ⟨h6.1, h6.2, h5⟩] at hf
              by_cases h3 : (rflE (ws.drop 1)).2 = true
              · rw [if_pos h3] at hf
                rw [if_pos ⟨h2, h3⟩]
                have hf := Option.some.inj hf
                exact ⟨decide_eq_true h5, fun _ => by rw [← hf]⟩
              · rw [if_neg h3] at hf; cases hf
            · rw [if_neg (fun h => h5 h.2.2)] at hf
              by_cases h3 : (rflE (ws.drop 1)).2 = true
              · rw [if_pos h3] at hf; cases hf
              · rw [if_neg (fun h => h3 h.2)]; exact ⟨decide_eq_false h5, fun h => by cases h⟩
          · rw [if_neg h6]
            rw [if_neg (fun h => h6 ⟨h.1, h.2.1⟩)] at hf
            by_cases h3 : (rflE (ws.drop 1)).2 = true
            · rw [if_pos h3] at hf; cases hf
            · rw [if_neg (fun h => h3 h.2)]; exact ⟨rfl, fun h => by cases h⟩
    · have h2' : ¬ (ws.getD 0 [] = wFlw ∧ (rflE (ws.drop 1)).2 = true) := fun h => h2 h.1
      rw [if_neg h2, if_neg h2']; exact ⟨rfl, fun h => by cases h⟩
theorem line_fnd {s : By} (h : (cutE 10 s).2.2 = true) : (lineE s).getLast? = some 10 ∧ cutL10 (lineE s) = (cutE 10 s).1 := by
  have h1 : lineE s = (cutE 10 s).1 ++ [10] := by unfold lineE; rw [if_pos h]
  have h2 : (lineE s).getLast? = some 10 := by rw [h1]; simp
  refine ⟨h2, ?_⟩
  unfold cutL10
  rw [if_pos h2, h1, List.dropLast_concat]
theorem line_nf {s : By} (h : ¬ (cutE 10 s).2.2 = true) : (lineE s).getLast? ≠ some 10 := by
  have h1 : lineE s = (cutE 10 s).1 := by unfold lineE; rw [if_neg h]
  rw [h1]
  intro e
  have hm := List.mem_of_getLast? e
  obtain ⟨j, hj, hj2⟩ := List.mem_iff_getElem.1 hm
  have hcf := cut_free10 s j hj
  rcases idx_cut 10 s with ⟨_, _, h3, _⟩ | ⟨i, h3, _⟩
  · apply hcf
    have h4 : (cutE 10 s).1.getD j 0 = 10 := by rw [List.getD_eq_getElem?_getD, List.getElem?_eq_getElem hj, hj2]; rfl
    rw [h3] at h4; exact h4
  · exact h h3
theorem prs_eq : ∀ (k : Nat) (s : By), s.length ≤ k → ∀ (n : Nt) (i : Int), prs33 s n i = rprs33 s n i
  | k, s, hk, n, i => by
    rw [prs33, rprs33]
    by_cases e : s = []
    · rw [dif_pos e, dif_pos e]
    · rw [dif_neg e, dif_neg e]
      by_cases h : (cutE 10 s).2.2 = true
      · obtain ⟨h1, h2⟩ := line_fnd h
        obtain ⟨h3, h4⟩ := add_radd n (splE 32 (cutE 10 s).1)
        rw [h2, h3]
        by_cases h5 : (raddN n (splE 32 (cutE 10 s).1)).2 = true
        · rw [if_pos ⟨h1, h5⟩, if_pos ⟨h, h5⟩, h4 h5]
          have := rest_lt e
          cases k with
          | zero => omega
          | succ k => exact prs_eq k (restE s) (by omega) _ _
        · rw [if_neg (fun h => h5 h.2), if_neg (fun h => h5 h.2)]
      · rw [if_neg (fun h2 => line_nf h h2.1), if_neg (fun h2 => h h2.1)]
theorem parse_eq (s : By) : parse33 s = rparse33 s := by
  unfold parse33 rparse33
  rw [prs_eq s.length s (Nat.le_refl _)]
end Go.Proofs.YtdfiicpikcdokaaGreatDoor
namespace Go.Proofs.YtdfiicpikcdokaaGreatDoor
set_option linter.unusedSimpArgs false
set_option linter.unusedVariables false
open Go.RowKit
set_option maxRecDepth 20000

def jnT (ws : List By) : By := (ws.map fun w => 32 :: w).flatten
theorem jnT_cons (w : By) (ws : List By) : jnT (w :: ws) = 32 :: (w ++ jnT ws) := by simp [jnT]
theorem jnT_app (a b : List By) : jnT (a ++ b) = jnT a ++ jnT b := by simp [jnT]
theorem jn_spl : ∀ s : By, jnT (splE 32 s) = 32 :: s
  | [] => rfl
  | b :: r => by
    have ih := jn_spl r
    by_cases e : b = 32
    · have h : splE 32 (b :: r) = [] :: splE 32 r := by show (if b = 32 then _ else _) = _; rw [if_pos e]
      rw [h, jnT_cons, ih, e]; rfl
    · have h : splE 32 (b :: r) = match splE 32 r with
        | [] => [[b]]
        | w :: ws => (b :: w) :: ws := by show (if b = 32 then _ else _) = _; rw [if_neg e]; rfl
      rw [h]
      revert ih
      cases splE 32 r with
      | nil => intro ih; cases ih
      | cons v vs =>
        intro ih
        rw [jnT_cons] at ih
        have ih := (List.cons.inj ih).2
        simp only
        rw [jnT_cons, List.cons_append, ih]
def capT (c : Rt) : By := wLnk ++ jnT [txtQ c]
def flwW (f : Fl) : List By := f.links.map Lib.itoa ++ (if f.bnd = true then [wMx, txtQ f.dem] else [])
def flwT (f : Fl) : By := wFlw ++ jnT (flwW f)
def netT (n : Nt) : By := (n.caps.map fun c => capT c ++ [10]).flatten ++ (n.fls.map fun f => flwT f ++ [10]).flatten
end Go.Proofs.YtdfiicpikcdokaaGreatDoor
namespace Go.Proofs.YtdfiicpikcdokaaGreatDoor
set_option linter.unusedSimpArgs false
set_option linter.unusedVariables false
open Go.RowKit
set_option maxRecDepth 20000

theorem scan_inv : ∀ (ws : List By) (acc l : List Int), scanE ws acc = (l, true) → ∃ t, l = acc ++ t ∧ ws = t.map Lib.itoa
  | [], acc, l, h => by
    have h : (acc, true) = (l, true) := h
    cases h
    exact ⟨[], by simp, rfl⟩
  | w :: r, acc, l, h => by
    have h : (match nm3 w with
      | none => (acc, false)
      | some u => scanE r (acc ++ [(u : Int)])) = (l, true) := h
    cases hn : nm3 w with
    | none => rw [hn] at h; cases h
    | some u =>
      rw [hn] at h
      obtain ⟨t, h1, h2⟩ := scan_inv r _ l h
      refine ⟨(u : Int) :: t, by rw [h1]; simp, ?_⟩
      rw [List.map_cons, ← h2, itP (by omega)]
      congr 1
      rw [show ((u : Int)).toNat = u by omega]
      exact (nm3_inv hn).1
theorem netT_cap {n : Nt} (hn : n.fls = []) (r : Rt) : netT ⟨n.caps ++ [r], n.fls⟩ = netT n ++ (capT r ++ [10]) := by
  unfold netT
  rw [hn]; simp
theorem netT_fl (n : Nt) (f : Fl) : netT ⟨n.caps, n.fls ++ [f]⟩ = netT n ++ (flwT f ++ [10]) := by
  unfold netT
  simp
theorem spl_back {l w : By} {ws : List By} (h : splE 32 l = w :: ws) : l = w ++ jnT ws := by
  have h1 := jn_spl l
  rw [h, jnT_cons] at h1
  exact (List.cons.inj h1).2.symm
theorem add_text {n n' : Nt} {l : By} (h : addN n (splE 32 l) = (n', true)) : netT n' = netT n ++ (l ++ [10]) := by
  cases hw : splE 32 l with
  | nil => exact absurd hw (splE_ne 32 l)
  | cons w0 ws =>
    have hl := spl_back hw
    rw [hw] at h
    unfold addN at h
    simp only [List.getD_cons_zero, List.drop_succ_cons, List.drop_zero] at h
    by_cases h1 : w0 = wLnk
    · rw [if_pos h1] at h
      by_cases h2 : (w0 :: ws).length = 2 ∧ n.fls = []
      · rw [if_pos h2] at h
        match ws, h2.1 with
        | [w1], _ =>
          simp only [List.getD_cons_succ, List.getD_cons_zero] at h
          rcases prs_cases w1 with ⟨r, h3, h4, h5, h6⟩ | h3
          · rw [h3] at h
            have h := congrArg Prod.fst h
            simp only at h
            rw [← h, netT_cap h2.2, hl, h1, ← h5]; rfl
          · rw [h3] at h
            have h := congrArg Prod.snd h
            simp at h
      · rw [if_neg h2] at h
        have h := congrArg Prod.snd h
        cases h
    · rw [if_neg h1] at h
      by_cases h2 : w0 = wFlw
      · rw [if_pos h2] at h
        cases hk : lnkE ws [] with
        | none => rw [hk] at h; have h := congrArg Prod.snd h; cases h
        | some q =>
          obtain ⟨lk, r⟩ := q
          rw [hk] at h
          simp only at h
          obtain ⟨pre, h3, h4, h5⟩ := lnk_inv _ _ _ _ hk
          obtain ⟨t, h6, h7⟩ := scan_inv _ _ _ h4
          rw [List.nil_append] at h6
          subst h6
          by_cases h8 : r = []
          · rw [if_pos h8] at h
            have h := congrArg Prod.fst h
            simp only at h
            rw [← h, netT_fl, hl, h2, h3, h7, h8]
            unfold flwT flwW
            simp
          · rw [if_neg h8] at h
            by_cases h9 : r.length = 2 ∧ (prsQ (r.getD 1 [])).2 = 0
            · rw [if_pos h9] at h
              match r, h9.1, h8 with
              | [a, w1], _, _ =>
                have ha : a = wMx := by
                  rcases h5 with h5 | h5
                  · cases h5
                  · exact h5
                simp only [List.getD_cons_succ, List.getD_cons_zero] at h h9
                rcases prs_cases w1 with ⟨d, h10, h11, h12, h13⟩ | h10
                · rw [h10] at h
                  have h := congrArg Prod.fst h
                  simp only at h
                  rw [← h, netT_fl, hl, h2, h3, h7, ha, ← h12]
                  unfold flwT flwW
                  simp
                · rw [h10] at h9; simp at h9
            · rw [if_neg h9] at h
              have h := congrArg Prod.snd h
              cases h
      · rw [if_neg h2] at h
        have h := congrArg Prod.snd h
        cases h
theorem prs_text : ∀ (k : Nat) (s : By), s.length ≤ k → ∀ (n m : Nt) (i a : Int), prs33 s n i = (m, a, 0) → netT m = netT n ++ s ∧ vldN m = true
  | k, s, hk, n, m, i, a, h => by
    rw [prs33] at h
    by_cases e : s = []
    · rw [dif_pos e] at h
      by_cases hv : vldN n = true
      · rw [if_pos hv] at h
        have h := congrArg Prod.fst h
        simp only at h
        rw [← h, e, List.append_nil]
        exact ⟨rfl, hv⟩
      · rw [if_neg hv] at h
        have h := congrArg (fun x => x.2.2) h
        simp at h
    · rw [dif_neg e] at h
      by_cases hf : (cutE 10 s).2.2 = true
      · obtain ⟨h1, h2⟩ := line_fnd hf
        rw [h2] at h
        by_cases h3 : (addN n (splE 32 (cutE 10 s).1)).2 = true
        · rw [if_pos ⟨h1, h3⟩] at h
          have h4 := rest_lt e
          have h5 := add_text (n := n) (l := (cutE 10 s).1) (n' := (addN n (splE 32 (cutE 10 s).1)).1) (Prod.ext rfl h3)
          cases k with
          | zero => omega
          | succ k =>
            obtain ⟨h6, h7⟩ := prs_text k (restE s) (by omega) _ _ _ _ h
            refine ⟨?_, h7⟩
            rw [h6, h5, List.append_assoc, List.append_assoc]
            congr 1
            have hj := cutJ 10 s hf
            conv => rhs; rw [hj]
            rfl
        · rw [if_neg (fun h => h3 h.2)] at h
          have h := congrArg (fun x => x.2.2) h
          simp at h
      · rw [if_neg (fun h2 => line_nf hf h2.1)] at h
        have h := congrArg (fun x => x.2.2) h
        simp at h
theorem itS_str (x : Int) : itS x = strB (Lib.itoa x) := rfl
theorem txtR_str (r : Rt) : txtR r = strB (txtQ r) := by
  unfold txtR txtQ
  split
  · split
    · rw [itS_str, itS_str, show (⟨#[47]⟩ : ByteArray) = strB [47] from rfl, strB_app, strB_app]; rfl
    · rfl
  · rfl
theorem txtC_eq (c : Rt) : (txtC c).data.toList = capT c ++ [10] := by
  unfold txtC
  rw [txtR_str, show ({ data := #[108, 105, 110, 107, 32] } : ByteArray) = strB [108, 105, 110, 107, 32] from rfl, show ({ data := #[10] } : ByteArray) = strB [10] from rfl, strB_app, strB_app, strB_data]
  unfold capT jnT wLnk
  simp
theorem txtL_eq (l : List Int) : txtL l = jnT (l.map Lib.itoa) := by
  unfold txtL jnT
  rw [List.map_map]
  congr 1
theorem txtF_eq (f : Fl) : txtF f = flwT f ++ [10] := by
  unfold txtF flwT flwW
  rw [txtL_eq, jnT_app, txtR_str]
  cases f.bnd with
  | false => simp [jnT, wFlw]
  | true =>
    simp only [if_true]
    rw [show ({ data := #[32, 109, 97, 120, 32] } : ByteArray) = strB [32, 109, 97, 120, 32] from rfl, strB_app, strB_data]
    simp [jnT, wFlw, wMx]
theorem fmt_net {n : Nt} (hv : vldN n = true) : fmtN n = (strB (netT n), 0) := by
  unfold fmtN netT txtCs txtFs
  rw [if_pos hv]
  have h1 : (n.caps.map fun c => (txtC c).data.toList) = n.caps.map fun c => capT c ++ [10] := List.map_congr_left fun c _ => txtC_eq c
  have h2 : n.fls.map txtF = n.fls.map fun f => flwT f ++ [10] := List.map_congr_left fun f _ => txtF_eq f
  rw [h1, h2]; rfl
end Go.Proofs.YtdfiicpikcdokaaGreatDoor
namespace Go.Proofs.YtdfiicpikcdokaaGreatDoor
set_option linter.unusedSimpArgs false
set_option linter.unusedVariables false
open Go.RowKit
set_option maxRecDepth 20000

theorem lk64 {n : Nt} (hV : VldN n) {f : Fl} (hf : f ∈ n.fls) : ∀ x, x ∈ f.links → In64 x := fun x hx => by
  have := hV.link f hf x hx
  have := hV.nc
  unfold In64; omega
end Go.Proofs.YtdfiicpikcdokaaGreatDoor
namespace Go.Proofs.YtdfiicpikcdokaaGreatDoor
set_option linter.unusedSimpArgs false
set_option linter.unusedVariables false
open Go.RowKit
set_option maxRecDepth 20000

structure SmN (a b : Nt) : Prop where
  nc : a.caps.length = b.caps.length
  nf : a.fls.length = b.fls.length
  cap : ∀ i, i < a.caps.length → fullR (a.caps.getD i default) = fullR (b.caps.getD i default)
  fl : ∀ j, j < a.fls.length → (a.fls.getD j default).links = (b.fls.getD j default).links ∧ (a.fls.getD j default).bnd = (b.fls.getD j default).bnd ∧ fullR (a.fls.getD j default).dem = fullR (b.fls.getD j default).dem
theorem sm_refl (a : Nt) : SmN a a := ⟨rfl, rfl, fun _ _ => rfl, fun _ _ => ⟨rfl, rfl, rfl⟩⟩
theorem ev_sameV (a b : Rt) (h : fullR a = fullR b) : Ev Tryz.prog 29 [ratV a, ratV b] (.sc (.bool true)) := by
  have f1 := ev_full a
  have f2 := ev_full b
  rw [h] at f1
  unfold ratV at *
  refine ev_fn Tryz.func29 comp29 (show 2 ≤ Tryz.f29.ntmps by decide) ?_; unfold cf29 rf29; simp only [↓EVP0, EVQ0, EVQ1, EVQ2, EVQ3, EVQ4, EVA, EVK, EVFD,EVFT, ↓reduceIte, Nat.reduceEqDiff, Nat.reduceAdd, Nat.reduceSub, Nat.reduceMul, Nat.reduceLT, Nat.reduceLeDiff, reduceCtorEq, Int.reduceToNat, Int.reduceLT, Int.reduceLE, Int.reduceAdd, Int.reduceSub, Int.reduceMul, Int.reduceNeg, Int.reduceEq, Nat.reduceMod, forall_eq_or_imp, forall_eq, forall_const, EVY, true_imp_iff, implies_true, Int.cast_ofNat_Int, forall_eq']
  first | refine qCallK_ro (f1) ?_ ?_ | refine eCallK_ro (f1) ?_ ?_
  · simp only [↓EVP0, EVQ0, EVQ1, EVQ2, EVQ3, EVQ4, EVA, EVK, EVFD,EVFT, ↓reduceIte, Nat.reduceEqDiff, Nat.reduceAdd, Nat.reduceSub, Nat.reduceMul, Nat.reduceLT, Nat.reduceLeDiff, reduceCtorEq, Int.reduceToNat, Int.reduceLT, Int.reduceLE, Int.reduceAdd, Int.reduceSub, Int.reduceMul, Int.reduceNeg, Int.reduceEq, Nat.reduceMod, forall_eq_or_imp, forall_eq, forall_const, EVY, true_imp_iff, implies_true, Int.cast_ofNat_Int, forall_eq']
  simp only [↓EVP0, EVQ0, EVQ1, EVQ2, EVQ3, EVQ4, EVA, EVK, EVFD,EVFT, ↓reduceIte, Nat.reduceEqDiff, Nat.reduceAdd, Nat.reduceSub, Nat.reduceMul, Nat.reduceLT, Nat.reduceLeDiff, reduceCtorEq, Int.reduceToNat, Int.reduceLT, Int.reduceLE, Int.reduceAdd, Int.reduceSub, Int.reduceMul, Int.reduceNeg, Int.reduceEq, Nat.reduceMod, forall_eq_or_imp, forall_eq, forall_const, EVY, true_imp_iff, implies_true, Int.cast_ofNat_Int, forall_eq']
  first | refine qCallK_ro (f2) ?_ ?_ | refine eCallK_ro (f2) ?_ ?_
  · simp only [↓EVP0, EVQ0, EVQ1, EVQ2, EVQ3, EVQ4, EVA, EVK, EVFD,EVFT, ↓reduceIte, Nat.reduceEqDiff, Nat.reduceAdd, Nat.reduceSub, Nat.reduceMul, Nat.reduceLT, Nat.reduceLeDiff, reduceCtorEq, Int.reduceToNat, Int.reduceLT, Int.reduceLE, Int.reduceAdd, Int.reduceSub, Int.reduceMul, Int.reduceNeg, Int.reduceEq, Nat.reduceMod, forall_eq_or_imp, forall_eq, forall_const, EVY, true_imp_iff, implies_true, Int.cast_ofNat_Int, forall_eq']
  simp only [↓EVP0, EVQ0, EVQ1, EVQ2, EVQ3, EVQ4, EVA, EVK, EVFD,EVFT, ↓reduceIte, Nat.reduceEqDiff, Nat.reduceAdd, Nat.reduceSub, Nat.reduceMul, Nat.reduceLT, Nat.reduceLeDiff, reduceCtorEq, Int.reduceToNat, Int.reduceLT, Int.reduceLE, Int.reduceAdd, Int.reduceSub, Int.reduceMul, Int.reduceNeg, Int.reduceEq, Nat.reduceMod, forall_eq_or_imp, forall_eq, forall_const, EVY, true_imp_iff, implies_true, Int.cast_ofNat_Int, forall_eq']
theorem ev_rsame33 (a b : Nt) (h : SmN a b) (hc40 : a.caps.length ≤ 40) (hf40 : a.fls.length ≤ 40) : Ev Tryz.prog 12 [netV a, netV b] (.sc (.bool true)) := by
  have hnc := h.nc
  have hnf := h.nf
  unfold netV
  refine ev_fn Tryz.func12 comp12 (show 2 ≤ Tryz.f12.ntmps by decide) ?_; unfold cf12 rf12; simp only [↓EVP0, EVQ0, EVQ1, EVQ2, EVQ3, EVQ4, EVA, EVK, EVFD,EVFT, ↓reduceIte, Nat.reduceEqDiff, Nat.reduceAdd, Nat.reduceSub, Nat.reduceMul, Nat.reduceLT, Nat.reduceLeDiff, reduceCtorEq, Int.reduceToNat, Int.reduceLT, Int.reduceLE, Int.reduceAdd, Int.reduceSub, Int.reduceMul, Int.reduceNeg, Int.reduceEq, Nat.reduceMod, forall_eq_or_imp, forall_eq, forall_const, EVY, true_imp_iff, implies_true, Int.cast_ofNat_Int, forall_eq']
  rw [← hnc, ← hnf]
  intro _ _
  rw [decide_eq_true (rfl : (a.caps.length : Int) = a.caps.length), decide_eq_true (rfl : (a.fls.length : Int) = a.fls.length)]
  refine ⟨fun h => (by cases h), fun _ => ?_⟩
  refine lwp_for (α := Unit) a.caps.length (fun i _ => True) (fun i _ => [(2, .ptr 0 0 0 0 0), (3, .ptr 1 0 0 0 0), (5, .sc (.int .i64 (i : Nat)))]) (fun i _ => [(0, .box [.rsl 2 a.caps.length (rtsF a.caps), .rsl 4 a.fls.length (flsF a.fls)]), (0, .box [.rsl 2 a.caps.length (rtsF b.caps), .rsl 4 a.fls.length (flsF b.fls)])]) () trivial ?_ (fun _ _ => Nat.zero_le _) ?_
  · simp only [↓EVP0, EVQ0, EVQ1, EVQ2, EVQ3, EVQ4, EVA, EVK, EVFD,EVFT, ↓reduceIte, Nat.reduceEqDiff, Nat.reduceAdd, Nat.reduceSub, Nat.reduceMul, Nat.reduceLT, Nat.reduceLeDiff, reduceCtorEq, Int.reduceToNat, Int.reduceLT, Int.reduceLE, Int.reduceAdd, Int.reduceSub, Int.reduceMul, Int.reduceNeg, Int.reduceEq, Nat.reduceMod, forall_eq_or_imp, forall_eq, forall_const, EVY, true_imp_iff, implies_true, Int.cast_ofNat_Int, forall_eq']
  intro i _ hi _
  unfold lb12_2
  have h1 := fun h => ev_sameV (a.caps.getD i default) (b.caps.getD i default) h
  simp only [↓EVP0, EVQ0, EVQ1, EVQ2, EVQ3, EVQ4, EVA, EVK, EVFD,EVFT, ↓reduceIte, Nat.reduceEqDiff, Nat.reduceAdd, Nat.reduceSub, Nat.reduceMul, Nat.reduceLT, Nat.reduceLeDiff, reduceCtorEq, Int.reduceToNat, Int.reduceLT, Int.reduceLE, Int.reduceAdd, Int.reduceSub, Int.reduceMul, Int.reduceNeg, Int.reduceEq, Nat.reduceMod, forall_eq_or_imp, forall_eq, forall_const, EVY, true_imp_iff, implies_true, Int.cast_ofNat_Int, forall_eq']
  refine fun _ => ⟨fun hg => ?_, fun hg => ?_⟩
  · have hi2 : i < a.caps.length := by have := of_decide_eq_true hg; omega
    have h1 := h1 (h.cap i hi2)
    unfold ratV at h1
    refine ⟨⟨by omega, by omega⟩, ⟨by omega, by omega⟩, ?_⟩
    first | refine qCallK_ro (h1) ?_ ?_ | refine eCallK_ro (h1) ?_ ?_
    · simp only [↓EVP0, EVQ0, EVQ1, EVQ2, EVQ3, EVQ4, EVA, EVK, EVFD,EVFT, ↓reduceIte, Nat.reduceEqDiff, Nat.reduceAdd, Nat.reduceSub, Nat.reduceMul, Nat.reduceLT, Nat.reduceLeDiff, reduceCtorEq, Int.reduceToNat, Int.reduceLT, Int.reduceLE, Int.reduceAdd, Int.reduceSub, Int.reduceMul, Int.reduceNeg, Int.reduceEq, Nat.reduceMod, forall_eq_or_imp, forall_eq, forall_const, EVY, true_imp_iff, implies_true, Int.cast_ofNat_Int, forall_eq']
    simp only [↓EVP0, EVQ0, EVQ1, EVQ2, EVQ3, EVQ4, EVA, EVK, EVFD,EVFT, ↓reduceIte, Nat.reduceEqDiff, Nat.reduceAdd, Nat.reduceSub, Nat.reduceMul, Nat.reduceLT, Nat.reduceLeDiff, reduceCtorEq, Int.reduceToNat, Int.reduceLT, Int.reduceLE, Int.reduceAdd, Int.reduceSub, Int.reduceMul, Int.reduceNeg, Int.reduceEq, Nat.reduceMod, forall_eq_or_imp, forall_eq, forall_const, EVY, true_imp_iff, implies_true, Int.cast_ofNat_Int, forall_eq']
    exact ⟨by unfold In64; omega, hi2, (), trivial⟩
  have hi2 : i = a.caps.length := by have := of_decide_eq_false hg; omega
  subst hi2
  refine lwp_for (α := Unit) a.fls.length (fun j _ => True) (fun j _ => [(2, .ptr 0 0 0 0 0), (3, .ptr 1 0 0 0 0), (6, .sc (.int .i64 (j : Nat)))]) (fun i _ => [(0, .box [.rsl 2 a.caps.length (rtsF a.caps), .rsl 4 a.fls.length (flsF a.fls)]), (0, .box [.rsl 2 a.caps.length (rtsF b.caps), .rsl 4 a.fls.length (flsF b.fls)])]) () trivial ?_ (fun _ _ => Nat.zero_le _) ?_
  · simp only [↓EVP0, EVQ0, EVQ1, EVQ2, EVQ3, EVQ4, EVA, EVK, EVFD,EVFT, ↓reduceIte, Nat.reduceEqDiff, Nat.reduceAdd, Nat.reduceSub, Nat.reduceMul, Nat.reduceLT, Nat.reduceLeDiff, reduceCtorEq, Int.reduceToNat, Int.reduceLT, Int.reduceLE, Int.reduceAdd, Int.reduceSub, Int.reduceMul, Int.reduceNeg, Int.reduceEq, Nat.reduceMod, forall_eq_or_imp, forall_eq, forall_const, EVY, true_imp_iff, implies_true, Int.cast_ofNat_Int, forall_eq']
  intro j _ hj _
  unfold lb12_1
  have h2 := fun h => ev_sameV (a.fls.getD j default).dem (b.fls.getD j default).dem h
  simp only [↓EVP0, EVQ0, EVQ1, EVQ2, EVQ3, EVQ4, EVA, EVK, EVFD,EVFT, ↓reduceIte, Nat.reduceEqDiff, Nat.reduceAdd, Nat.reduceSub, Nat.reduceMul, Nat.reduceLT, Nat.reduceLeDiff, reduceCtorEq, Int.reduceToNat, Int.reduceLT, Int.reduceLE, Int.reduceAdd, Int.reduceSub, Int.reduceMul, Int.reduceNeg, Int.reduceEq, Nat.reduceMod, forall_eq_or_imp, forall_eq, forall_const, EVY, true_imp_iff, implies_true, Int.cast_ofNat_Int, forall_eq']
  refine fun _ => ⟨fun hg => ?_, fun hg => trivial⟩
  have hj2 : j < a.fls.length := by have := of_decide_eq_true hg; omega
  refine lwp_join (α := Bool) (fun _ => True) (fun c => [(2, .ptr 0 0 0 0 0), (3, .ptr 1 0 0 0 0), (6, .sc (.int .i64 (j : Nat))), (7, .ptr (bif c then 2 else 3) 0 0 0 0), (8, .ptr (bif c then 3 else 2) 0 0 0 0)])
    (fun c => [(0, .box [.rsl 2 a.caps.length (rtsF a.caps), .rsl 4 a.fls.length (flsF a.fls)]), (0, .box [.rsl 2 a.caps.length (rtsF b.caps), .rsl 4 a.fls.length (flsF b.fls)]), (0, .box (flL (bif c then a.fls.getD j default else b.fls.getD j default))), (0, .box (flL (bif c then b.fls.getD j default else a.fls.getD j default)))]) (fun c => Nat.zero_le _) ?_ ?_
  · simp only [↓EVP0, EVQ0, EVQ1, EVQ2, EVQ3, EVQ4, EVA, EVK, EVFD,EVFT, ↓reduceIte, Nat.reduceEqDiff, Nat.reduceAdd, Nat.reduceSub, Nat.reduceMul, Nat.reduceLT, Nat.reduceLeDiff, reduceCtorEq, Int.reduceToNat, Int.reduceLT, Int.reduceLE, Int.reduceAdd, Int.reduceSub, Int.reduceMul, Int.reduceNeg, Int.reduceEq, Nat.reduceMod, forall_eq_or_imp, forall_eq, forall_const, EVY, true_imp_iff, implies_true, Int.cast_ofNat_Int, forall_eq']
    repeat' first
      | exact ⟨by omega, by omega⟩
      | exact ⟨true, ⟨rfl, by decide, rfl, by decide⟩, rfl, ⟨trivial, trivial, trivial, trivial, trivial⟩, rfl, ⟨trivial, trivial, trivial, trivial, trivial⟩⟩
      | exact ⟨false, ⟨rfl, by decide, rfl, by decide⟩, rfl, ⟨trivial, trivial, trivial, trivial, trivial⟩, rfl, ⟨trivial, trivial, trivial, trivial, trivial⟩⟩
      | refine ⟨?_, ?_⟩
  obtain ⟨g1, g2, g3⟩ := h.fl j hj2
  have h2 := h2 g3
  unfold ratV at h2
  rintro c _
  cases c
  · simp only [cond_false]
    unfold flL
    simp only [↓EVP0, EVQ0, EVQ1, EVQ2, EVQ3, EVQ4, EVA, EVK, EVFD,EVFT, ↓reduceIte, Nat.reduceEqDiff, Nat.reduceAdd, Nat.reduceSub, Nat.reduceMul, Nat.reduceLT, Nat.reduceLeDiff, reduceCtorEq, Int.reduceToNat, Int.reduceLT, Int.reduceLE, Int.reduceAdd, Int.reduceSub, Int.reduceMul, Int.reduceNeg, Int.reduceEq, Nat.reduceMod, forall_eq_or_imp, forall_eq, forall_const, EVY, true_imp_iff, implies_true, Int.cast_ofNat_Int, forall_eq']
    rw [← g1, ← g2]
    generalize (a.fls.getD j default).links = lk at *
    generalize (a.fls.getD j default).bnd = bn at *
    generalize (a.fls.getD j default).dem = da at *
    generalize (b.fls.getD j default).dem = db at *
    rw [show (true ^^ decide (bn = bn)) = false by simp]
    (refine lops_ge_imp ?_; simp only [↓EVP0, EVQ0, EVQ1, EVQ2, EVQ3, EVQ4, EVA, EVK, EVFD,EVFT, ↓reduceIte, Nat.reduceEqDiff, Nat.reduceAdd, Nat.reduceSub, Nat.reduceMul, Nat.reduceLT, Nat.reduceLeDiff, reduceCtorEq, Int.reduceToNat, Int.reduceLT, Int.reduceLE, Int.reduceAdd, Int.reduceSub, Int.reduceMul, Int.reduceNeg, Int.reduceEq, Nat.reduceMod, forall_eq_or_imp, forall_eq, forall_const, EVY, true_imp_iff, implies_true, Int.cast_ofNat_Int, forall_eq'])
    refine gCallK_ro _ (fun _ => h2) (fun _ => ?_) ?_
    · simp only [↓EVP0, EVQ0, EVQ1, EVQ2, EVQ3, EVQ4, EVA, EVK, EVFD,EVFT, ↓reduceIte, Nat.reduceEqDiff, Nat.reduceAdd, Nat.reduceSub, Nat.reduceMul, Nat.reduceLT, Nat.reduceLeDiff, reduceCtorEq, Int.reduceToNat, Int.reduceLT, Int.reduceLE, Int.reduceAdd, Int.reduceSub, Int.reduceMul, Int.reduceNeg, Int.reduceEq, Nat.reduceMod, forall_eq_or_imp, forall_eq, forall_const, EVY, true_imp_iff, implies_true, Int.cast_ofNat_Int, forall_eq']
    simp only [↓EVP0, EVQ0, EVQ1, EVQ2, EVQ3, EVQ4, EVA, EVK, EVFD,EVFT, ↓reduceIte, Nat.reduceEqDiff, Nat.reduceAdd, Nat.reduceSub, Nat.reduceMul, Nat.reduceLT, Nat.reduceLeDiff, reduceCtorEq, Int.reduceToNat, Int.reduceLT, Int.reduceLE, Int.reduceAdd, Int.reduceSub, Int.reduceMul, Int.reduceNeg, Int.reduceEq, Nat.reduceMod, forall_eq_or_imp, forall_eq, forall_const, EVY, true_imp_iff, implies_true, Int.cast_ofNat_Int, forall_eq']
    refine lwp_for (α := Unit) lk.length (fun k _ => True) (fun k _ => [(2, .ptr 0 0 0 0 0), (3, .ptr 1 0 0 0 0), (6, .sc (.int .i64 (j : Nat))), (7, .ptr 3 0 0 0 0), (8, .ptr 2 0 0 0 0), (9, .sc (.int .i64 (k : Nat)))]) (fun _ _ => [(0, .box [.rsl 2 a.caps.length (rtsF a.caps), .rsl 4 a.fls.length (flsF a.fls)]), (0, .box [.rsl 2 a.caps.length (rtsF b.caps), .rsl 4 a.fls.length (flsF b.fls)]), (0, .box [.rsl 1 lk.length (intsF lk), .sc (.bool bn), .sc (.int .i64 db.n), .sc (.int .i64 db.d)]), (0, .box [.rsl 1 lk.length (intsF lk), .sc (.bool bn), .sc (.int .i64 da.n), .sc (.int .i64 da.d)])]) () trivial ?_ (fun _ _ => Nat.zero_le _) ?_
    · simp only [↓EVP0, EVQ0, EVQ1, EVQ2, EVQ3, EVQ4, EVA, EVK, EVFD,EVFT, ↓reduceIte, Nat.reduceEqDiff, Nat.reduceAdd, Nat.reduceSub, Nat.reduceMul, Nat.reduceLT, Nat.reduceLeDiff, reduceCtorEq, Int.reduceToNat, Int.reduceLT, Int.reduceLE, Int.reduceAdd, Int.reduceSub, Int.reduceMul, Int.reduceNeg, Int.reduceEq, Nat.reduceMod, forall_eq_or_imp, forall_eq, forall_const, EVY, true_imp_iff, implies_true, Int.cast_ofNat_Int, forall_eq']
    intro k _ hk _
    unfold lb12_0
    simp only [↓EVP0, EVQ0, EVQ1, EVQ2, EVQ3, EVQ4, EVA, EVK, EVFD,EVFT, ↓reduceIte, Nat.reduceEqDiff, Nat.reduceAdd, Nat.reduceSub, Nat.reduceMul, Nat.reduceLT, Nat.reduceLeDiff, reduceCtorEq, Int.reduceToNat, Int.reduceLT, Int.reduceLE, Int.reduceAdd, Int.reduceSub, Int.reduceMul, Int.reduceNeg, Int.reduceEq, Nat.reduceMod, forall_eq_or_imp, forall_eq, forall_const, EVY, true_imp_iff, implies_true, Int.cast_ofNat_Int, forall_eq']
    refine fun _ => ⟨fun hg => ?_, fun hg => ⟨by unfold In64; omega, hj2, (), trivial⟩⟩
    have hk2 : k < lk.length := by have := of_decide_eq_true hg; omega
    exact ⟨⟨by omega, by omega⟩, ⟨by omega, by omega⟩, by unfold In64; omega, hk2, (), trivial⟩
  · simp only [cond_true]
    unfold flL
    simp only [↓EVP0, EVQ0, EVQ1, EVQ2, EVQ3, EVQ4, EVA, EVK, EVFD,EVFT, ↓reduceIte, Nat.reduceEqDiff, Nat.reduceAdd, Nat.reduceSub, Nat.reduceMul, Nat.reduceLT, Nat.reduceLeDiff, reduceCtorEq, Int.reduceToNat, Int.reduceLT, Int.reduceLE, Int.reduceAdd, Int.reduceSub, Int.reduceMul, Int.reduceNeg, Int.reduceEq, Nat.reduceMod, forall_eq_or_imp, forall_eq, forall_const, EVY, true_imp_iff, implies_true, Int.cast_ofNat_Int, forall_eq']
    rw [← g1, ← g2]
    generalize (a.fls.getD j default).links = lk at *
    generalize (a.fls.getD j default).bnd = bn at *
    generalize (a.fls.getD j default).dem = da at *
    generalize (b.fls.getD j default).dem = db at *
    rw [show (true ^^ decide (bn = bn)) = false by simp]
    (refine lops_ge_imp ?_; simp only [↓EVP0, EVQ0, EVQ1, EVQ2, EVQ3, EVQ4, EVA, EVK, EVFD,EVFT, ↓reduceIte, Nat.reduceEqDiff, Nat.reduceAdd, Nat.reduceSub, Nat.reduceMul, Nat.reduceLT, Nat.reduceLeDiff, reduceCtorEq, Int.reduceToNat, Int.reduceLT, Int.reduceLE, Int.reduceAdd, Int.reduceSub, Int.reduceMul, Int.reduceNeg, Int.reduceEq, Nat.reduceMod, forall_eq_or_imp, forall_eq, forall_const, EVY, true_imp_iff, implies_true, Int.cast_ofNat_Int, forall_eq'])
    refine gCallK_ro _ (fun _ => h2) (fun _ => ?_) ?_
    · simp only [↓EVP0, EVQ0, EVQ1, EVQ2, EVQ3, EVQ4, EVA, EVK, EVFD,EVFT, ↓reduceIte, Nat.reduceEqDiff, Nat.reduceAdd, Nat.reduceSub, Nat.reduceMul, Nat.reduceLT, Nat.reduceLeDiff, reduceCtorEq, Int.reduceToNat, Int.reduceLT, Int.reduceLE, Int.reduceAdd, Int.reduceSub, Int.reduceMul, Int.reduceNeg, Int.reduceEq, Nat.reduceMod, forall_eq_or_imp, forall_eq, forall_const, EVY, true_imp_iff, implies_true, Int.cast_ofNat_Int, forall_eq']
    simp only [↓EVP0, EVQ0, EVQ1, EVQ2, EVQ3, EVQ4, EVA, EVK, EVFD,EVFT, ↓reduceIte, Nat.reduceEqDiff, Nat.reduceAdd, Nat.reduceSub, Nat.reduceMul, Nat.reduceLT, Nat.reduceLeDiff, reduceCtorEq, Int.reduceToNat, Int.reduceLT, Int.reduceLE, Int.reduceAdd, Int.reduceSub, Int.reduceMul, Int.reduceNeg, Int.reduceEq, Nat.reduceMod, forall_eq_or_imp, forall_eq, forall_const, EVY, true_imp_iff, implies_true, Int.cast_ofNat_Int, forall_eq']
    refine lwp_for (α := Unit) lk.length (fun k _ => True) (fun k _ => [(2, .ptr 0 0 0 0 0), (3, .ptr 1 0 0 0 0), (6, .sc (.int .i64 (j : Nat))), (7, .ptr 2 0 0 0 0), (8, .ptr 3 0 0 0 0), (9, .sc (.int .i64 (k : Nat)))]) (fun _ _ => [(0, .box [.rsl 2 a.caps.length (rtsF a.caps), .rsl 4 a.fls.length (flsF a.fls)]), (0, .box [.rsl 2 a.caps.length (rtsF b.caps), .rsl 4 a.fls.length (flsF b.fls)]), (0, .box [.rsl 1 lk.length (intsF lk), .sc (.bool bn), .sc (.int .i64 da.n), .sc (.int .i64 da.d)]), (0, .box [.rsl 1 lk.length (intsF lk), .sc (.bool bn), .sc (.int .i64 db.n), .sc (.int .i64 db.d)])]) () trivial ?_ (fun _ _ => Nat.zero_le _) ?_
    · simp only [↓EVP0, EVQ0, EVQ1, EVQ2, EVQ3, EVQ4, EVA, EVK, EVFD,EVFT, ↓reduceIte, Nat.reduceEqDiff, Nat.reduceAdd, Nat.reduceSub, Nat.reduceMul, Nat.reduceLT, Nat.reduceLeDiff, reduceCtorEq, Int.reduceToNat, Int.reduceLT, Int.reduceLE, Int.reduceAdd, Int.reduceSub, Int.reduceMul, Int.reduceNeg, Int.reduceEq, Nat.reduceMod, forall_eq_or_imp, forall_eq, forall_const, EVY, true_imp_iff, implies_true, Int.cast_ofNat_Int, forall_eq']
    intro k _ hk _
    unfold lb12_0
    simp only [↓EVP0, EVQ0, EVQ1, EVQ2, EVQ3, EVQ4, EVA, EVK, EVFD,EVFT, ↓reduceIte, Nat.reduceEqDiff, Nat.reduceAdd, Nat.reduceSub, Nat.reduceMul, Nat.reduceLT, Nat.reduceLeDiff, reduceCtorEq, Int.reduceToNat, Int.reduceLT, Int.reduceLE, Int.reduceAdd, Int.reduceSub, Int.reduceMul, Int.reduceNeg, Int.reduceEq, Nat.reduceMod, forall_eq_or_imp, forall_eq, forall_const, EVY, true_imp_iff, implies_true, Int.cast_ofNat_Int, forall_eq']
    refine fun _ => ⟨fun hg => ?_, fun hg => ⟨by unfold In64; omega, hj2, (), trivial⟩⟩
    have hk2 : k < lk.length := by have := of_decide_eq_true hg; omega
    exact ⟨⟨by omega, by omega⟩, ⟨by omega, by omega⟩, by unfold In64; omega, hk2, (), trivial⟩
end Go.Proofs.YtdfiicpikcdokaaGreatDoor
namespace Go.Proofs.YtdfiicpikcdokaaGreatDoor
set_option linter.unusedSimpArgs false
set_option linter.unusedVariables false
open Go.RowKit
set_option maxRecDepth 20000

theorem arg_str {lv : LV} (h : fitA Tryz.prog 9 lv) : ∃ s : ByteArray, lv = .sc (.string s) ∧ s.size ≤ maxLen := by
  have h0 := arg_cell (by kernel_rfl) h
  obtain ⟨s, h1, h2⟩ := fit_str Tryz.underlying9 h0
  simp only [List.cons.injEq, and_true] at h1
  exact ⟨s, h1, h2⟩
theorem nt_it {n : Nt} (hn : NtOk n) : NtIt n :=
  ⟨fun c hc => ⟨ev_itoaA c.n (hn.caps c hc).1, ev_itoaA c.d (hn.caps c hc).2⟩, fun f hf x hx => ev_itoaA x (hn.links f hf x hx), fun f hf => ⟨ev_itoaA f.dem.n (hn.dem f hf).1, ev_itoaA f.dem.d (hn.dem f hf).2⟩⟩
theorem prs_bad : ∀ (k : Nat) (s : By), s.length ≤ k → ∀ (n : Nt) (i : Int), (prs33 s n i).2.2 ≠ 0 → (prs33 s n i).1 = emN
  | k, s, hk, n, i, h => by
    rw [prs33] at h ⊢
    by_cases e : s = []
    · rw [dif_pos e] at h ⊢
      by_cases hv : vldN n = true
      · rw [if_pos hv] at h; exact absurd rfl h
      · rw [if_neg hv]
    · rw [dif_neg e] at h ⊢
      by_cases h3 : (lineE s).getLast? = some 10 ∧ (addN n (splE 32 (cutL10 (lineE s)))).2 = true
      · rw [if_pos h3] at h ⊢
        have := rest_lt e
        cases k with
        | zero => omega
        | succ k => exact prs_bad k (restE s) (by omega) _ _ h
      · rw [if_neg h3]
theorem parse_facts (s : By) : ((parse33 s).2.2 ≠ 0 → (parse33 s).1 = emN) ∧ ((parse33 s).2.2 = 0 → netT (parse33 s).1 = s ∧ vldN (parse33 s).1 = true ∧ NtOk (parse33 s).1) := by
  unfold parse33
  by_cases e : 65536 < s.length
  · rw [if_pos e]; exact ⟨fun _ => rfl, fun h => by cases h⟩
  · rw [if_neg e]
    refine ⟨prs_bad _ s (Nat.le_refl _) emN 0, fun h => ?_⟩
    obtain ⟨h1, h2⟩ := prs_text _ s (Nat.le_refl _) emN (prs33 s emN 0).1 0 (prs33 s emN 0).2.1 (Prod.ext rfl (Prod.ext rfl h))
    refine ⟨by rw [h1]; rfl, h2, ?_⟩
    have hV := vldN_of h2
    exact ⟨fun r hr => vld_rtok (hV.cap r hr).1, fun f hf x hx => lk64 hV hf x hx, fun f hf => vld_rtok (hV.dem f hf).1⟩
theorem ev_lawParses33 (s : By) : Ev Tryz.prog 4 [.sc (.string (strB s))] (.sc (.bool true)) := by
  have h0 := ev_awake33
  refine ev_fn Tryz.func4 comp4 (show 1 ≤ Tryz.f4.ntmps by decide) ?_; unfold cf4 rf4; simp only [↓EVP0, EVQ0, EVQ1, EVQ2, EVQ3, EVQ4, EVA, EVK, EVFD,EVFT, ↓reduceIte, Nat.reduceEqDiff, Nat.reduceAdd, Nat.reduceSub, Nat.reduceMul, Nat.reduceLT, Nat.reduceLeDiff, reduceCtorEq, Int.reduceToNat, Int.reduceLT, Int.reduceLE, Int.reduceAdd, Int.reduceSub, Int.reduceMul, Int.reduceNeg, Int.reduceEq, Nat.reduceMod, forall_eq_or_imp, forall_eq, forall_const, EVY, true_imp_iff, implies_true, Int.cast_ofNat_Int, forall_eq']
  refine callK_ro (h0) ?_ ?_
  · simp only [↓EVP0, EVQ0, EVQ1, EVQ2, EVQ3, EVQ4, EVA, EVK, EVFD,EVFT, ↓reduceIte, Nat.reduceEqDiff, Nat.reduceAdd, Nat.reduceSub, Nat.reduceMul, Nat.reduceLT, Nat.reduceLeDiff, reduceCtorEq, Int.reduceToNat, Int.reduceLT, Int.reduceLE, Int.reduceAdd, Int.reduceSub, Int.reduceMul, Int.reduceNeg, Int.reduceEq, Nat.reduceMod, forall_eq_or_imp, forall_eq, forall_const, EVY, true_imp_iff, implies_true, Int.cast_ofNat_Int, forall_eq']
  simp only [↓EVP0, EVQ0, EVQ1, EVQ2, EVQ3, EVQ4, EVA, EVK, EVFD,EVFT, ↓reduceIte, Nat.reduceEqDiff, Nat.reduceAdd, Nat.reduceSub, Nat.reduceMul, Nat.reduceLT, Nat.reduceLeDiff, reduceCtorEq, Int.reduceToNat, Int.reduceLT, Int.reduceLE, Int.reduceAdd, Int.reduceSub, Int.reduceMul, Int.reduceNeg, Int.reduceEq, Nat.reduceMod, forall_eq_or_imp, forall_eq, forall_const, EVY, true_imp_iff, implies_true, Int.cast_ofNat_Int, forall_eq']
  rw [strB_size]
  refine ⟨fun hg => ?_, fun hg => ?_⟩
  · refine callK_ro (h0) ?_ ?_
    · simp only [↓EVP0, EVQ0, EVQ1, EVQ2, EVQ3, EVQ4, EVA, EVK, EVFD,EVFT, ↓reduceIte, Nat.reduceEqDiff, Nat.reduceAdd, Nat.reduceSub, Nat.reduceMul, Nat.reduceLT, Nat.reduceLeDiff, reduceCtorEq, Int.reduceToNat, Int.reduceLT, Int.reduceLE, Int.reduceAdd, Int.reduceSub, Int.reduceMul, Int.reduceNeg, Int.reduceEq, Nat.reduceMod, forall_eq_or_imp, forall_eq, forall_const, EVY, true_imp_iff, implies_true, Int.cast_ofNat_Int, forall_eq']
    simp only [↓EVP0, EVQ0, EVQ1, EVQ2, EVQ3, EVQ4, EVA, EVK, EVFD,EVFT, ↓reduceIte, Nat.reduceEqDiff, Nat.reduceAdd, Nat.reduceSub, Nat.reduceMul, Nat.reduceLT, Nat.reduceLeDiff, reduceCtorEq, Int.reduceToNat, Int.reduceLT, Int.reduceLE, Int.reduceAdd, Int.reduceSub, Int.reduceMul, Int.reduceNeg, Int.reduceEq, Nat.reduceMod, forall_eq_or_imp, forall_eq, forall_const, EVY, true_imp_iff, implies_true, Int.cast_ofNat_Int, forall_eq']
  have hl : s.length ≤ 600 := by
    have := of_decide_eq_false hg
    omega
  have h1 := ev_parse33 s (by omega)
  have h2 := ev_rparse33 s (by omega)
  rw [← parse_eq] at h2
  unfold prR netV at h1 h2
  refine callK_ro (h1) ?_ ?_
  · simp only [↓EVP0, EVQ0, EVQ1, EVQ2, EVQ3, EVQ4, EVA, EVK, EVFD,EVFT, ↓reduceIte, Nat.reduceEqDiff, Nat.reduceAdd, Nat.reduceSub, Nat.reduceMul, Nat.reduceLT, Nat.reduceLeDiff, reduceCtorEq, Int.reduceToNat, Int.reduceLT, Int.reduceLE, Int.reduceAdd, Int.reduceSub, Int.reduceMul, Int.reduceNeg, Int.reduceEq, Nat.reduceMod, forall_eq_or_imp, forall_eq, forall_const, EVY, true_imp_iff, implies_true, Int.cast_ofNat_Int, forall_eq']
  simp only [↓EVP0, EVQ0, EVQ1, EVQ2, EVQ3, EVQ4, EVA, EVK, EVFD,EVFT, ↓reduceIte, Nat.reduceEqDiff, Nat.reduceAdd, Nat.reduceSub, Nat.reduceMul, Nat.reduceLT, Nat.reduceLeDiff, reduceCtorEq, Int.reduceToNat, Int.reduceLT, Int.reduceLE, Int.reduceAdd, Int.reduceSub, Int.reduceMul, Int.reduceNeg, Int.reduceEq, Nat.reduceMod, forall_eq_or_imp, forall_eq, forall_const, EVY, true_imp_iff, implies_true, Int.cast_ofNat_Int, forall_eq']
  refine callK_ro (h2) ?_ ?_
  · simp only [↓EVP0, EVQ0, EVQ1, EVQ2, EVQ3, EVQ4, EVA, EVK, EVFD,EVFT, ↓reduceIte, Nat.reduceEqDiff, Nat.reduceAdd, Nat.reduceSub, Nat.reduceMul, Nat.reduceLT, Nat.reduceLeDiff, reduceCtorEq, Int.reduceToNat, Int.reduceLT, Int.reduceLE, Int.reduceAdd, Int.reduceSub, Int.reduceMul, Int.reduceNeg, Int.reduceEq, Nat.reduceMod, forall_eq_or_imp, forall_eq, forall_const, EVY, true_imp_iff, implies_true, Int.cast_ofNat_Int, forall_eq']
  simp only [↓EVP0, EVQ0, EVQ1, EVQ2, EVQ3, EVQ4, EVA, EVK, EVFD,EVFT, ↓reduceIte, Nat.reduceEqDiff, Nat.reduceAdd, Nat.reduceSub, Nat.reduceMul, Nat.reduceLT, Nat.reduceLeDiff, reduceCtorEq, Int.reduceToNat, Int.reduceLT, Int.reduceLE, Int.reduceAdd, Int.reduceSub, Int.reduceMul, Int.reduceNeg, Int.reduceEq, Nat.reduceMod, forall_eq_or_imp, forall_eq, forall_const, EVY, true_imp_iff, implies_true, Int.cast_ofNat_Int, forall_eq']
  obtain ⟨f1, f2⟩ := parse_facts s
  generalize parse33 s = A at *
  obtain ⟨m, i, c⟩ := A
  simp only at f1 f2 ⊢
  refine ⟨fun hg => ?_, fun hg => ?_⟩
  · rw [f1 (by simpa using hg)]
    intro _; rfl
  · obtain ⟨g1, g2, g3⟩ := f2 (by simpa using hg)
    have hV := vldN_of g2
    have hnc := hV.nc
    have hnf := hV.nf
    have h3 := ev_format33 m g3 (nt_it g3)
    have h4 := ev_plain33 m (by omega) (by omega)
    have h5 := ev_rsame33 m m (sm_refl m) (by omega) (by omega)
    rw [fmt_net g2, g1] at h3
    unfold netV at h3 h4 h5
    refine callK_ro (h3) ?_ ?_
    · simp only [↓EVP0, EVQ0, EVQ1, EVQ2, EVQ3, EVQ4, EVA, EVK, EVFD,EVFT, ↓reduceIte, Nat.reduceEqDiff, Nat.reduceAdd, Nat.reduceSub, Nat.reduceMul, Nat.reduceLT, Nat.reduceLeDiff, reduceCtorEq, Int.reduceToNat, Int.reduceLT, Int.reduceLE, Int.reduceAdd, Int.reduceSub, Int.reduceMul, Int.reduceNeg, Int.reduceEq, Nat.reduceMod, forall_eq_or_imp, forall_eq, forall_const, EVY, true_imp_iff, implies_true, Int.cast_ofNat_Int, forall_eq']
    simp only [↓EVP0, EVQ0, EVQ1, EVQ2, EVQ3, EVQ4, EVA, EVK, EVFD,EVFT, ↓reduceIte, Nat.reduceEqDiff, Nat.reduceAdd, Nat.reduceSub, Nat.reduceMul, Nat.reduceLT, Nat.reduceLeDiff, reduceCtorEq, Int.reduceToNat, Int.reduceLT, Int.reduceLE, Int.reduceAdd, Int.reduceSub, Int.reduceMul, Int.reduceNeg, Int.reduceEq, Nat.reduceMod, forall_eq_or_imp, forall_eq, forall_const, EVY, true_imp_iff, implies_true, Int.cast_ofNat_Int, forall_eq']
    first | refine qCallK_ro (h4) ?_ ?_ | refine eCallK_ro (h4) ?_ ?_
    · simp only [↓EVP0, EVQ0, EVQ1, EVQ2, EVQ3, EVQ4, EVA, EVK, EVFD,EVFT, ↓reduceIte, Nat.reduceEqDiff, Nat.reduceAdd, Nat.reduceSub, Nat.reduceMul, Nat.reduceLT, Nat.reduceLeDiff, reduceCtorEq, Int.reduceToNat, Int.reduceLT, Int.reduceLE, Int.reduceAdd, Int.reduceSub, Int.reduceMul, Int.reduceNeg, Int.reduceEq, Nat.reduceMod, forall_eq_or_imp, forall_eq, forall_const, EVY, true_imp_iff, implies_true, Int.cast_ofNat_Int, forall_eq']
    simp only [↓EVP0, EVQ0, EVQ1, EVQ2, EVQ3, EVQ4, EVA, EVK, EVFD,EVFT, ↓reduceIte, Nat.reduceEqDiff, Nat.reduceAdd, Nat.reduceSub, Nat.reduceMul, Nat.reduceLT, Nat.reduceLeDiff, reduceCtorEq, Int.reduceToNat, Int.reduceLT, Int.reduceLE, Int.reduceAdd, Int.reduceSub, Int.reduceMul, Int.reduceNeg, Int.reduceEq, Nat.reduceMod, forall_eq_or_imp, forall_eq, forall_const, EVY, true_imp_iff, implies_true, Int.cast_ofNat_Int, forall_eq']
    first | refine qCallK_ro (h5) ?_ ?_ | refine eCallK_ro (h5) ?_ ?_
    · simp only [↓EVP0, EVQ0, EVQ1, EVQ2, EVQ3, EVQ4, EVA, EVK, EVFD,EVFT, ↓reduceIte, Nat.reduceEqDiff, Nat.reduceAdd, Nat.reduceSub, Nat.reduceMul, Nat.reduceLT, Nat.reduceLeDiff, reduceCtorEq, Int.reduceToNat, Int.reduceLT, Int.reduceLE, Int.reduceAdd, Int.reduceSub, Int.reduceMul, Int.reduceNeg, Int.reduceEq, Nat.reduceMod, forall_eq_or_imp, forall_eq, forall_const, EVY, true_imp_iff, implies_true, Int.cast_ofNat_Int, forall_eq']
    simp only [↓EVP0, EVQ0, EVQ1, EVQ2, EVQ3, EVQ4, EVA, EVK, EVFD,EVFT, ↓reduceIte, Nat.reduceEqDiff, Nat.reduceAdd, Nat.reduceSub, Nat.reduceMul, Nat.reduceLT, Nat.reduceLeDiff, reduceCtorEq, Int.reduceToNat, Int.reduceLT, Int.reduceLE, Int.reduceAdd, Int.reduceSub, Int.reduceMul, Int.reduceNeg, Int.reduceEq, Nat.reduceMod, forall_eq_or_imp, forall_eq, forall_const, EVY, true_imp_iff, implies_true, Int.cast_ofNat_Int, forall_eq']
theorem ev_lawParsesB33 (s : ByteArray) : Ev Tryz.prog 4 [.sc (.string s)] (.sc (.bool true)) := by
  rw [← strB_of s]; exact ev_lawParses33 _
end Go.Proofs.YtdfiicpikcdokaaGreatDoor
namespace Go.Proofs.YtdfiicpikcdokaaGreatDoor
open Go.RowKit Go.ChangeShapes

theorem star19 : "*" ++ "errors.errorString" = "*errors.errorString" := by decide
theorem row19 (u : TypeId) (h : Tryz.prog.typeName? 3 u = some "*errors.errorString") : u = 163 :=
  typeName_ptr_named (nm := "errors.errorString") (by rw [star19]; kernel_rfl) (by kernel_rfl) (by decide) u (by rw [star19]; exact h)
theorem ifc_of_laid {n : String} {text : List UInt8} {r : List (String × DataW Unit)} {W : World} {g : Nat}
    (h : laidMet Tryz.prog ((n, .iface "*errors.errorString" (.ptr (.agg [.lit (.string text)]))) :: r) W) (hg : Tryz.prog.globalNamed n = some g) (ht : (Tryz.prog.globals[g]?).map (·.type) = some 55) : IfcAt W g := by
  obtain ⟨a, s, hv, _, _, _⟩ := laid_sentinel h hg ht Tryz.underlying55 row19 Tryz.underlying163 Tryz.underlying165 rfl rfl Tryz.underlying9 (by kernel_rfl) (by kernel_rfl)
  exact ⟨_, World.var?_cell hg hv 0, .inr ⟨_, _, rfl⟩⟩
theorem gx_mk {a b : String × DataW Unit} {rest : List (String × DataW Unit)} {W : World} (h : laidMet Tryz.prog (a :: b :: ("internal/strconv.uint64pow10", Rows.laid_internal_strconv_uint64pow10) :: rest) W) (hs : W.ShapedOpen Tryz.prog) (h2 : IfcAt W 4) (h3 : IfcAt W 5) : GX W :=
  ⟨Lib.tabIs_of_head (g := 0) (t := 136) (e := 86) (n := 20) (by kernel_rfl) (by kernel_rfl) (by kernel_rfl) (by kernel_rfl) (by kernel_rfl) (by kernel_rfl) (show laidMet Tryz.prog (("internal/strconv.uint64pow10", Lib.tabData .u64 Lib.pow10Tab) :: rest) W from (h.tail).tail),
    cell_of_shapedOpen_int (zero := #[.int .i64 0]) (t := 3) hs (of_decide_eq_true (by kernel_rfl)) (by kernel_rfl) rfl (by kernel_rfl) (by kernel_rfl) Tryz.underlying3, h2, h3⟩
theorem gx_of {a b c : String × DataW Unit} {rest : List (String × DataW Unit)} {W : World} (h : laidMetH Tryz.prog (a :: b :: ("internal/strconv.uint64pow10", Rows.laid_internal_strconv_uint64pow10) :: c :: ("strconv.ErrRange", Rows.laid_strconv_ErrRange) :: ("strconv.ErrSyntax", Rows.laid_strconv_ErrSyntax) :: rest) W)
    (hp : ((a :: b :: ("internal/strconv.uint64pow10", Rows.laid_internal_strconv_uint64pow10) :: c :: ("strconv.ErrRange", Rows.laid_strconv_ErrRange) :: ("strconv.ErrSyntax", Rows.laid_strconv_ErrSyntax) :: rest).all fun x => x.2.handleName?.isNone) = true) (hs : W.ShapedOpen Tryz.prog) : GX W := by
  rw [MakeChecks.laidMetH_plain _ _ _ hp] at h
  have h3 := (((h.tail).tail).tail).tail
  exact gx_mk h hs (ifc_of_laid h3.tail (by kernel_rfl) (by kernel_rfl)) (ifc_of_laid h3 (by kernel_rfl) (by kernel_rfl))
end Go.Proofs.YtdfiicpikcdokaaGreatDoor
