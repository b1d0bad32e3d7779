/- Chapter 21: the law CertificateParts; Every part of certified dependencies is certified by the same ranks, and by ranks that all are greater by the same number. Conditions: none. -/
import Derived.Test.YteblljpbnpaplaaMI
namespace Go.Proofs.Yteblljpbnpaplaa
set_option linter.unusedSimpArgs false
set_option linter.unusedVariables false
open Go.RowKit
set_option maxRecDepth 20000

theorem lcall_frzG {P : Program} {h : LH} {f : FuncId} {args args' : List LV} {r : LV} (he : Ev P f args' r) (ha : roToL2 h args args') (hs : ∀ R R' v, Ro R r v → Ro R' r v) : LCall P f args h r h := by
  intro B R ι w vs hB hr hsz hargs
  obtain ⟨g1, g2⟩ := roToL2_get ha
  refine (he (fun b => w.heap[b]?) w vs (fun _ _ h => h) (hr.gl.mono fun b o hb => hr.ro b o hb) (by omega) (fun i a hi => ?_)).mono ?_
  · obtain ⟨x, hx, hx2⟩ := g2 i a hi
    exact roTo2_ok hr (fun b o hb => hr.ro b o hb) (fun _ _ _ _ => rfl) (hargs i x hx) hx2
  · intro e w' hx
    obtain ⟨v, R', rfl, h1, h2, h3, h4, h5⟩ := hx
    refine ⟨v, R, ι, rfl, trans_call hB hr (R2 := R) (fun b o hbo => ?_) h4 (fun _ _ h => h) (fun _ _ => rfl) rfl, .ro (hs _ _ _ h5)⟩
    have := hr.ro b o hbo
    rw [h4.b.block b (Array.getElem?_eq_some_iff.1 this).1]; exact this
theorem ro_none {z : Nat} {f : Nat → List LV} : ∀ R R' v, Ro R (.rsl z 0 f) v → Ro R' (.rsl z 0 f) v := fun R R' v h => by
  cases h with
  | rsl _ _ _ a cap b o g hc hm ha hf hcell hv hp =>
    exact .rsl _ _ _ a cap b o g hc hm (fun h => absurd h (Nat.lt_irrefl _)) (fun i hi => absurd hi (Nat.not_lt_zero _)) (fun i j hi => absurd hi (Nat.not_lt_zero _)) (fun i j c hi => absurd hi (Nat.not_lt_zero _)) (fun i j hi => absurd hi (Nat.not_lt_zero _))
theorem callK_frz0 {P : Program} {f : FuncId} {al al' : List LV} {h : LH} {k : LV → LH → Prop} {z : Nat} {g : Nat → List LV} (he : Ev P f al' (.rsl z 0 g)) (ha : roToL2 h al al') (hk : k (.rsl z 0 g) h) : @callK _ P f al h ⟨k⟩ := ⟨_, h, lcall_frzG he ha ro_none, hk⟩
theorem gCallK_frz0 {P : Program} {b : Bool} {f : FuncId} {al al' : List LV} {h : LH} {k : LV → LH → Prop} {z : Nat} {g : Nat → List LV} (he : b = true → Ev P f al' (.rsl z 0 g)) (ha : b = true → roToL2 h al al') (hk : k (.cnd b (.rsl z 0 g)) h) : @gCallK _ P b f al h ⟨k⟩ := ⟨_, fun hb => lcall_frzG (he hb) (ha hb) ro_none, hk⟩
/-- The part that is kept. -/
def kpB (keep : List Bool) (i : Nat) : Bool := bif decide ((i : Int) < keep.length) then keep.getD i false else false
def prtL (l : List Dp) (keep : List Bool) : Nat → List Dp
  | 0 => []
  | k + 1 => if kpB keep k = true then prtL l keep k ++ [l.getD k default] else prtL l keep k
theorem prt_mem {l : List Dp} {keep : List Bool} : ∀ {k : Nat}, k ≤ l.length → ∀ d, d ∈ prtL l keep k → d ∈ l
  | 0, _, d, hd => by simp [prtL] at hd
  | k + 1, hk, d, hd => by
    unfold prtL at hd
    split at hd
    · rcases List.mem_append.1 hd with hd | hd
      · exact prt_mem (by omega) d hd
      · simp only [List.mem_singleton] at hd
        rw [hd]; exact getD_mem default (by omega)
    · exact prt_mem (by omega) d hd
theorem prt_len (l : List Dp) (keep : List Bool) : ∀ k, (prtL l keep k).length ≤ k
  | 0 => Nat.le_refl _
  | k + 1 => by
    have := prt_len l keep k
    unfold prtL
    split
    · rw [List.length_append, List.length_singleton]; omega
    · omega
theorem chk_part {l p : List Dp} {r : List Int} (h : chkL l r = []) (hs : ∀ d, d ∈ p → d ∈ l) : chkL p r = [] := chk_nil.2 fun d hd => chk_nil.1 h d (hs d hd)
def mvL (R : List Int) (b : Int) : List Int := R.map fun x => x + b
theorem mv_lvl {R : List Int} {b v : Int} (h : inN R.length v) : lvl (mvL R b) v = lvl R v + b := by
  unfold inN at h
  unfold lvl mvL
  rw [List.getD_eq_getElem?_getD, List.getElem?_map, List.getD_eq_getElem?_getD, List.getElem?_eq_getElem (by omega)]; rfl
theorem chk_moved {l : List Dp} {R : List Int} (b : Int) (h : chkL l R = []) : chkL l (mvL R b) = [] := chk_nil.2 fun d hd => by
  obtain ⟨h1, h2, h3⟩ := chk_nil.1 h d hd
  have hl : (mvL R b).length = R.length := List.length_map _
  rw [hl, mv_lvl h1, mv_lvl h2]
  exact ⟨h1, h2, by omega⟩
theorem mv_take {R : List Int} {b : Int} {k : Nat} (h : k < R.length) : mvL (R.take (k + 1)) b = mvL (R.take k) b ++ [R.getD k 0 + b] := by
  rw [take_succ_getD 0 _ _ h]
  unfold mvL
  rw [List.map_append]; rfl
theorem ev_lawParts (l : List Dp) (hin : ∀ d, d ∈ l → DpIn d) (ch : Int) (hch : 0 ≤ ch ∧ ch ≤ 255) (keep : List Bool) (by_ : Int) (hby : -32768 ≤ by_ ∧ by_ ≤ 32767) : Ev Try.prog 4 [dpsV l, .sc (.int .u8 ch), boolsV keep, .sc (.int .i16 by_)] (.sc (.bool true)) := by
  have h1 := ev_awake
  obtain ⟨n1, n2⟩ := chN_in hch.1
  have h2 := ev_fewE l (chN ch)
  have hmk := fun hl => ev_makeF l hin hl (chN ch) (by unfold In64; omega)
  have hck := fun (l : List Dp) hl r => ev_check l r hl
  unfold dpsV intsV boolsV at *
  refine ev_fn Try.func4 comp4 (show 4 ≤ Try.f4.ntmps by decide) ?_; unfold cf4 rf4; simp only [↓EVP0, EVQ0, EVQ1, EVQ2, EVQ3, EVQ4, EVA, EVK, EVF,EVFE, ↓reduceIte, Nat.reduceEqDiff, Nat.reduceAdd, Nat.reduceSub, Nat.reduceMul, Nat.reduceLT, Nat.reduceLeDiff, reduceCtorEq, Int.reduceToNat, Int.reduceLT, Int.reduceLE, Int.reduceAdd, Int.reduceSub, Int.reduceMul, Int.reduceNeg, Int.reduceEq, Nat.reduceMod, forall_eq_or_imp, forall_eq, forall_const, cond_true, cond_false, decide_true, decide_false, true_imp_iff, implies_true, Int.cast_ofNat_Int, forall_eq']
  rw [show (1 : Int) + ch.tmod 60 = chN ch from rfl]
  generalize chN ch = n at *
  refine ⟨by unfold In64; omega, by decide, by unfold In64; omega, ?_⟩
  refine callK_ro (h1) ?_ ?_
  · simp only [↓EVP0, EVQ0, EVQ1, EVQ2, EVQ3, EVQ4, EVA, EVK, EVF,EVFE, ↓reduceIte, Nat.reduceEqDiff, Nat.reduceAdd, Nat.reduceSub, Nat.reduceMul, Nat.reduceLT, Nat.reduceLeDiff, reduceCtorEq, Int.reduceToNat, Int.reduceLT, Int.reduceLE, Int.reduceAdd, Int.reduceSub, Int.reduceMul, Int.reduceNeg, Int.reduceEq, Nat.reduceMod, forall_eq_or_imp, forall_eq, forall_const, cond_true, cond_false, decide_true, decide_false, true_imp_iff, implies_true, Int.cast_ofNat_Int, forall_eq']
  simp only [↓EVP0, EVQ0, EVQ1, EVQ2, EVQ3, EVQ4, EVA, EVK, EVF,EVFE, ↓reduceIte, Nat.reduceEqDiff, Nat.reduceAdd, Nat.reduceSub, Nat.reduceMul, Nat.reduceLT, Nat.reduceLeDiff, reduceCtorEq, Int.reduceToNat, Int.reduceLT, Int.reduceLE, Int.reduceAdd, Int.reduceSub, Int.reduceMul, Int.reduceNeg, Int.reduceEq, Nat.reduceMod, forall_eq_or_imp, forall_eq, forall_const, cond_true, cond_false, decide_true, decide_false, true_imp_iff, implies_true, Int.cast_ofNat_Int, forall_eq']
  (refine lops_ge_imp ?_; simp only [↓EVP0, EVQ0, EVQ1, EVQ2, EVQ3, EVQ4, EVA, EVK, EVF,EVFE, ↓reduceIte, Nat.reduceEqDiff, Nat.reduceAdd, Nat.reduceSub, Nat.reduceMul, Nat.reduceLT, Nat.reduceLeDiff, reduceCtorEq, Int.reduceToNat, Int.reduceLT, Int.reduceLE, Int.reduceAdd, Int.reduceSub, Int.reduceMul, Int.reduceNeg, Int.reduceEq, Nat.reduceMod, forall_eq_or_imp, forall_eq, forall_const, cond_true, cond_false, decide_true, decide_false, true_imp_iff, implies_true, Int.cast_ofNat_Int, forall_eq'])
  refine gCallK_ro _ (fun _ => h2) (fun _ => ?_) ?_
  · simp only [↓EVP0, EVQ0, EVQ1, EVQ2, EVQ3, EVQ4, EVA, EVK, EVF,EVFE, ↓reduceIte, Nat.reduceEqDiff, Nat.reduceAdd, Nat.reduceSub, Nat.reduceMul, Nat.reduceLT, Nat.reduceLeDiff, reduceCtorEq, Int.reduceToNat, Int.reduceLT, Int.reduceLE, Int.reduceAdd, Int.reduceSub, Int.reduceMul, Int.reduceNeg, Int.reduceEq, Nat.reduceMod, forall_eq_or_imp, forall_eq, forall_const, cond_true, cond_false, decide_true, decide_false, true_imp_iff, implies_true, Int.cast_ofNat_Int, forall_eq']
  simp only [↓EVP0, EVQ0, EVQ1, EVQ2, EVQ3, EVQ4, EVA, EVK, EVF,EVFE, ↓reduceIte, Nat.reduceEqDiff, Nat.reduceAdd, Nat.reduceSub, Nat.reduceMul, Nat.reduceLT, Nat.reduceLeDiff, reduceCtorEq, Int.reduceToNat, Int.reduceLT, Int.reduceLE, Int.reduceAdd, Int.reduceSub, Int.reduceMul, Int.reduceNeg, Int.reduceEq, Nat.reduceMod, forall_eq_or_imp, forall_eq, forall_const, cond_true, cond_false, decide_true, decide_false, true_imp_iff, implies_true, Int.cast_ofNat_Int, forall_eq']
  refine ⟨fun hg => ?_, fun hg => ?_⟩
  · refine callK_ro (h1) ?_ ?_
    · simp only [↓EVP0, EVQ0, EVQ1, EVQ2, EVQ3, EVQ4, EVA, EVK, EVF,EVFE, ↓reduceIte, Nat.reduceEqDiff, Nat.reduceAdd, Nat.reduceSub, Nat.reduceMul, Nat.reduceLT, Nat.reduceLeDiff, reduceCtorEq, Int.reduceToNat, Int.reduceLT, Int.reduceLE, Int.reduceAdd, Int.reduceSub, Int.reduceMul, Int.reduceNeg, Int.reduceEq, Nat.reduceMod, forall_eq_or_imp, forall_eq, forall_const, cond_true, cond_false, decide_true, decide_false, true_imp_iff, implies_true, Int.cast_ofNat_Int, forall_eq']
    simp only [↓EVP0, EVQ0, EVQ1, EVQ2, EVQ3, EVQ4, EVA, EVK, EVF,EVFE, ↓reduceIte, Nat.reduceEqDiff, Nat.reduceAdd, Nat.reduceSub, Nat.reduceMul, Nat.reduceLT, Nat.reduceLeDiff, reduceCtorEq, Int.reduceToNat, Int.reduceLT, Int.reduceLE, Int.reduceAdd, Int.reduceSub, Int.reduceMul, Int.reduceNeg, Int.reduceEq, Nat.reduceMod, forall_eq_or_imp, forall_eq, forall_const, cond_true, cond_false, decide_true, decide_false, true_imp_iff, implies_true, Int.cast_ofNat_Int, forall_eq']
  have hf : fewE l n = true := by
    cases e : fewE l n
    · rw [e] at hg; simp at hg
    · rfl
  have hl := few_true hf
  obtain ⟨R, C, e, hOk, h3⟩ := hmk (by omega)
  refine callK_ro (h3) ?_ ?_
  · simp only [↓EVP0, EVQ0, EVQ1, EVQ2, EVQ3, EVQ4, EVA, EVK, EVF,EVFE, ↓reduceIte, Nat.reduceEqDiff, Nat.reduceAdd, Nat.reduceSub, Nat.reduceMul, Nat.reduceLT, Nat.reduceLeDiff, reduceCtorEq, Int.reduceToNat, Int.reduceLT, Int.reduceLE, Int.reduceAdd, Int.reduceSub, Int.reduceMul, Int.reduceNeg, Int.reduceEq, Nat.reduceMod, forall_eq_or_imp, forall_eq, forall_const, cond_true, cond_false, decide_true, decide_false, true_imp_iff, implies_true, Int.cast_ofNat_Int, forall_eq']
  simp only [↓EVP0, EVQ0, EVQ1, EVQ2, EVQ3, EVQ4, EVA, EVK, EVF,EVFE, ↓reduceIte, Nat.reduceEqDiff, Nat.reduceAdd, Nat.reduceSub, Nat.reduceMul, Nat.reduceLT, Nat.reduceLeDiff, reduceCtorEq, Int.reduceToNat, Int.reduceLT, Int.reduceLE, Int.reduceAdd, Int.reduceSub, Int.reduceMul, Int.reduceNeg, Int.reduceEq, Nat.reduceMod, forall_eq_or_imp, forall_eq, forall_const, cond_true, cond_false, decide_true, decide_false, true_imp_iff, implies_true, Int.cast_ofNat_Int, forall_eq']
  refine ⟨fun _ => trivial, fun he => ?_⟩
  have he0 : e = 0 := by simpa using he
  obtain ⟨hall, hr⟩ : (∀ d, d ∈ l → inD n.toNat d) ∧ RankOk n.toNat l R := by
    rcases hOk with ⟨g, _⟩ | ⟨_, _, g1, ⟨_, _, g2⟩ | ⟨g, _⟩⟩
    · omega
    · exact ⟨g1, g2⟩
    · omega
  have hR := chk_ranks hr
  have hRl : R.length = n.toNat := hr.len
  have hRi := rank_in64 hr (by omega)
  have hRs : ∀ k, k < R.length → In64 (R.getD k 0 + by_) := fun k hk => by
    have := hr.ge (k : Int) ⟨by omega, by omega⟩
    unfold lvl at this
    rw [Int.toNat_natCast] at this
    unfold In64; omega
  intro _
  refine lwp_for (α := Unit) l.length (fun _ _ => True) (fun k _ => [(0, .rsl 3 l.length (dpsF l)), (2, .rsl 1 keep.length (boolsF keep)), (3, .sc (.int .i16 by_)), (10, .rsl 1 R.length (intsF R)), (13, dS 2 (prtL l keep k)), (41, .rsl 3 l.length (dpsF l)), (42, .sc (.int .i64 l.length)), (43, .sc (.int .i64 k))])
    (fun k _ => dU (prtL l keep k)) () trivial ?_ (fun _ _ => Nat.zero_le _) ?_
  · rw [show prtL l keep 0 = [] from rfl, dU_nil, dS_nil]
    simp only [↓EVP0, EVQ0, EVQ1, EVQ2, EVQ3, EVQ4, EVA, EVK, EVF,EVFE, ↓reduceIte, Nat.reduceEqDiff, Nat.reduceAdd, Nat.reduceSub, Nat.reduceMul, Nat.reduceLT, Nat.reduceLeDiff, reduceCtorEq, Int.reduceToNat, Int.reduceLT, Int.reduceLE, Int.reduceAdd, Int.reduceSub, Int.reduceMul, Int.reduceNeg, Int.reduceEq, Nat.reduceMod, forall_eq_or_imp, forall_eq, forall_const, cond_true, cond_false, decide_true, decide_false, true_imp_iff, implies_true, Int.cast_ofNat_Int, forall_eq']
  intro k _ hk _
  by_cases hk2 : k < l.length
  · have hkd : decide ((k : Int) < l.length) = true := decide_eq_true (by omega)
    have kk : 0 ≤ (k : Int) ∧ (k : Int) < l.length := by omega
    have kI : In64 ((k : Int) + 1) := by unfold In64; omega
    have hL2 := prt_len l keep k
    have hsn : prtL l keep (k + 1) = if kpB keep k = true then prtL l keep k ++ [l.getD k default] else prtL l keep k := rfl
    rw [hsn]
    generalize hd : l.getD k default = d at *
    generalize hL : prtL l keep k = L at *
    by_cases hL0 : L = []
    · rw [hL0, dU_nil, dS_nil]
      unfold lb4_1
      simp only [hkd, hd, ↓EVP0, EVQ0, EVQ1, EVQ2, EVQ3, EVQ4, EVA, EVK, EVF,EVFE, ↓reduceIte, Nat.reduceEqDiff, Nat.reduceAdd, Nat.reduceSub, Nat.reduceMul, Nat.reduceLT, Nat.reduceLeDiff, reduceCtorEq, Int.reduceToNat, Int.reduceLT, Int.reduceLE, Int.reduceAdd, Int.reduceSub, Int.reduceMul, Int.reduceNeg, Int.reduceEq, Nat.reduceMod, forall_eq_or_imp, forall_eq, forall_const, cond_true, cond_false, decide_true, decide_false, true_imp_iff, implies_true, Int.cast_ofNat_Int, forall_eq']
      refine ⟨kk, fun _ => ⟨fun h => ⟨by omega, of_decide_eq_true h⟩, ?_⟩⟩
      show Br (kpB keep k) _ _
      cases hv : kpB keep k
      · rw [if_neg (by simp), dU_nil, dS_nil]
        simp only [↓EVP0, EVQ0, EVQ1, EVQ2, EVQ3, EVQ4, EVA, EVK, EVF,EVFE, ↓reduceIte, Nat.reduceEqDiff, Nat.reduceAdd, Nat.reduceSub, Nat.reduceMul, Nat.reduceLT, Nat.reduceLeDiff, reduceCtorEq, Int.reduceToNat, Int.reduceLT, Int.reduceLE, Int.reduceAdd, Int.reduceSub, Int.reduceMul, Int.reduceNeg, Int.reduceEq, Nat.reduceMod, forall_eq_or_imp, forall_eq, forall_const, cond_true, cond_false, decide_true, decide_false, true_imp_iff, implies_true, Int.cast_ofNat_Int, forall_eq']
        exact ⟨kI, hk2, (), trivial⟩
      · rw [if_pos rfl, dU_one, dS_one]
        simp only [↓EVP0, EVQ0, EVQ1, EVQ2, EVQ3, EVQ4, EVA, EVK, EVF,EVFE, ↓reduceIte, Nat.reduceEqDiff, Nat.reduceAdd, Nat.reduceSub, Nat.reduceMul, Nat.reduceLT, Nat.reduceLeDiff, reduceCtorEq, Int.reduceToNat, Int.reduceLT, Int.reduceLE, Int.reduceAdd, Int.reduceSub, Int.reduceMul, Int.reduceNeg, Int.reduceEq, Nat.reduceMod, forall_eq_or_imp, forall_eq, forall_const, cond_true, cond_false, decide_true, decide_false, true_imp_iff, implies_true, Int.cast_ofNat_Int, forall_eq']
        exact ⟨bs_len3 (d := d), by unfold appRoom; omega, kI, hk2, (), rfl, dp_allC d, rfl, bs_all3 (d := d), rfl, ap_allD (l := [d])⟩
    · rw [dU_ne hL0, dS_ne hL0]
      unfold lb4_1
      simp only [hkd, hd, ↓EVP0, EVQ0, EVQ1, EVQ2, EVQ3, EVQ4, EVA, EVK, EVF,EVFE, ↓reduceIte, Nat.reduceEqDiff, Nat.reduceAdd, Nat.reduceSub, Nat.reduceMul, Nat.reduceLT, Nat.reduceLeDiff, reduceCtorEq, Int.reduceToNat, Int.reduceLT, Int.reduceLE, Int.reduceAdd, Int.reduceSub, Int.reduceMul, Int.reduceNeg, Int.reduceEq, Nat.reduceMod, forall_eq_or_imp, forall_eq, forall_const, cond_true, cond_false, decide_true, decide_false, true_imp_iff, implies_true, Int.cast_ofNat_Int, forall_eq']
      refine ⟨kk, fun _ => ⟨fun h => ⟨by omega, of_decide_eq_true h⟩, ?_⟩⟩
      show Br (kpB keep k) _ _
      cases hv : kpB keep k
      · rw [if_neg (by simp), dU_ne hL0, dS_ne hL0]
        simp only [↓EVP0, EVQ0, EVQ1, EVQ2, EVQ3, EVQ4, EVA, EVK, EVF,EVFE, ↓reduceIte, Nat.reduceEqDiff, Nat.reduceAdd, Nat.reduceSub, Nat.reduceMul, Nat.reduceLT, Nat.reduceLeDiff, reduceCtorEq, Int.reduceToNat, Int.reduceLT, Int.reduceLE, Int.reduceAdd, Int.reduceSub, Int.reduceMul, Int.reduceNeg, Int.reduceEq, Nat.reduceMod, forall_eq_or_imp, forall_eq, forall_const, cond_true, cond_false, decide_true, decide_false, true_imp_iff, implies_true, Int.cast_ofNat_Int, forall_eq']
        exact ⟨kI, hk2, (), dp_allC _, bs_all3, ap_allD⟩
      · rw [if_pos rfl, dU_ne (by simp), dS_ne (by simp), getD_appH hL0]
        simp only [↓EVP0, EVQ0, EVQ1, EVQ2, EVQ3, EVQ4, EVA, EVK, EVF,EVFE, ↓reduceIte, Nat.reduceEqDiff, Nat.reduceAdd, Nat.reduceSub, Nat.reduceMul, Nat.reduceLT, Nat.reduceLeDiff, reduceCtorEq, Int.reduceToNat, Int.reduceLT, Int.reduceLE, Int.reduceAdd, Int.reduceSub, Int.reduceMul, Int.reduceNeg, Int.reduceEq, Nat.reduceMod, forall_eq_or_imp, forall_eq, forall_const, cond_true, cond_false, decide_true, decide_false, true_imp_iff, implies_true, Int.cast_ofNat_Int, forall_eq']
        have hp : 0 < L.length := List.length_pos_iff.2 hL0
        have e1 : L.length - 1 + 1 = (L ++ [d]).length - 1 := by rw [List.length_append, List.length_singleton]; omega
        exact ⟨bs_len3 (d := d), ⟨Nat.le_refl _, fun i hi => by rw [apD_get hi]; rfl⟩, by unfold appRoom; omega, kI, hk2, (), by rw [e1, List.length_append]; rfl, dp_allC _, bs_all3, ⟨e1, apD_row⟩, ap_allD⟩
  · obtain rfl : k = l.length := by omega
    have hkd : decide ((l.length : Int) < l.length) = false := decide_eq_false (by omega)
    have hcp := chk_part hR (prt_mem (l := l) (keep := keep) (Nat.le_refl _))
    have hpl := prt_len l keep l.length
    have hcm := chk_moved by_ hR
    generalize prtL l keep l.length = p at *
    have hc1 := hck p (by omega) R
    have hc2 := hck l (by omega) (mvL R by_)
    rw [hcp] at hc1
    rw [hcm] at hc2
    by_cases hp0 : p = []
    · subst hp0
      rw [dU_nil, dS_nil]
      unfold lb4_1
      simp only [hkd, ↓EVP0, EVQ0, EVQ1, EVQ2, EVQ3, EVQ4, EVA, EVK, EVF,EVFE, ↓reduceIte, Nat.reduceEqDiff, Nat.reduceAdd, Nat.reduceSub, Nat.reduceMul, Nat.reduceLT, Nat.reduceLeDiff, reduceCtorEq, Int.reduceToNat, Int.reduceLT, Int.reduceLE, Int.reduceAdd, Int.reduceSub, Int.reduceMul, Int.reduceNeg, Int.reduceEq, Nat.reduceMod, forall_eq_or_imp, forall_eq, forall_const, cond_true, cond_false, decide_true, decide_false, true_imp_iff, implies_true, Int.cast_ofNat_Int, forall_eq']
      intro _
      refine lwp_for (α := Unit) R.length (fun _ _ => True) (fun k _ => [(0, .rsl 3 l.length (dpsF l)), (3, .sc (.int .i16 by_)), (10, .rsl 1 R.length (intsF R)), (13, LV.nsl), (16, if mvL (R.take k) by_ = [] then .nsl else .sl 1 ((mvL (R.take k) by_).length - 1) 1 0 (mvL (R.take k) by_).length), (63, .rsl 1 R.length (intsF R)), (64, .sc (.int .i64 R.length)), (65, .sc (.int .i64 k))])
        (fun k _ => (if mvL (R.take k) by_ = [] then [] else [(0, .ints [(mvL (R.take k) by_).getD 0 0]), ((mvL (R.take k) by_).length - 1, .ints (mvL (R.take k) by_))])) () trivial ?_ (fun _ _ => Nat.zero_le _) ?_
      · rw [show mvL (R.take 0) by_ = [] from rfl]
        simp only [if_true]
        simp only [↓EVP0, EVQ0, EVQ1, EVQ2, EVQ3, EVQ4, EVA, EVK, EVF,EVFE, ↓reduceIte, Nat.reduceEqDiff, Nat.reduceAdd, Nat.reduceSub, Nat.reduceMul, Nat.reduceLT, Nat.reduceLeDiff, reduceCtorEq, Int.reduceToNat, Int.reduceLT, Int.reduceLE, Int.reduceAdd, Int.reduceSub, Int.reduceMul, Int.reduceNeg, Int.reduceEq, Nat.reduceMod, forall_eq_or_imp, forall_eq, forall_const, cond_true, cond_false, decide_true, decide_false, true_imp_iff, implies_true, Int.cast_ofNat_Int, forall_eq']
      intro k _ hk _
      by_cases hk2 : k < R.length
      · have hkd : decide ((k : Int) < R.length) = true := decide_eq_true (by omega)
        have hxr := hRi _ (getD_mem 0 hk2)
        have kI : In64 ((k : Int) + 1) := by unfold In64; omega
        have kk : 0 ≤ (k : Int) ∧ (k : Int) < R.length := by omega
        have hxs : In64 (R.getD k 0 + by_) := hRs k hk2
        have hMl : (mvL (R.take k) by_).length = k := by unfold mvL; rw [List.length_map, List.length_take]; omega
        rw [mv_take hk2]
        generalize mvL (R.take k) by_ = Q at *
        by_cases hQ : Q = []
        · rw [if_pos hQ, if_pos hQ, hQ, List.nil_append, if_neg (by simp), if_neg (by simp)]
          unfold lb4_0
          simp only [hkd, ↓EVP0, EVQ0, EVQ1, EVQ2, EVQ3, EVQ4, EVA, EVK, EVF,EVFE, ↓reduceIte, Nat.reduceEqDiff, Nat.reduceAdd, Nat.reduceSub, Nat.reduceMul, Nat.reduceLT, Nat.reduceLeDiff, reduceCtorEq, Int.reduceToNat, Int.reduceLT, Int.reduceLE, Int.reduceAdd, Int.reduceSub, Int.reduceMul, Int.reduceNeg, Int.reduceEq, Nat.reduceMod, forall_eq_or_imp, forall_eq, forall_const, cond_true, cond_false, decide_true, decide_false, true_imp_iff, implies_true, Int.cast_ofNat_Int, forall_eq']
          exact ⟨kk, by unfold In64; omega, hxs, by unfold appRoom; omega, kI, hk2, (), trivial⟩
        · rw [if_neg hQ, if_neg hQ, if_neg (by simp), if_neg (by simp), getD_appL (List.length_pos_iff.2 hQ)]
          unfold lb4_0
          simp only [hkd, List.take_length, ↓EVP0, EVQ0, EVQ1, EVQ2, EVQ3, EVQ4, EVA, EVK, EVF,EVFE, ↓reduceIte, Nat.reduceEqDiff, Nat.reduceAdd, Nat.reduceSub, Nat.reduceMul, Nat.reduceLT, Nat.reduceLeDiff, reduceCtorEq, Int.reduceToNat, Int.reduceLT, Int.reduceLE, Int.reduceAdd, Int.reduceSub, Int.reduceMul, Int.reduceNeg, Int.reduceEq, Nat.reduceMod, forall_eq_or_imp, forall_eq, forall_const, cond_true, cond_false, decide_true, decide_false, true_imp_iff, implies_true, Int.cast_ofNat_Int, forall_eq']
          have hq0 : 0 < Q.length := List.length_pos_iff.2 hQ
          have e1 : Q.length - 1 + 1 = (Q ++ [R.getD k 0 + by_]).length - 1 := by rw [List.length_append, List.length_singleton]; omega
          exact ⟨kk, by unfold In64; omega, hxs, Nat.le_refl _, by unfold appRoom; omega, kI, hk2, (), by rw [e1, List.length_append]; rfl, e1⟩
      · obtain rfl : k = R.length := by omega
        have hkd : decide ((R.length : Int) < R.length) = false := decide_eq_false (by omega)
        have hMl : (mvL R by_).length = R.length := List.length_map _
        have hMne : mvL R by_ ≠ [] := List.ne_nil_of_length_pos (by omega)
        rw [List.take_length, if_neg hMne, if_neg hMne]
        unfold lb4_0
        simp only [hkd, ↓EVP0, EVQ0, EVQ1, EVQ2, EVQ3, EVQ4, EVA, EVK, EVF,EVFE, ↓reduceIte, Nat.reduceEqDiff, Nat.reduceAdd, Nat.reduceSub, Nat.reduceMul, Nat.reduceLT, Nat.reduceLeDiff, reduceCtorEq, Int.reduceToNat, Int.reduceLT, Int.reduceLE, Int.reduceAdd, Int.reduceSub, Int.reduceMul, Int.reduceNeg, Int.reduceEq, Nat.reduceMod, forall_eq_or_imp, forall_eq, forall_const, cond_true, cond_false, decide_true, decide_false, true_imp_iff, implies_true, Int.cast_ofNat_Int, forall_eq']
        refine callK_frz0 (al' := [.rsl 3 0 (dpsF []), .rsl 1 R.length (intsF R)]) hc1 ⟨rfl, ⟨rfl, trivial⟩, trivial⟩ ?_
        simp only [↓EVP0, EVQ0, EVQ1, EVQ2, EVQ3, EVQ4, EVA, EVK, EVF,EVFE, ↓reduceIte, Nat.reduceEqDiff, Nat.reduceAdd, Nat.reduceSub, Nat.reduceMul, Nat.reduceLT, Nat.reduceLeDiff, reduceCtorEq, Int.reduceToNat, Int.reduceLT, Int.reduceLE, Int.reduceAdd, Int.reduceSub, Int.reduceMul, Int.reduceNeg, Int.reduceEq, Nat.reduceMod, forall_eq_or_imp, forall_eq, forall_const, cond_true, cond_false, decide_true, decide_false, true_imp_iff, implies_true, Int.cast_ofNat_Int, forall_eq']
        (refine lops_ge_imp ?_; simp only [↓EVP0, EVQ0, EVQ1, EVQ2, EVQ3, EVQ4, EVA, EVK, EVF,EVFE, ↓reduceIte, Nat.reduceEqDiff, Nat.reduceAdd, Nat.reduceSub, Nat.reduceMul, Nat.reduceLT, Nat.reduceLeDiff, reduceCtorEq, Int.reduceToNat, Int.reduceLT, Int.reduceLE, Int.reduceAdd, Int.reduceSub, Int.reduceMul, Int.reduceNeg, Int.reduceEq, Nat.reduceMod, forall_eq_or_imp, forall_eq, forall_const, cond_true, cond_false, decide_true, decide_false, true_imp_iff, implies_true, Int.cast_ofNat_Int, forall_eq'])
        refine gCallK_frz0 (fun _ => hc2) (fun _ => ⟨⟨rfl, trivial⟩, roTo1_int (by simp [mkH]) rfl rfl, trivial⟩) ?_
        simp only [↓EVP0, EVQ0, EVQ1, EVQ2, EVQ3, EVQ4, EVA, EVK, EVF,EVFE, ↓reduceIte, Nat.reduceEqDiff, Nat.reduceAdd, Nat.reduceSub, Nat.reduceMul, Nat.reduceLT, Nat.reduceLeDiff, reduceCtorEq, Int.reduceToNat, Int.reduceLT, Int.reduceLE, Int.reduceAdd, Int.reduceSub, Int.reduceMul, Int.reduceNeg, Int.reduceEq, Nat.reduceMod, forall_eq_or_imp, forall_eq, forall_const, cond_true, cond_false, decide_true, decide_false, true_imp_iff, implies_true, Int.cast_ofNat_Int, forall_eq']
    · rw [dU_ne hp0, dS_ne hp0]
      unfold lb4_1
      simp only [hkd, ↓EVP0, EVQ0, EVQ1, EVQ2, EVQ3, EVQ4, EVA, EVK, EVF,EVFE, ↓reduceIte, Nat.reduceEqDiff, Nat.reduceAdd, Nat.reduceSub, Nat.reduceMul, Nat.reduceLT, Nat.reduceLeDiff, reduceCtorEq, Int.reduceToNat, Int.reduceLT, Int.reduceLE, Int.reduceAdd, Int.reduceSub, Int.reduceMul, Int.reduceNeg, Int.reduceEq, Nat.reduceMod, forall_eq_or_imp, forall_eq, forall_const, cond_true, cond_false, decide_true, decide_false, true_imp_iff, implies_true, Int.cast_ofNat_Int, forall_eq']
      intro _
      refine lwp_for (α := Unit) R.length (fun _ _ => True) (fun k _ => [(0, .rsl 3 l.length (dpsF l)), (3, .sc (.int .i16 by_)), (10, .rsl 1 R.length (intsF R)), (13, .sl 2 (p.length - 1) 3 0 p.length), (16, if mvL (R.take k) by_ = [] then .nsl else .sl 4 ((mvL (R.take k) by_).length - 1) 1 0 (mvL (R.take k) by_).length), (63, .rsl 1 R.length (intsF R)), (64, .sc (.int .i64 R.length)), (65, .sc (.int .i64 k))])
        (fun k _ => (0, .box (dpL (p.getD 0 default))) :: (0, .row 3 1 (fun i => List.take 3 (List.drop (i * 3) (dpL (p.getD 0 default))))) :: (p.length - 1, .row 3 p.length (apD p)) :: (if mvL (R.take k) by_ = [] then [] else [(0, .ints [(mvL (R.take k) by_).getD 0 0]), ((mvL (R.take k) by_).length - 1, .ints (mvL (R.take k) by_))])) () trivial ?_ (fun _ _ => Nat.zero_le _) ?_
      · rw [show mvL (R.take 0) by_ = [] from rfl]
        simp only [if_true]
        simp only [↓EVP0, EVQ0, EVQ1, EVQ2, EVQ3, EVQ4, EVA, EVK, EVF,EVFE, ↓reduceIte, Nat.reduceEqDiff, Nat.reduceAdd, Nat.reduceSub, Nat.reduceMul, Nat.reduceLT, Nat.reduceLeDiff, reduceCtorEq, Int.reduceToNat, Int.reduceLT, Int.reduceLE, Int.reduceAdd, Int.reduceSub, Int.reduceMul, Int.reduceNeg, Int.reduceEq, Nat.reduceMod, forall_eq_or_imp, forall_eq, forall_const, cond_true, cond_false, decide_true, decide_false, true_imp_iff, implies_true, Int.cast_ofNat_Int, forall_eq']
        exact ⟨dp_allC _, bs_all3, ap_allD⟩
      intro k _ hk _
      by_cases hk2 : k < R.length
      · have hkd : decide ((k : Int) < R.length) = true := decide_eq_true (by omega)
        have hxr := hRi _ (getD_mem 0 hk2)
        have kI : In64 ((k : Int) + 1) := by unfold In64; omega
        have kk : 0 ≤ (k : Int) ∧ (k : Int) < R.length := by omega
        have hxs : In64 (R.getD k 0 + by_) := hRs k hk2
        have hMl : (mvL (R.take k) by_).length = k := by unfold mvL; rw [List.length_map, List.length_take]; omega
        rw [mv_take hk2]
        generalize mvL (R.take k) by_ = Q at *
        by_cases hQ : Q = []
        · rw [if_pos hQ, if_pos hQ, hQ, List.nil_append, if_neg (by simp), if_neg (by simp)]
          unfold lb4_0
          simp only [hkd, ↓EVP0, EVQ0, EVQ1, EVQ2, EVQ3, EVQ4, EVA, EVK, EVF,EVFE, ↓reduceIte, Nat.reduceEqDiff, Nat.reduceAdd, Nat.reduceSub, Nat.reduceMul, Nat.reduceLT, Nat.reduceLeDiff, reduceCtorEq, Int.reduceToNat, Int.reduceLT, Int.reduceLE, Int.reduceAdd, Int.reduceSub, Int.reduceMul, Int.reduceNeg, Int.reduceEq, Nat.reduceMod, forall_eq_or_imp, forall_eq, forall_const, cond_true, cond_false, decide_true, decide_false, true_imp_iff, implies_true, Int.cast_ofNat_Int, forall_eq']
          exact ⟨kk, by unfold In64; omega, hxs, by unfold appRoom; omega, kI, hk2, (), dp_allC _, bs_all3, ap_allD⟩
        · rw [if_neg hQ, if_neg hQ, if_neg (by simp), if_neg (by simp), getD_appL (List.length_pos_iff.2 hQ)]
          unfold lb4_0
          simp only [hkd, List.take_length, ↓EVP0, EVQ0, EVQ1, EVQ2, EVQ3, EVQ4, EVA, EVK, EVF,EVFE, ↓reduceIte, Nat.reduceEqDiff, Nat.reduceAdd, Nat.reduceSub, Nat.reduceMul, Nat.reduceLT, Nat.reduceLeDiff, reduceCtorEq, Int.reduceToNat, Int.reduceLT, Int.reduceLE, Int.reduceAdd, Int.reduceSub, Int.reduceMul, Int.reduceNeg, Int.reduceEq, Nat.reduceMod, forall_eq_or_imp, forall_eq, forall_const, cond_true, cond_false, decide_true, decide_false, true_imp_iff, implies_true, Int.cast_ofNat_Int, forall_eq']
          have hq0 : 0 < Q.length := List.length_pos_iff.2 hQ
          have e1 : Q.length - 1 + 1 = (Q ++ [R.getD k 0 + by_]).length - 1 := by rw [List.length_append, List.length_singleton]; omega
          exact ⟨kk, by unfold In64; omega, hxs, Nat.le_refl _, by unfold appRoom; omega, kI, hk2, (), by rw [e1, List.length_append]; rfl, dp_allC _, bs_all3, ap_allD, e1⟩
      · obtain rfl : k = R.length := by omega
        have hkd : decide ((R.length : Int) < R.length) = false := decide_eq_false (by omega)
        have hMl : (mvL R by_).length = R.length := List.length_map _
        have hMne : mvL R by_ ≠ [] := List.ne_nil_of_length_pos (by omega)
        rw [List.take_length, if_neg hMne, if_neg hMne]
        unfold lb4_0
        simp only [hkd, ↓EVP0, EVQ0, EVQ1, EVQ2, EVQ3, EVQ4, EVA, EVK, EVF,EVFE, ↓reduceIte, Nat.reduceEqDiff, Nat.reduceAdd, Nat.reduceSub, Nat.reduceMul, Nat.reduceLT, Nat.reduceLeDiff, reduceCtorEq, Int.reduceToNat, Int.reduceLT, Int.reduceLE, Int.reduceAdd, Int.reduceSub, Int.reduceMul, Int.reduceNeg, Int.reduceEq, Nat.reduceMod, forall_eq_or_imp, forall_eq, forall_const, cond_true, cond_false, decide_true, decide_false, true_imp_iff, implies_true, Int.cast_ofNat_Int, forall_eq']
        refine callK_frz0 (al' := [.rsl 3 p.length (dpsF p), .rsl 1 R.length (intsF R)]) hc1 ⟨ro_deps (by simp [mkH]) rfl, ⟨rfl, trivial⟩, trivial⟩ ?_
        simp only [↓EVP0, EVQ0, EVQ1, EVQ2, EVQ3, EVQ4, EVA, EVK, EVF,EVFE, ↓reduceIte, Nat.reduceEqDiff, Nat.reduceAdd, Nat.reduceSub, Nat.reduceMul, Nat.reduceLT, Nat.reduceLeDiff, reduceCtorEq, Int.reduceToNat, Int.reduceLT, Int.reduceLE, Int.reduceAdd, Int.reduceSub, Int.reduceMul, Int.reduceNeg, Int.reduceEq, Nat.reduceMod, forall_eq_or_imp, forall_eq, forall_const, cond_true, cond_false, decide_true, decide_false, true_imp_iff, implies_true, Int.cast_ofNat_Int, forall_eq']
        (refine lops_ge_imp ?_; simp only [↓EVP0, EVQ0, EVQ1, EVQ2, EVQ3, EVQ4, EVA, EVK, EVF,EVFE, ↓reduceIte, Nat.reduceEqDiff, Nat.reduceAdd, Nat.reduceSub, Nat.reduceMul, Nat.reduceLT, Nat.reduceLeDiff, reduceCtorEq, Int.reduceToNat, Int.reduceLT, Int.reduceLE, Int.reduceAdd, Int.reduceSub, Int.reduceMul, Int.reduceNeg, Int.reduceEq, Nat.reduceMod, forall_eq_or_imp, forall_eq, forall_const, cond_true, cond_false, decide_true, decide_false, true_imp_iff, implies_true, Int.cast_ofNat_Int, forall_eq'])
        refine gCallK_frz0 (fun _ => hc2) (fun _ => ⟨⟨rfl, trivial⟩, roTo1_int (by simp [mkH]) rfl rfl, trivial⟩) ?_
        simp only [↓EVP0, EVQ0, EVQ1, EVQ2, EVQ3, EVQ4, EVA, EVK, EVF,EVFE, ↓reduceIte, Nat.reduceEqDiff, Nat.reduceAdd, Nat.reduceSub, Nat.reduceMul, Nat.reduceLT, Nat.reduceLeDiff, reduceCtorEq, Int.reduceToNat, Int.reduceLT, Int.reduceLE, Int.reduceAdd, Int.reduceSub, Int.reduceMul, Int.reduceNeg, Int.reduceEq, Nat.reduceMod, forall_eq_or_imp, forall_eq, forall_const, cond_true, cond_false, decide_true, decide_false, true_imp_iff, implies_true, Int.cast_ofNat_Int, forall_eq']
end Go.Proofs.Yteblljpbnpaplaa
namespace Go.Proofs.Yteblljpbnpaplaa
set_option linter.unusedSimpArgs false
set_option linter.unusedVariables false
open Go.ChangeShapes Go.WideShapes Go.ChangeAt Go.RowKit

theorem law_certificateParts (lvs : List LV) (h : fitAll Try.prog Try.f4.params.toList lvs) : Ev Try.prog 4 lvs (.sc (.bool true)) := by
  rw [Try.params4] at h
  obtain ⟨a0, l0, rfl, g0, h⟩ := all1 h
  obtain ⟨a1, l1, rfl, g1, h⟩ := all1 h
  obtain ⟨a2, l2, rfl, g2, h⟩ := all1 h
  obtain ⟨a3, l3, rfl, g3, h⟩ := all1 h
  obtain rfl := all0 h
  obtain ⟨l, il, hl, nl⟩ := arg_deps g0
  obtain ⟨c, rfl, hc⟩ := arg_u8 g1
  obtain ⟨k, ik, nk⟩ := arg_bools g2
  obtain ⟨b, rfl, hb⟩ := arg_i16 g3
  exact ev_im (bs := [dpsV l, .sc (.int .u8 c), boolsV k, .sc (.int .i16 b)]) ⟨il, Im.refl _, ik, Im.refl _, trivial⟩ (ev_lawParts l hl c hc k b hb)
set_option maxRecDepth 100000 in
theorem lifted_certificateParts (os : Os) (started : os.Started) (H : Type) (enc : TypeId × Value → H) :
    ReturnsInHanded {} Try.checked os 4 .any (Rows.certificatePartsSpec.pre6 enc Try.prog Try.f4 Rows.certificatePartsRow.domain false) (Rows.certificatePartsSpec.post enc Try.prog Try.f4 false true false false) := by
  refine law_lifted (C := Try.checked) (tb := 4) Try.own' started Try.laidOut' (by kernel_rfl) Try.func4
    (ChangeSpec.witness6 (enc := enc) (C := Try.checked) false ⟨#[], #[.slice none 0 0, .int .u8 0, .slice none 0 0, .int .i16 0], []⟩ 8 (by kernel_rfl) (by kernel_rfl) (by kernel_rfl) (by kernel_rfl))
    (by kernel_rfl) Try.underlying4 rfl (fun ds hd => ?_) (by kernel_rfl) (fun _ => trivial) law_certificateParts
  have hd : ds.length = 4 := hd
  match ds, hd with
  | [d1, d2, d3, d4], _ => exact ⟨rfl, rfl, rfl⟩
theorem certificateParts_holds : Rows.CertificatePartsSaid :=
  OpenClaim.holds_of_wide 4 Try.f4 rfl rfl rfl rfl rfl rfl rfl ⟨rfl, rfl, rfl, rfl, rfl⟩ rfl rfl rfl rfl rfl (by kernel_rfl) Try.func4 (by kernel_rfl)
    (of_decide_eq_true (by kernel_rfl)) (by unfold Func.isWrapper; first | (rw [if_pos (by decide +kernel)]; kernel_rfl) | (rw [if_neg (by decide +kernel)]; exact ⟨rfl, rfl⟩))
    (fun os started H enc _ => lifted_certificateParts os started H enc)
end Go.Proofs.Yteblljpbnpaplaa
