/- The arguments of the statements, opened: what does not depend on a chapter's data; The arguments of chapter 1's statements, opened; Chapter 1's example, and what its statements call; The law RationalTexts; Chapter 14: the number that a word is, in plain terms; Chapter 33: the number that a word is; Texts in plain terms: splitting at a byte; Sums and products are commutative and associative, and products distribute over sums; sums of lists; What was added can be subtracted, and what was multiplied by can be divided by; Comparison is an order that adding a number preserves; the greatest integer that is at most a number; sums, differences, products and quotients are those of the reference; The program's rational numbers as numbers; Nets: what stands for them; The loads of links as numbers; Which nets are valid; The arguments of the statements about nets, opened; demand.Valid, step by step; demand.Load, step by step; demand.Feasible and demand.Full, step by step; strings.Builder: what its methods do to a variable and its bytes; strings.Builder: WriteString, WriteByte; strings.Builder: String; The text of a net; Plain laws of loads: sums, smaller rates, full links; The example of chapter 33, and what the statements ask of sizes; Chapter 33: the loads of a sum of rates; Chapter 33: feasible rates stay feasible if one of them becomes smaller; Chapter 33: a net is valid exactly if the reference says so. Conditions: none. -/
import Derived.Test.YtdfiicpikcdokaaGreatDoorMF
import Derived.Lib.UnsafeStr
import Derived.Lib.Builder
import Derived.Shelf.RegionOpenPlain
import Derived.Lib.ItoaLen
namespace Go.Proofs.YtdfiicpikcdokaaGreatDoor
set_option linter.unusedSimpArgs false
set_option linter.unusedVariables false
open Go.RowKit
set_option maxRecDepth 100000

theorem fit_str {d : Nat} {t : TypeId} (ht : Tryz.prog.underlying t = some .string) {ls : List LV} (h : fitT Tryz.prog d t ls) : ∃ s : ByteArray, ls = [.sc (.string s)] ∧ s.size ≤ maxLen := by
  cases d with
  | zero => exact h.elim
  | succ d => unfold fitT at h; rw [ht] at h; exact h
theorem rsl_congr {z n : Nat} {f g : Nat → List LV} (h : ∀ i, i < n → f i = g i) {R : RO} {v : Value} (hr : Ro R (.rsl z n f) v) : Ro R (.rsl z n g) v := by
  cases hr with
  | rsl _ _ _ a cap b o w hc hm ha hf hcell hv hp =>
    exact .rsl _ _ _ a cap b o w hc hm ha (fun i hi => by rw [← h i hi]; exact hf i hi) hcell (fun i j c hi hj => hv i j c hi (by rw [h i hi]; exact hj)) hp
def Im (a b : LV) : Prop := ∀ R v, Ro R a v → Ro R b v
theorem Im.refl (a : LV) : Im a a := fun _ _ h => h
theorem Im.rsl {z n : Nat} {f g : Nat → List LV} (h : ∀ i, i < n → f i = g i) : Im (.rsl z n f) (.rsl z n g) := fun _ _ hr => rsl_congr h hr
theorem Im.agg {xs bs : List LV} (hl : xs.length = bs.length) (h : ∀ (i : Nat) (b : LV), bs[i]? = some b → ∃ a, xs[i]? = some a ∧ Im a b) : Im (.agg xs) (.agg bs) := by
  intro R v hr
  cases hr with
  | agg _ vs hs hc hp =>
    refine .agg _ _ (by omega) (fun i b hb => ?_) hp
    obtain ⟨a, ha, him⟩ := h i b hb
    exact him _ _ (hc i a ha)
def ImL : List LV → List LV → Prop
  | [], [] => True
  | a :: xs, b :: bs => Im a b ∧ ImL xs bs
  | _, _ => False
theorem ImL_get : ∀ {xs bs : List LV}, ImL xs bs → xs.length = bs.length ∧ ∀ (i : Nat) (b : LV), bs[i]? = some b → ∃ a, xs[i]? = some a ∧ Im a b
  | [], [], _ => ⟨rfl, fun i b h => by simp at h⟩
  | a :: xs, b :: bs, h => by
    obtain ⟨h1, h2⟩ := ImL_get h.2
    refine ⟨by simp [h1], fun i c hc => ?_⟩
    cases i with
    | zero => simp at hc; subst hc; exact ⟨a, rfl, h.1⟩
    | succ i => obtain ⟨x, hx, hx2⟩ := h2 i c (by simpa using hc); exact ⟨x, by simpa using hx, hx2⟩
  | [], _ :: _, h => h.elim
  | _ :: _, [], h => h.elim
theorem ev_im {P : Program} {f : FuncId} {xs bs : List LV} {r : LV} (h : ImL xs bs) (he : Ev P f bs r) : Ev P f xs r := by
  intro R w vs hR hgl hs ha
  obtain ⟨h1, h2⟩ := ImL_get h
  refine he R w vs hR hgl (by omega) (fun i b hb => ?_)
  obtain ⟨a, ha', him⟩ := h2 i b hb
  exact him _ _ (ha i a ha')

theorem arg_cell {t : TypeId} (hs : structT Tryz.prog t = false) {lv : LV} (h : fitA Tryz.prog t lv) : fitT Tryz.prog 20 t [lv] := by
  obtain ⟨ls, h1, ⟨h2, _⟩ | ⟨_, rfl⟩⟩ := h
  · rw [hs] at h2; simp at h2
  · exact h1
theorem all1 {t : TypeId} {ts : List TypeId} {l : List LV} (h : fitAll Tryz.prog (t :: ts) l) : ∃ a r, l = a :: r ∧ fitA Tryz.prog t a ∧ fitAll Tryz.prog ts r := by
  cases l with
  | nil => exact h.elim
  | cons a r => exact ⟨a, r, rfl, h.1, h.2⟩
theorem all0 {l : List LV} (h : fitAll Tryz.prog [] l) : l = [] := by
  cases l with
  | nil => rfl
  | cons a r => exact h.elim
theorem Tryz.own' : ownKnob Tryz.prog.godebug = none := by kernel_rfl
theorem Tryz.laidOut' : laidOutB Tryz.prog = true := by kernel_rfl
end Go.Proofs.YtdfiicpikcdokaaGreatDoor
namespace Go.Proofs.YtdfiicpikcdokaaGreatDoor
set_option linter.unusedSimpArgs false
set_option linter.unusedVariables false
open Go.RowKit
set_option maxRecDepth 100000

end Go.Proofs.YtdfiicpikcdokaaGreatDoor
namespace Go.Proofs.YtdfiicpikcdokaaGreatDoor
set_option linter.unusedSimpArgs false
set_option linter.unusedVariables false
open Go.RowKit
set_option maxRecDepth 20000

end Go.Proofs.YtdfiicpikcdokaaGreatDoor
namespace Go.Proofs.YtdfiicpikcdokaaGreatDoor
set_option linter.unusedSimpArgs false
set_option linter.unusedVariables false
open Go.RowKit
set_option maxRecDepth 20000

theorem vld_rtok {r : Rt} (hv : vldR r = true) : RtOk r := by
  have hb := vld_bnd hv
  exact ⟨by unfold In64; omega, by unfold In64; omega⟩
end Go.Proofs.YtdfiicpikcdokaaGreatDoor
namespace Go.Proofs.YtdfiicpikcdokaaGreatDoor
set_option linter.unusedSimpArgs false
set_option linter.unusedVariables false
open Go.RowKit
set_option maxRecDepth 20000

def dgV : By → Nat → Option Nat
  | [], n => some n
  | c :: r, n => if c.toNat < 48 ∨ 57 < c.toNat then none else dgV r (10 * n + (c.toNat - 48))
def nmE (w : By) : Option Nat := if w.length < 1 ∨ 9 < w.length ∨ (1 < w.length ∧ w.getD 0 0 = 48) then none else dgV w 0
theorem dgV_app (c : UInt8) : ∀ (w : By) (n : Nat), dgV (w ++ [c]) n = match dgV w n with
    | none => none
    | some m => if c.toNat < 48 ∨ 57 < c.toNat then none else some (10 * m + (c.toNat - 48))
  | [], n => rfl
  | b :: r, n => by
    show (if b.toNat < 48 ∨ 57 < b.toNat then none else dgV (r ++ [c]) (10 * n + (b.toNat - 48))) = match (if b.toNat < 48 ∨ 57 < b.toNat then none else dgV r (10 * n + (b.toNat - 48))) with
      | none => none
      | some m => _
    by_cases h : b.toNat < 48 ∨ 57 < b.toNat
    · rw [if_pos h, if_pos h]
    · rw [if_neg h, if_neg h]; exact dgV_app c r _
theorem dgV_inv : ∀ (k : Nat) (w : By), w.length = k → ∀ u, 1 ≤ k → (1 < k → w.getD 0 0 ≠ 48) → dgV w 0 = some u → w = Lib.decDigits u := by
  intro k
  induction k with
  | zero => intro w _ u h; omega
  | succ k ih =>
    intro w hw u _ hh hd
    have hne : w ≠ [] := by intro e; subst e; simp at hw
    obtain ⟨v, c, rfl⟩ : ∃ v c, w = v ++ [c] := ⟨w.dropLast, w.getLast hne, (List.dropLast_concat_getLast hne).symm⟩
    rw [List.length_append, List.length_singleton] at hw
    rw [dgV_app] at hd
    have hcu : ∀ x : Nat, ¬ (c.toNat < 48 ∨ 57 < c.toNat) → x % 10 = c.toNat - 48 → UInt8.ofNat (48 + x % 10) = c := by
      intro x h1 h2
      apply UInt8.toNat_inj.1
      rw [dig_nat (Nat.mod_lt _ (by omega)), h2]; omega
    by_cases hk : k = 0
    · have hv : v = [] := List.length_eq_zero_iff.1 (by omega)
      subst hv
      change (if c.toNat < 48 ∨ 57 < c.toNat then none else some (10 * 0 + (c.toNat - 48))) = some u at hd
      split at hd
      · simp at hd
      · rename_i hc
        injection hd with hd
        rw [ddS (by omega), hcu u hc (by omega)]; rfl
    · have hv0 : v.getD 0 0 ≠ 48 := by
        have := hh (by omega)
        match v, hw with
        | [], hw => simp at hw; omega
        | b :: r, _ => exact this
      cases hm : dgV v 0 with
      | none => rw [hm] at hd; simp at hd
      | some m =>
        rw [hm] at hd
        have h1 := ih v (by omega) m (by omega) (fun _ => hv0) hm
        simp only at hd
        split at hd
        · simp at hd
        · rename_i hc
          injection hd with hd
          have hm1 : 1 ≤ m := by
            rcases Nat.eq_zero_or_pos m with h0 | h0
            · subst h0; rw [h1, ddS (by omega)] at hv0; exact absurd rfl hv0
            · exact h0
          rw [ddB (n := u) (by omega), show u / 10 = m by omega, ← h1, hcu u hc (by omega)]
theorem dgV_le : ∀ (w : By) (n u : Nat), dgV w n = some u → u < (n + 1) * 10 ^ w.length
  | [], n, u, h => by injection h with h; subst h; simp
  | c :: r, n, u, h => by
    unfold dgV at h
    split at h
    · simp at h
    · have := dgV_le r _ u h
      rw [List.length_cons, Nat.pow_succ]
      refine Nat.lt_of_lt_of_le this ?_
      rw [Nat.mul_comm (10 ^ r.length) 10, ← Nat.mul_assoc]
      exact Nat.mul_le_mul_right _ (by omega)
theorem nmE_inv {w : By} {u : Nat} (h : nmE w = some u) : w = Lib.decDigits u ∧ u < 1000000000 := by
  unfold nmE at h
  split at h
  · simp at h
  · rename_i hc
    refine ⟨dgV_inv w.length w rfl u (by omega) (fun h1 h2 => hc (.inr (.inr ⟨h1, h2⟩))) h, ?_⟩
    have h1 := dgV_le w 0 u h
    have h2 : 10 ^ w.length ≤ 10 ^ 9 := Nat.pow_le_pow_right (by omega) (by omega)
    have h3 : (10 : Nat) ^ 9 = 1000000000 := by decide
    omega
end Go.Proofs.YtdfiicpikcdokaaGreatDoor
namespace Go.Proofs.YtdfiicpikcdokaaGreatDoor
set_option linter.unusedSimpArgs false
set_option linter.unusedVariables false
open Go.RowKit
set_option maxRecDepth 20000

theorem u8wV {c : UInt8} (h1 : 48 ≤ c.toNat) : IntKind.u8.wrap ((c.toNat : Int) - 48) = (c.toNat : Int) - 48 := by
  have := c.toNat_lt
  unfold IntKind.wrap
  simp [IntKind.bits, IntKind.signed]
  omega
theorem strI_getV (s : By) (i : Nat) (h : i < s.length) : (strI (strB s)).getD i 0 = ((s.getD i 0).toNat : Int) := by
  unfold strI
  rw [strB_data, List.getD_eq_getElem?_getD, List.getElem?_map, List.getElem?_eq_getElem h, List.getD_eq_getElem?_getD, List.getElem?_eq_getElem h]
  rfl
theorem strI_lenV (s : By) : (strI (strB s)).length = s.length := by
  unfold strI
  rw [strB_data, List.length_map]
theorem dgV_endV {s : By} {i n : Nat} {R : Option Nat} (hr : dgV (s.drop i) n = R) (h : ¬ (i : Int) < s.length) : R = some n := by
  rw [List.drop_eq_nil_of_le (by omega)] at hr
  exact hr.symm
theorem dgV_stepV {s : By} {i n : Nat} {R : Option Nat} (hr : dgV (s.drop i) n = R) (h : i < s.length) : (if (s.getD i 0).toNat < 48 ∨ 57 < (s.getD i 0).toNat then none else dgV (s.drop (i + 1)) (10 * n + ((s.getD i 0).toNat - 48))) = R := by
  rw [List.drop_eq_getElem_cons h] at hr
  rw [List.getD_eq_getElem?_getD, List.getElem?_eq_getElem h]
  exact hr
def nm3 (w : By) : Option Nat := if w.length < 1 ∨ 3 < w.length ∨ (1 < w.length ∧ w.getD 0 0 = 48) then none else dgV w 0
theorem nm3_eq (w : By) : nm3 w = if 3 < w.length then none else nmE w := by
  unfold nm3 nmE
  by_cases h : 3 < w.length
  · rw [if_pos h, if_pos (.inr (.inl h))]
  · rw [if_neg h]
    have h9 : ¬ 9 < w.length := by omega
    simp only [h, h9, false_or]
theorem nm3_inv {w : By} {u : Nat} (h : nm3 w = some u) : w = Lib.decDigits u ∧ u < 1000 ∧ w.length ≤ 3 := by
  rw [nm3_eq] at h
  split at h
  · cases h
  · rename_i h3
    have h1 := nmE_inv h
    refine ⟨h1.1, ?_, by omega⟩
    have hd : dgV w 0 = some u := by
      unfold nmE at h
      split at h
      · cases h
      · exact h
    have h2 := dgV_le w 0 u hd
    have hp : 10 ^ w.length ≤ 10 ^ 3 := Nat.pow_le_pow_right (by omega) (by omega)
    rw [show (10 : Nat) ^ 3 = 1000 by decide] at hp
    omega
theorem num_cond (s : By) : (bif bif decide ((s.length : Int) < 1) then true else decide (3 < (s.length : Int)) then true
      else bif decide (1 < (s.length : Int)) then decide (((s.getD 0 0).toNat : Int) = 48) else false) = decide (s.length < 1 ∨ 3 < s.length ∨ (1 < s.length ∧ s.getD 0 0 = 48)) := by
  have e4 : (((s.getD 0 0).toNat : Int) = 48) ↔ s.getD 0 0 = 48 := ⟨fun h => UInt8.toNat_inj.1 (by rw [show (48 : UInt8).toNat = 48 from rfl]; omega), fun h => by rw [h]; rfl⟩
  have e1 : (decide ((s.length : Int) < 1)) = decide (s.length < 1) := decide_eq_decide.2 (by omega)
  have e2 : (decide (3 < (s.length : Int))) = decide (3 < s.length) := decide_eq_decide.2 (by omega)
  have e3 : (decide (1 < (s.length : Int))) = decide (1 < s.length) := decide_eq_decide.2 (by omega)
  have e5 : decide (((s.getD 0 0).toNat : Int) = 48) = decide (s.getD 0 0 = 48) := decide_eq_decide.2 e4
  rw [e1, e2, e3, e5]
  by_cases k1 : s.length < 1 <;> by_cases k2 : 3 < s.length <;> by_cases k3 : 1 < s.length <;> by_cases k4 : s.getD 0 0 = 48 <;> simp only [k1, k2, k3, k4, decide_true, decide_false, cond_true, cond_false, true_or, or_true, false_or, or_false, and_true, true_and, and_false, false_and, and_self, or_self]
theorem ev_number33 (s : By) (hs : s.length ≤ 100000) : Ev Tryz.prog 47 [.sc (.string (strB s))] (.tup [.sc (.int .i64 ((nm3 s).getD 0 : Nat)), .sc (.bool (nm3 s).isSome)]) := by
  have hE : nm3 s = if s.length < 1 ∨ 3 < s.length ∨ (1 < s.length ∧ s.getD 0 0 = 48) then none else dgV s 0 := rfl
  generalize nm3 s = R at *
  refine ev_fn Tryz.func47 comp47 (show 1 ≤ Tryz.f47.ntmps by decide) ?_; unfold cf47 rf47; simp only [↓EVP0, EVQ0, EVQ1, EVQ2, EVQ3, EVQ4, EVA, EVK, EVFR, ↓reduceIte, Nat.reduceEqDiff, Nat.reduceAdd, Nat.reduceSub, Nat.reduceMul, Nat.reduceLT, Nat.reduceLeDiff, reduceCtorEq, Int.reduceToNat, Int.reduceLT, Int.reduceLE, Int.reduceAdd, Int.reduceSub, Int.reduceMul, Int.reduceNeg, Int.reduceEq, Nat.reduceMod, forall_eq_or_imp, forall_eq, forall_const, EVY, true_imp_iff, implies_true, Int.cast_ofNat_Int, forall_eq']
  rw [strB_size, sb_str]
  refine ⟨fun h => ?_, ?_⟩
  · by_cases e : 1 < s.length
    · omega
    · rw [decide_eq_false (show ¬ (1 : Int) < s.length by omega)] at h; simp at h
  rw [num_cond]
  refine ⟨fun h => ?_, fun h => ?_⟩
  · rw [if_pos (of_decide_eq_true h)] at hE
    rw [hE]; exact ⟨rfl, rfl⟩
  have hc2 := of_decide_eq_false h
  rw [if_neg hc2] at hE
  have hs : s.length ≤ 3 := by omega
  refine ⟨by unfold maxLen; omega, fun _ => ?_⟩
  refine lwp_for (α := Nat) s.length (fun i n => n < 10 ^ i ∧ dgV (s.drop i) n = R) (fun i n => [(4, .sc (.int .i64 (n : Nat))), (26, .rsl 1 (strI (strB s)).length (bysG (strI (strB s)))), (27, .sc (.int .i64 s.length)), (28, .sc (.int .i64 i))]) (fun _ _ => []) 0 ⟨by simp, hE.symm⟩ ?_ (fun _ _ => Nat.le_refl _) ?_
  · simp only [↓EVP0, EVQ0, EVQ1, EVQ2, EVQ3, EVQ4, EVA, EVK, EVFR, ↓reduceIte, Nat.reduceEqDiff, Nat.reduceAdd, Nat.reduceSub, Nat.reduceMul, Nat.reduceLT, Nat.reduceLeDiff, reduceCtorEq, Int.reduceToNat, Int.reduceLT, Int.reduceLE, Int.reduceAdd, Int.reduceSub, Int.reduceMul, Int.reduceNeg, Int.reduceEq, Nat.reduceMod, forall_eq_or_imp, forall_eq, forall_const, EVY, true_imp_iff, implies_true, Int.cast_ofNat_Int, forall_eq']
    rw [strI_lenV]
  intro i n hi ⟨hn, hr⟩
  have hpw : 10 ^ i ≤ 10 ^ 3 := Nat.pow_le_pow_right (by omega) (by omega)
  rw [show (10 : Nat) ^ 3 = 1000 by decide] at hpw
  unfold lb47_0
  simp only [↓EVP0, EVQ0, EVQ1, EVQ2, EVQ3, EVQ4, EVA, EVK, EVFR, ↓reduceIte, Nat.reduceEqDiff, Nat.reduceAdd, Nat.reduceSub, Nat.reduceMul, Nat.reduceLT, Nat.reduceLeDiff, reduceCtorEq, Int.reduceToNat, Int.reduceLT, Int.reduceLE, Int.reduceAdd, Int.reduceSub, Int.reduceMul, Int.reduceNeg, Int.reduceEq, Nat.reduceMod, forall_eq_or_imp, forall_eq, forall_const, EVY, true_imp_iff, implies_true, Int.cast_ofNat_Int, forall_eq']
  refine ⟨fun hg => ?_, fun hg => ?_⟩
  · have hi2 : i < s.length := by have := of_decide_eq_true hg; omega
    have hst := dgV_stepV hr hi2
    rw [strI_getV s i hi2, strI_lenV]
    refine ⟨⟨by omega, by omega⟩, fun hg3 => ?_, fun hg3 => ?_⟩
    · have : (s.getD i 0).toNat < 48 ∨ 57 < (s.getD i 0).toNat := by
        revert hg3
        by_cases e1 : ((s.getD i 0).toNat : Int) < 48 <;> by_cases e2 : 57 < ((s.getD i 0).toNat : Int) <;> simp [e1, e2] <;> omega
      rw [if_pos this] at hst
      rw [← hst]; exact ⟨rfl, rfl⟩
    · have h3 : ¬ (s.getD i 0).toNat < 48 ∧ ¬ 57 < (s.getD i 0).toNat := by
        revert hg3
        by_cases e1 : ((s.getD i 0).toNat : Int) < 48 <;> by_cases e2 : 57 < ((s.getD i 0).toNat : Int) <;> simp [e1, e2] <;> omega
      rw [if_neg (by omega)] at hst
      rw [u8wV (by omega)]
      exact ⟨by unfold In64; omega, by unfold In64; omega, by unfold In64; omega, by unfold In64; omega, hi2, 10 * n + ((s.getD i 0).toNat - 48), ⟨by rw [Nat.pow_succ]; omega, hst⟩, by omega⟩
  · have := dgV_endV hr (of_decide_eq_false hg)
    rw [this]; exact ⟨rfl, rfl⟩
theorem ev_rnumber33 (s : By) (hs : s.length ≤ 100000) : Ev Tryz.prog 52 [.sc (.string (strB s))] (.sc (.int .i64 (match nm3 s with | some u => (u : Int) | none => -1))) := by
  have hE : nm3 s = if s.length < 1 ∨ 3 < s.length ∨ (1 < s.length ∧ s.getD 0 0 = 48) then none else dgV s 0 := rfl
  generalize nm3 s = R at *
  refine ev_fn Tryz.func52 comp52 (show 1 ≤ Tryz.f52.ntmps by decide) ?_; unfold cf52 rf52; simp only [↓EVP0, EVQ0, EVQ1, EVQ2, EVQ3, EVQ4, EVA, EVK, EVFR, ↓reduceIte, Nat.reduceEqDiff, Nat.reduceAdd, Nat.reduceSub, Nat.reduceMul, Nat.reduceLT, Nat.reduceLeDiff, reduceCtorEq, Int.reduceToNat, Int.reduceLT, Int.reduceLE, Int.reduceAdd, Int.reduceSub, Int.reduceMul, Int.reduceNeg, Int.reduceEq, Nat.reduceMod, forall_eq_or_imp, forall_eq, forall_const, EVY, true_imp_iff, implies_true, Int.cast_ofNat_Int, forall_eq']
  rw [strB_size, sb_str]
  refine ⟨fun h => ?_, ?_⟩
  · by_cases e : 1 < s.length
    · omega
    · rw [decide_eq_false (show ¬ (1 : Int) < s.length by omega)] at h; simp at h
  rw [num_cond]
  refine ⟨fun h => ?_, fun h => ?_⟩
  · rw [if_pos (of_decide_eq_true h)] at hE
    rw [hE]
  have hc2 := of_decide_eq_false h
  rw [if_neg hc2] at hE
  have hs : s.length ≤ 3 := by omega
  refine lwp_for (α := Nat) s.length (fun i n => n < 10 ^ i ∧ dgV (s.drop i) n = R) (fun i n => [(0, .sc (.string (strB s))), (3, .sc (.int .i64 (n : Nat))), (4, .sc (.int .i64 i))]) (fun _ _ => []) 0 ⟨by simp, hE.symm⟩ ?_ (fun _ _ => Nat.le_refl _) ?_
  · simp only [↓EVP0, EVQ0, EVQ1, EVQ2, EVQ3, EVQ4, EVA, EVK, EVFR, ↓reduceIte, Nat.reduceEqDiff, Nat.reduceAdd, Nat.reduceSub, Nat.reduceMul, Nat.reduceLT, Nat.reduceLeDiff, reduceCtorEq, Int.reduceToNat, Int.reduceLT, Int.reduceLE, Int.reduceAdd, Int.reduceSub, Int.reduceMul, Int.reduceNeg, Int.reduceEq, Nat.reduceMod, forall_eq_or_imp, forall_eq, forall_const, EVY, true_imp_iff, implies_true, Int.cast_ofNat_Int, forall_eq']
  intro i n hi ⟨hn, hr⟩
  have hpw : 10 ^ i ≤ 10 ^ 3 := Nat.pow_le_pow_right (by omega) (by omega)
  rw [show (10 : Nat) ^ 3 = 1000 by decide] at hpw
  unfold lb52_0
  simp only [↓EVP0, EVQ0, EVQ1, EVQ2, EVQ3, EVQ4, EVA, EVK, EVFR, ↓reduceIte, Nat.reduceEqDiff, Nat.reduceAdd, Nat.reduceSub, Nat.reduceMul, Nat.reduceLT, Nat.reduceLeDiff, reduceCtorEq, Int.reduceToNat, Int.reduceLT, Int.reduceLE, Int.reduceAdd, Int.reduceSub, Int.reduceMul, Int.reduceNeg, Int.reduceEq, Nat.reduceMod, forall_eq_or_imp, forall_eq, forall_const, EVY, true_imp_iff, implies_true, Int.cast_ofNat_Int, forall_eq']
  rw [strB_size, sb_str]
  refine ⟨fun hg => ?_, fun hg => ?_⟩
  · have hi2 : i < s.length := by have := of_decide_eq_true hg; omega
    have hst := dgV_stepV hr hi2
    refine ⟨⟨by omega, by omega⟩, fun _ => ⟨by omega, by omega⟩, fun hg3 => ?_, fun hg3 => ?_⟩
    · have : (s.getD i 0).toNat < 48 ∨ 57 < (s.getD i 0).toNat := by
        revert hg3
        by_cases e1 : ((s.getD i 0).toNat : Int) < 48 <;> by_cases e2 : 57 < ((s.getD i 0).toNat : Int) <;> simp [e1, e2] <;> omega
      rw [if_pos this] at hst
      rw [← hst]
    · have h3 : ¬ (s.getD i 0).toNat < 48 ∧ ¬ 57 < (s.getD i 0).toNat := by
        revert hg3
        by_cases e1 : ((s.getD i 0).toNat : Int) < 48 <;> by_cases e2 : 57 < ((s.getD i 0).toNat : Int) <;> simp [e1, e2] <;> omega
      rw [if_neg (by omega)] at hst
      rw [u8wV (by omega)]
      exact ⟨by unfold In64; omega, ⟨by omega, by omega⟩, by unfold In64; omega, by unfold In64; omega, by unfold In64; omega, hi2, 10 * n + ((s.getD i 0).toNat - 48), ⟨by rw [Nat.pow_succ]; omega, hst⟩, by omega⟩
  · have := dgV_endV hr (of_decide_eq_false hg)
    rw [this]
end Go.Proofs.YtdfiicpikcdokaaGreatDoor
namespace Go.Proofs.YtdfiicpikcdokaaGreatDoor
set_option linter.unusedSimpArgs false
set_option linter.unusedVariables false
open Go.RowKit
set_option maxRecDepth 20000

theorem lib_split (c : UInt8) : ∀ (k : Nat) (s : ByteArray), Lib.countB s (strB [c]) = k → Lib.splitB (strB [c]) 0 k s = (splE c s.data.toList).map strB := by
  intro k
  induction k with
  | zero =>
    intro s hk
    have h0 : (cutE c s.data.toList).2.2 = false := by
      rcases idx_cut c s.data.toList with ⟨h1, _⟩ | ⟨i, h1, h2, h3, _⟩
      · exact h1
      · have := Lib.countB_hit s (strB [c]) i (by rw [strB_size]; simp) (by unfold Lib.indexB; rw [strB_data]; exact h2)
        omega
    rw [spl_cut, h0]
    show [s] = _
    simp only [Bool.false_eq_true, if_false, List.map_cons, List.map_nil]
    rw [strB_of]
  | succ k ih =>
    intro s hk
    rcases idx_cut c s.data.toList with ⟨h1, h2, _⟩ | ⟨i, h1, h2, h3, h4, h5⟩
    · have := Lib.countB_miss s (strB [c]) (by unfold Lib.indexB; rw [strB_data]; exact h2)
      omega
    · have hi : Lib.indexB s (strB [c]) = i := by unfold Lib.indexB; rw [strB_data]; exact h2
      have hc := Lib.countB_hit s (strB [c]) i (by rw [strB_size]; simp) hi
      have hsz : (strB [c]).size = 1 := by rw [strB_size]; rfl
      have hx : (s.extract (i + (strB [c]).size) s.size).data.toList = s.data.toList.drop (i + 1) := by
        rw [Lib.extract_data, hsz]
        apply List.take_of_length_le
        rw [List.length_drop, Array.length_toList]
        exact Nat.le_refl _
      have hy : s.extract 0 (i + 0) = strB (s.data.toList.take i) := by
        rw [← strB_of (s.extract 0 (i + 0)), Lib.extract_data]; rfl
      rw [Lib.splitB_hit _ _ _ _ i hi, ih _ (by omega), hx, hy, spl_cut c s.data.toList, h1, if_pos rfl, List.map_cons, h4, h5]
def wsV (ws : List By) : LV := .rsl 1 ws.length (txsF (ws.map strB))
theorem ev_split (l : By) (c : UInt8) (hs : l.length < 4294967281) : Ev Tryz.prog 26 [.sc (.string (strB l)), .sc (.string (strB [c]))] (wsV (splE c l)) := by
  have h := ev_splitS (strB l) (strB [c]) (by rw [strB_size]; exact hs) (by rw [strB_size]; simp)
  have h2 := lib_split c _ (strB l) rfl
  have h3 := Lib.splitB_all (strB [c]) (by rw [strB_size]; simp) 0 _ (strB l) rfl
  rw [h2] at h h3
  rw [strB_data] at h h3
  rw [List.length_map] at h3
  rw [← h3] at h
  exact h
end Go.Proofs.YtdfiicpikcdokaaGreatDoor
namespace Go.Proofs.YtdfiicpikcdokaaGreatDoor
set_option linter.unusedSimpArgs false
set_option linter.unusedVariables false
open Go.RowKit
set_option maxRecDepth 20000

theorem addR_v {a b : Rt} (h : (addR a b).2 = 0) : vldR a = true ∧ vldR b = true ∧ addR a b = addE (nrmR a) (nrmR b) ∧ Low (addR a b).1 := by
  by_cases hv : vldR a = true ∧ vldR b = true
  · have e : addR a b = addE (nrmR a) (nrmR b) := by unfold addR; rw [if_pos hv]
    rw [e] at h ⊢
    exact ⟨hv.1, hv.2, rfl, (addE_fr (vld_low hv.1) (vld_low hv.2) h).1⟩
  · unfold addR at h; rw [if_neg hv] at h; simp at h
end Go.Proofs.YtdfiicpikcdokaaGreatDoor
namespace Go.Proofs.YtdfiicpikcdokaaGreatDoor
set_option linter.unusedSimpArgs false
set_option linter.unusedVariables false
open Go.RowKit
set_option maxRecDepth 20000

end Go.Proofs.YtdfiicpikcdokaaGreatDoor
namespace Go.Proofs.YtdfiicpikcdokaaGreatDoor
set_option linter.unusedSimpArgs false
set_option linter.unusedVariables false
open Go.RowKit
set_option maxRecDepth 20000

theorem cmpR_E {a b : Rt} (ha : vldR a = true) (hb : vldR b = true) : cmpR a b = cmpE (nrmR a) (nrmR b) := by unfold cmpR; rw [if_pos ⟨ha, hb⟩]
theorem int_vld {n : Int} (h : -1152921504606846976 ≤ n ∧ n ≤ 1152921504606846976) : vldR ⟨n, 1⟩ = true ∧ nrmR ⟨n, 1⟩ = ⟨n, 1⟩ := by
  refine low_vld ⟨by simp, by simp, h.1, h.2, ?_⟩
  exact Nat.coprime_one_right _
end Go.Proofs.YtdfiicpikcdokaaGreatDoor
namespace Go.Proofs.YtdfiicpikcdokaaGreatDoor
set_option linter.unusedSimpArgs false
set_option linter.unusedVariables false
open Go.RowKit
set_option maxRecDepth 20000

def qv (r : Rt) : Rat := Rat.divInt r.n r.d
theorem qv_fr {S : Rt} {X : Int} {Y : Nat} (hS : 1 ≤ S.d) (hY : 0 < Y) (h : S.n * Y = X * S.d) : qv S = Rat.divInt X (Y : Int) := by
  unfold qv
  rw [Rat.divInt_eq_divInt_iff (by omega) (by omega)]; exact h
theorem vld_zero {r : Rt} (h : vldR r = true) (h0 : r.d = 0) : r.n = 0 := by
  unfold vldR at h
  rw [h0] at h
  simp at h
  exact h
theorem qv_nrm {r : Rt} (h : vldR r = true) : qv (nrmR r) = qv r := by
  unfold nrmR
  by_cases e : r.d = 0
  · rw [if_pos e]
    unfold qv
    rw [vld_zero h e, e]
    simp
  · rw [if_neg e]
theorem qv_addE {A B : Rt} (a : Low A) (b : Low B) (h : (addE A B).2 = 0) : qv (addE A B).1 = qv A + qv B := by
  obtain ⟨h1, h2⟩ := addE_fr a b h
  rw [qv_fr h1.1 (pos2 a b) h2]
  unfold qv
  have := a.1
  have := b.1
  rw [Rat.divInt_add_divInt _ _ (by omega) (by omega), Int.natCast_mul, abs_d a.1, abs_d b.1]
theorem qv_add {a b : Rt} (h : (addR a b).2 = 0) : qv (addR a b).1 = qv a + qv b := by
  obtain ⟨h1, h2, h3, _⟩ := addR_v h
  rw [h3] at h ⊢
  rw [qv_addE (vld_low h1) (vld_low h2) h, qv_nrm h1, qv_nrm h2]
theorem add_vld {a b : Rt} (h : (addR a b).2 = 0) : vldR (addR a b).1 = true := (low_vld (addR_v h).2.2.2).1
end Go.Proofs.YtdfiicpikcdokaaGreatDoor
namespace Go.Proofs.YtdfiicpikcdokaaGreatDoor
set_option linter.unusedSimpArgs false
set_option linter.unusedVariables false
open Go.RowKit
set_option maxRecDepth 20000

theorem take_succ_getD {α : Type} (d : α) (l : List α) (i : Nat) (h : i < l.length) : l.take (i + 1) = l.take i ++ [l.getD i d] := by
  rw [List.take_add_one, List.getElem?_eq_getElem h, List.getD_eq_getElem?_getD, List.getElem?_eq_getElem h]; rfl
theorem getD_mem {α : Type} (d : α) {l : List α} {i : Nat} (h : i < l.length) : l.getD i d ∈ l := by
  rw [List.getD_eq_getElem?_getD, List.getElem?_eq_getElem h]; simp
structure Fl where
  links : List Int
  bnd : Bool
  dem : Rt
instance : Inhabited Fl := ⟨⟨[], false, ⟨0, 0⟩⟩⟩
structure Nt where
  caps : List Rt
  fls : List Fl
def flL (f : Fl) : List LV := [.rsl 1 f.links.length (intsF f.links), .sc (.bool f.bnd), .sc (.int .i64 f.dem.n), .sc (.int .i64 f.dem.d)]
def flsF (l : List Fl) (i : Nat) : List LV := flL (l.getD i default)
def netV (n : Nt) : LV := .agg [.rsl 2 n.caps.length (rtsF n.caps), .rsl 4 n.fls.length (flsF n.fls)]
theorem flsF_eq (l : List Fl) (i : Nat) : flsF l i = [.rsl 1 (l.getD i default).links.length (intsF (l.getD i default).links), .sc (.bool (l.getD i default).bnd), .sc (.int .i64 (l.getD i default).dem.n), .sc (.int .i64 (l.getD i default).dem.d)] := rfl
structure NtOk (n : Nt) : Prop where
  caps : ∀ r, r ∈ n.caps → RtOk r
  links : ∀ f, f ∈ n.fls → ∀ x, x ∈ f.links → In64 x
  dem : ∀ f, f ∈ n.fls → RtOk f.dem
end Go.Proofs.YtdfiicpikcdokaaGreatDoor
namespace Go.Proofs.YtdfiicpikcdokaaGreatDoor
set_option linter.unusedSimpArgs false
set_option linter.unusedVariables false
open Go.RowKit
set_option maxRecDepth 20000

def prs : List Fl → List Rt → List (Int × Rt)
  | f :: fs, r :: rs => f.links.map (fun l => (l, r)) ++ prs fs rs
  | _, _ => []
def loadA : List (Int × Rt) → List Rt → List Rt × Int
  | [], L => (L, 0)
  | p :: t, L => if (addR (L.getD p.1.toNat default) p.2).2 = 0 then loadA t (L.set p.1.toNat (addR (L.getD p.1.toNat default) p.2).1) else ([], (addR (L.getD p.1.toNat default) p.2).2)
def sq : List (Int × Rt) → Nat → Rat
  | [], _ => 0
  | p :: t, j => (if p.1 = (j : Int) then qv p.2 else 0) + sq t j
theorem prs_app : ∀ {a b : List Fl} {c d : List Rt}, a.length = c.length → prs (a ++ b) (c ++ d) = prs a c ++ prs b d
  | [], b, [], d, _ => by simp [prs]
  | f :: a, b, r :: c, d, h => by
    simp only [List.cons_append, prs, List.append_assoc]
    rw [prs_app (by simpa using h)]
  | [], _, _ :: _, _, h => by simp at h
  | _ :: _, _, [], _, h => by simp at h
theorem prs_take {fs : List Fl} {rs : List Rt} (h : fs.length = rs.length) {i : Nat} (hi : i < fs.length) : prs (fs.take (i + 1)) (rs.take (i + 1)) = prs (fs.take i) (rs.take i) ++ (fs.getD i default).links.map fun l => (l, rs.getD i default) := by
  rw [take_succ_getD default fs i hi, take_succ_getD default rs i (by omega), prs_app (by simp; omega)]
  simp [prs]
theorem prs_split {fs : List Fl} {rs : List Rt} (h : fs.length = rs.length) (i : Nat) : prs fs rs = prs (fs.take i) (rs.take i) ++ prs (fs.drop i) (rs.drop i) := by
  rw [← prs_app (by simp; omega), List.take_append_drop, List.take_append_drop]
theorem loadA_app : ∀ {a b : List (Int × Rt)} {L : List Rt}, loadA (a ++ b) L = if (loadA a L).2 = 0 then loadA b (loadA a L).1 else loadA a L
  | [], b, L => by simp [loadA]
  | p :: a, b, L => by
    simp only [List.cons_append, loadA]
    split
    · exact loadA_app
    · rename_i h; simp [h]
theorem loadA_snoc {a : List (Int × Rt)} {L M : List Rt} (h : loadA a L = (M, 0)) (l : Int) (r : Rt) (h2 : (addR (M.getD l.toNat default) r).2 = 0) : loadA (a ++ [(l, r)]) L = (M.set l.toNat (addR (M.getD l.toNat default) r).1, 0) := by
  rw [loadA_app, h, if_pos rfl]
  unfold loadA
  rw [if_pos h2]; rfl
theorem loadA_fail {a b : List (Int × Rt)} {L M : List Rt} (h : loadA a L = (M, 0)) (l : Int) (r : Rt) (h2 : (addR (M.getD l.toNat default) r).2 ≠ 0) : loadA (a ++ (l, r) :: b) L = ([], (addR (M.getD l.toNat default) r).2) := by
  rw [loadA_app, h, if_pos rfl]
  unfold loadA
  rw [if_neg h2]
theorem set_vld {L : List Rt} {k : Nat} {r : Rt} (h : ∀ x, x ∈ L → vldR x = true) (hr : vldR r = true) : ∀ x, x ∈ L.set k r → vldR x = true := by
  intro x hx
  rcases List.mem_or_eq_of_mem_set hx with h1 | h1
  · exact h x h1
  · rw [h1]; exact hr
theorem loadA_ok : ∀ {ps : List (Int × Rt)} {L M : List Rt}, (∀ p, p ∈ ps → 0 ≤ p.1 ∧ p.1 < L.length) → (∀ x, x ∈ L → vldR x = true) → loadA ps L = (M, 0) →
    M.length = L.length ∧ (∀ x, x ∈ M → vldR x = true) ∧ ∀ j, j < L.length → qv (M.getD j default) = qv (L.getD j default) + sq ps j
  | [], L, M, _, hL, h => by
    simp only [loadA, Prod.mk.injEq, and_true] at h
    subst h
    exact ⟨rfl, hL, fun j _ => by simp [sq]; grind⟩
  | p :: t, L, M, hp, hL, h => by
    unfold loadA at h
    by_cases e : (addR (L.getD p.1.toNat default) p.2).2 = 0
    · rw [if_pos e] at h
      obtain ⟨hp1, hp2⟩ := hp p (by simp)
      obtain ⟨h1, h2, h3⟩ := loadA_ok (ps := t) (fun q hq => by rw [List.length_set]; exact hp q (by simp [hq])) (set_vld hL (add_vld e)) h
      rw [List.length_set] at h1 h3
      refine ⟨h1, h2, fun j hj => ?_⟩
      rw [h3 j hj]
      show _ = _ + ((if p.1 = (j : Int) then qv p.2 else 0) + sq t j)
      by_cases ej : p.1 = (j : Int)
      · rw [if_pos ej, show p.1.toNat = j by omega] 
        rw [List.getD_eq_getElem?_getD, List.getElem?_set_self hj]
        have := qv_add e
        rw [show p.1.toNat = j by omega] at this
        show qv (addR (L.getD j default) p.2).1 + sq t j = _
        rw [this]; grind
      · rw [if_neg ej, List.getD_eq_getElem?_getD, List.getElem?_set_ne (by omega), ← List.getD_eq_getElem?_getD]; grind
    · rw [if_neg e] at h
      simp only [Prod.mk.injEq] at h
      exact absurd h.2 e
end Go.Proofs.YtdfiicpikcdokaaGreatDoor
namespace Go.Proofs.YtdfiicpikcdokaaGreatDoor
set_option linter.unusedSimpArgs false
set_option linter.unusedVariables false
open Go.RowKit
set_option maxRecDepth 20000

def capB (c : Rt) : Bool := vldR c && (decide (0 ≤ c.n) && decide (cmpR c ⟨1000, 1⟩ ≤ 0))
def linkB (nc : Nat) (l : List Int) (i : Nat) : Bool := decide (0 ≤ l.getD i 0) && (decide (l.getD i 0 < nc) && !(l.take i).contains (l.getD i 0))
def flB (nc : Nat) (f : Fl) : Bool := decide (f.links.length ≠ 0) && ((List.range f.links.length).all (linkB nc f.links) && (vldR f.dem && (decide (0 ≤ f.dem.n) && (f.bnd || decide (f.dem.n = 0)))))
def vldN (n : Nt) : Bool := decide (n.caps.length ≤ 32) && (decide (n.fls.length ≤ 32) && (n.caps.all capB && n.fls.all (flB n.caps.length)))
theorem all_no {α : Type} {l : List α} {p : α → Bool} {d : α} {i : Nat} (hi : i < l.length) (h : p (l.getD i d) = false) : l.all p = false := by
  rw [Bool.eq_false_iff]
  intro ha
  rw [List.all_eq_true] at ha
  have := ha _ (getD_mem d hi)
  rw [h] at this; simp at this
theorem all_yes {α : Type} {l : List α} {p : α → Bool} {d : α} (h : ∀ i, i < l.length → p (l.getD i d) = true) : l.all p = true := by
  rw [List.all_eq_true]
  intro x hx
  obtain ⟨i, hi, rfl⟩ := List.getElem_of_mem hx
  have := h i hi
  rwa [List.getD_eq_getElem?_getD, List.getElem?_eq_getElem hi] at this
theorem rng_no {n : Nat} {p : Nat → Bool} {i : Nat} (hi : i < n) (h : p i = false) : (List.range n).all p = false := by
  rw [Bool.eq_false_iff]
  intro ha
  rw [List.all_eq_true] at ha
  have := ha i (List.mem_range.2 hi)
  rw [h] at this; simp at this
theorem rng_yes {n : Nat} {p : Nat → Bool} (h : ∀ i, i < n → p i = true) : (List.range n).all p = true := by
  rw [List.all_eq_true]
  intro x hx
  exact h x (List.mem_range.1 hx)
structure VldN (n : Nt) : Prop where
  nc : n.caps.length ≤ 32
  nf : n.fls.length ≤ 32
  cap : ∀ c, c ∈ n.caps → vldR c = true ∧ 0 ≤ c.n ∧ cmpR c ⟨1000, 1⟩ ≤ 0
  len : ∀ f, f ∈ n.fls → f.links.length ≠ 0
  link : ∀ f, f ∈ n.fls → ∀ x, x ∈ f.links → 0 ≤ x ∧ x < n.caps.length
  once : ∀ f, f ∈ n.fls → f.links.Nodup
  dem : ∀ f, f ∈ n.fls → vldR f.dem = true ∧ 0 ≤ f.dem.n ∧ (f.bnd = false → f.dem.n = 0)
theorem nodup_of_take {l : List Int} (h : ∀ i, i < l.length → (l.take i).contains (l.getD i 0) = false) : l.Nodup := by
  rw [List.nodup_iff_pairwise_ne, List.pairwise_iff_getElem]
  intro i j hi hj hij e
  have := h j hj
  rw [List.getD_eq_getElem?_getD, List.getElem?_eq_getElem hj] at this
  simp only [Option.getD_some] at this
  rw [← Bool.not_eq_true, List.contains_iff_mem] at this
  apply this
  rw [← e]
  exact List.mem_take_iff_getElem.2 ⟨i, by omega, rfl⟩
theorem vldN_of {n : Nt} (h : vldN n = true) : VldN n := by
  unfold vldN at h
  simp only [Bool.and_eq_true, decide_eq_true_eq, List.all_eq_true] at h
  obtain ⟨h1, h2, h3, h4⟩ := h
  have hl : ∀ f, f ∈ n.fls → ∀ i, i < f.links.length → linkB n.caps.length f.links i = true := by
    intro f hf i hi
    have := h4 f hf
    unfold flB at this
    simp only [Bool.and_eq_true, List.all_eq_true] at this
    exact this.2.1 i (List.mem_range.2 hi)
  refine ⟨h1, h2, fun c hc => ?_, fun f hf => ?_, fun f hf x hx => ?_, fun f hf => ?_, fun f hf => ?_⟩
  · have := h3 c hc
    unfold capB at this
    simp only [Bool.and_eq_true, decide_eq_true_eq] at this
    exact this
  · have := h4 f hf
    unfold flB at this
    simp only [Bool.and_eq_true, decide_eq_true_eq] at this
    exact this.1
  · obtain ⟨i, hi, rfl⟩ := List.getElem_of_mem hx
    have := hl f hf i hi
    unfold linkB at this
    rw [List.getD_eq_getElem?_getD, List.getElem?_eq_getElem hi] at this
    simp only [Option.getD_some, Bool.and_eq_true, decide_eq_true_eq] at this
    exact ⟨this.1, this.2.1⟩
  · refine nodup_of_take fun i hi => ?_
    have := hl f hf i hi
    unfold linkB at this
    simp only [Bool.and_eq_true] at this
    simpa using this.2.2
  · have := h4 f hf
    unfold flB at this
    simp only [Bool.and_eq_true, decide_eq_true_eq, Bool.or_eq_true] at this
    obtain ⟨_, _, k1, k2, k3⟩ := this
    refine ⟨k1, k2, fun h => ?_⟩
    rcases k3 with k3 | k3
    · rw [h] at k3; simp at k3
    · exact k3
end Go.Proofs.YtdfiicpikcdokaaGreatDoor
namespace Go.Proofs.YtdfiicpikcdokaaGreatDoor
set_option linter.unusedSimpArgs false
set_option linter.unusedVariables false
open Go.RowKit
set_option maxRecDepth 100000

end Go.Proofs.YtdfiicpikcdokaaGreatDoor
namespace Go.Proofs.YtdfiicpikcdokaaGreatDoor
set_option linter.unusedSimpArgs false
set_option linter.unusedVariables false
open Go.RowKit
set_option maxRecDepth 20000

theorem EVFD : (∀ (l : List Int) (i : Nat), intsF l i = [.sc (.int .i64 (l.getD i 0))]) ∧ (∀ (l : List Rt) (i : Nat), rtsF l i = [.sc (.int .i64 (l.getD i default).n), .sc (.int .i64 (l.getD i default).d)]) ∧
    (∀ (l : List Fl) (i : Nat), flsF l i = [.rsl 1 (l.getD i default).links.length (intsF (l.getD i default).links), .sc (.bool (l.getD i default).bnd), .sc (.int .i64 (l.getD i default).dem.n), .sc (.int .i64 (l.getD i default).dem.d)]) := ⟨fun _ _ => rfl, rtsF_eq, flsF_eq⟩
def ixF (v : Int) : List Int → Nat → Int
  | [], _ => -1
  | x :: l, i => if v = x then (i : Int) else ixF v l (i + 1)
theorem ixF_pos (v : Int) : ∀ (l : List Int) (i : Nat), decide (0 ≤ ixF v l i) = l.contains v
  | [], i => by simp [ixF]
  | x :: l, i => by
    unfold ixF
    by_cases e : v = x
    · rw [if_pos e, e]; simp
    · rw [if_neg e, ixF_pos v l (i + 1), List.contains_cons]
      simp [e]
theorem ixF_drop {v : Int} {l : List Int} {i : Nat} (h : i < l.length) : ixF v (l.drop i) i = if v = l.getD i 0 then (i : Int) else ixF v (l.drop (i + 1)) (i + 1) := by
  rw [List.drop_eq_getElem_cons h, List.getD_eq_getElem?_getD, List.getElem?_eq_getElem h]; rfl
theorem ev_index (l : List Int) (v : Int) : Ev Tryz.prog 42 [intsV l, .sc (.int .i64 v)] (.sc (.int .i64 (ixF v l 0))) := by
  unfold intsV
  refine ev_fn Tryz.func42 comp42 (show 2 ≤ Tryz.f42.ntmps by decide) ?_; unfold cf42 rf42; simp only [↓EVP0, EVQ0, EVQ1, EVQ2, EVQ3, EVQ4, EVA, EVK, EVFD, ↓reduceIte, Nat.reduceEqDiff, Nat.reduceAdd, Nat.reduceSub, Nat.reduceMul, Nat.reduceLT, Nat.reduceLeDiff, reduceCtorEq, Int.reduceToNat, Int.reduceLT, Int.reduceLE, Int.reduceAdd, Int.reduceSub, Int.reduceMul, Int.reduceNeg, Int.reduceEq, Nat.reduceMod, forall_eq_or_imp, forall_eq, forall_const, EVY, true_imp_iff, implies_true, Int.cast_ofNat_Int, forall_eq']
  intro hn
  refine lwp_for (α := Unit) l.length (fun i _ => ixF v l 0 = ixF v (l.drop i) i) (fun i _ => [(0, .rsl 1 l.length (intsF l)), (1, .sc (.int .i64 v)), (7, .sc (.int .i64 l.length)), (8, .sc (.int .i64 i))])
    (fun i _ => []) () rfl ?_ (fun _ _ => Nat.zero_le _) ?_
  · simp only [↓EVP0, EVQ0, EVQ1, EVQ2, EVQ3, EVQ4, EVA, EVK, EVFD, ↓reduceIte, Nat.reduceEqDiff, Nat.reduceAdd, Nat.reduceSub, Nat.reduceMul, Nat.reduceLT, Nat.reduceLeDiff, reduceCtorEq, Int.reduceToNat, Int.reduceLT, Int.reduceLE, Int.reduceAdd, Int.reduceSub, Int.reduceMul, Int.reduceNeg, Int.reduceEq, Nat.reduceMod, forall_eq_or_imp, forall_eq, forall_const, EVY, true_imp_iff, implies_true, Int.cast_ofNat_Int, forall_eq']
  intro i _ hi hx
  unfold lb42_0
  simp only [↓EVP0, EVQ0, EVQ1, EVQ2, EVQ3, EVQ4, EVA, EVK, EVFD, ↓reduceIte, Nat.reduceEqDiff, Nat.reduceAdd, Nat.reduceSub, Nat.reduceMul, Nat.reduceLT, Nat.reduceLeDiff, reduceCtorEq, Int.reduceToNat, Int.reduceLT, Int.reduceLE, Int.reduceAdd, Int.reduceSub, Int.reduceMul, Int.reduceNeg, Int.reduceEq, Nat.reduceMod, forall_eq_or_imp, forall_eq, forall_const, EVY, true_imp_iff, implies_true, Int.cast_ofNat_Int, forall_eq']
  refine ⟨fun hg => ?_, fun hg => ?_⟩
  · have hi2 : i < l.length := by have := of_decide_eq_true hg; omega
    rw [ixF_drop hi2] at hx
    refine ⟨⟨by omega, by omega⟩, fun h => ?_, fun h => ⟨by unfold In64; omega, hi2, (), ?_⟩⟩
    · rw [hx, if_pos (of_decide_eq_true h)]
    · rw [hx, if_neg (of_decide_eq_false h)]
  · have hi2 : i = l.length := by have := of_decide_eq_false hg; omega
    rw [hx, hi2, List.drop_length]; rfl
theorem ev_contains (l : List Int) (v : Int) : Ev Tryz.prog 22 [intsV l, .sc (.int .i64 v)] (.sc (.bool (l.contains v))) := by
  have h1 := ev_index l v
  unfold intsV at *
  refine ev_fn Tryz.func22 comp22 (show 2 ≤ Tryz.f22.ntmps by decide) ?_; unfold cf22 rf22; simp only [↓EVP0, EVQ0, EVQ1, EVQ2, EVQ3, EVQ4, EVA, EVK, EVFD, ↓reduceIte, Nat.reduceEqDiff, Nat.reduceAdd, Nat.reduceSub, Nat.reduceMul, Nat.reduceLT, Nat.reduceLeDiff, reduceCtorEq, Int.reduceToNat, Int.reduceLT, Int.reduceLE, Int.reduceAdd, Int.reduceSub, Int.reduceMul, Int.reduceNeg, Int.reduceEq, Nat.reduceMod, forall_eq_or_imp, forall_eq, forall_const, EVY, true_imp_iff, implies_true, Int.cast_ofNat_Int, forall_eq']
  refine callK_ro (h1) ?_ ?_
  · simp only [↓EVP0, EVQ0, EVQ1, EVQ2, EVQ3, EVQ4, EVA, EVK, EVFD, ↓reduceIte, Nat.reduceEqDiff, Nat.reduceAdd, Nat.reduceSub, Nat.reduceMul, Nat.reduceLT, Nat.reduceLeDiff, reduceCtorEq, Int.reduceToNat, Int.reduceLT, Int.reduceLE, Int.reduceAdd, Int.reduceSub, Int.reduceMul, Int.reduceNeg, Int.reduceEq, Nat.reduceMod, forall_eq_or_imp, forall_eq, forall_const, EVY, true_imp_iff, implies_true, Int.cast_ofNat_Int, forall_eq']
  simp only [↓EVP0, EVQ0, EVQ1, EVQ2, EVQ3, EVQ4, EVA, EVK, EVFD, ↓reduceIte, Nat.reduceEqDiff, Nat.reduceAdd, Nat.reduceSub, Nat.reduceMul, Nat.reduceLT, Nat.reduceLeDiff, reduceCtorEq, Int.reduceToNat, Int.reduceLT, Int.reduceLE, Int.reduceAdd, Int.reduceSub, Int.reduceMul, Int.reduceNeg, Int.reduceEq, Nat.reduceMod, forall_eq_or_imp, forall_eq, forall_const, EVY, true_imp_iff, implies_true, Int.cast_ofNat_Int, forall_eq']
  rw [ixF_pos]
theorem dec_lt (x y : Int) : decide (x < y) = !decide (y ≤ x) := by
  rw [← decide_not]; exact decide_eq_decide.2 (by omega)
theorem capB_cond (c : Rt) : (bif bif !vldR c then true else decide (c.n < 0) then true else decide (0 < cmpR c ⟨1000, 1⟩)) = !capB c := by
  unfold capB
  rw [dec_lt, dec_lt]
  cases vldR c <;> cases decide (0 ≤ c.n) <;> simp
theorem linkB_cond (nc : Nat) (l : List Int) (i : Nat) : (bif bif decide (l.getD i 0 < 0) then true else decide ((nc : Int) ≤ l.getD i 0) then true else (l.take i).contains (l.getD i 0)) = !linkB nc l i := by
  unfold linkB
  rw [dec_lt, dec_lt]
  cases decide (0 ≤ l.getD i 0) <;> cases decide ((nc : Int) ≤ l.getD i 0) <;> simp
theorem flB_cond (nc : Nat) (f : Fl) (h1 : f.links.length ≠ 0) (h2 : (List.range f.links.length).all (linkB nc f.links) = true) :
    (bif bif !vldR f.dem then true else decide (f.dem.n < 0) then true else bif !f.bnd then !decide (f.dem.n = 0) else false) = !flB nc f := by
  unfold flB
  rw [h2, decide_eq_true h1, dec_lt]
  cases vldR f.dem <;> cases decide (0 ≤ f.dem.n) <;> cases f.bnd <;> simp
theorem cap_no {n : Nt} {i : Nat} (hi : i < n.caps.length) (h : capB (n.caps.getD i default) = false) : false = vldN n := by
  unfold vldN; rw [all_no hi h]; simp
theorem fl_no {n : Nt} {i : Nat} (hi : i < n.fls.length) (h : flB n.caps.length (n.fls.getD i default) = false) : false = vldN n := by
  unfold vldN; rw [all_no hi h]; simp
theorem snoc_all {p : Nat → Prop} {i : Nat} (h : ∀ j, j < i → p j) (h2 : p i) : ∀ j, j < i + 1 → p j := fun j hj => by
  by_cases e : j = i
  · rw [e]; exact h2
  · exact h j (by omega)
theorem ev_validN (n : Nt) (hn : NtOk n) : Ev Tryz.prog 8 [netV n] (.sc (.bool (vldN n))) := by
  unfold netV
  refine ev_fn Tryz.func8 comp8 (show 1 ≤ Tryz.f8.ntmps by decide) ?_; unfold cf8 rf8; simp only [↓EVP0, EVQ0, EVQ1, EVQ2, EVQ3, EVQ4, EVA, EVK, EVFD, ↓reduceIte, Nat.reduceEqDiff, Nat.reduceAdd, Nat.reduceSub, Nat.reduceMul, Nat.reduceLT, Nat.reduceLeDiff, reduceCtorEq, Int.reduceToNat, Int.reduceLT, Int.reduceLE, Int.reduceAdd, Int.reduceSub, Int.reduceMul, Int.reduceNeg, Int.reduceEq, Nat.reduceMod, forall_eq_or_imp, forall_eq, forall_const, EVY, true_imp_iff, implies_true, Int.cast_ofNat_Int, forall_eq']
  intro hc1
  refine ⟨fun hg => ?_, fun hg hc2 => ?_⟩
  · unfold vldN
    cases e1 : decide (n.caps.length ≤ 32)
    · rfl
    · cases e2 : decide (n.fls.length ≤ 32)
      · rfl
      · have e1 := of_decide_eq_true e1
        have e2 := of_decide_eq_true e2
        rw [decide_eq_false (show ¬ (32 : Int) < n.caps.length by omega), decide_eq_false (show ¬ (32 : Int) < n.fls.length by omega)] at hg
        simp at hg
  have e1 : n.caps.length ≤ 32 := by
    rcases Nat.lt_or_ge 32 n.caps.length with h | h
    · rw [decide_eq_true (show (32 : Int) < n.caps.length by omega)] at hg; simp at hg
    · exact h
  have e2 : n.fls.length ≤ 32 := by
    rcases Nat.lt_or_ge 32 n.fls.length with h | h
    · rw [decide_eq_true (show (32 : Int) < n.fls.length by omega)] at hg; simp at hg
    · exact h
  refine lwp_for (α := Unit) n.caps.length (fun i _ => ∀ j, j < i → capB (n.caps.getD j default) = true) (fun i _ => [(1, .ptr 0 0 0 0 0), (3, .ptr 1 0 0 0 0), (22, .rsl 2 n.caps.length (rtsF n.caps)), (23, .sc (.int .i64 n.caps.length)), (24, .sc (.int .i64 i))])
    (fun i _ => [(0, .box [.rsl 2 n.caps.length (rtsF n.caps), .rsl 4 n.fls.length (flsF n.fls)]), (0, .box [.sc (.int .i64 1000), .sc (.int .i64 1)])]) () (fun j hj => absurd hj (Nat.not_lt_zero _)) ?_ (fun _ _ => Nat.zero_le _) ?_
  · simp only [↓EVP0, EVQ0, EVQ1, EVQ2, EVQ3, EVQ4, EVA, EVK, EVFD, ↓reduceIte, Nat.reduceEqDiff, Nat.reduceAdd, Nat.reduceSub, Nat.reduceMul, Nat.reduceLT, Nat.reduceLeDiff, reduceCtorEq, Int.reduceToNat, Int.reduceLT, Int.reduceLE, Int.reduceAdd, Int.reduceSub, Int.reduceMul, Int.reduceNeg, Int.reduceEq, Nat.reduceMod, forall_eq_or_imp, forall_eq, forall_const, EVY, true_imp_iff, implies_true, Int.cast_ofNat_Int, forall_eq']
  intro i _ hi hx
  unfold lb8_2
  simp only [↓EVP0, EVQ0, EVQ1, EVQ2, EVQ3, EVQ4, EVA, EVK, EVFD, ↓reduceIte, Nat.reduceEqDiff, Nat.reduceAdd, Nat.reduceSub, Nat.reduceMul, Nat.reduceLT, Nat.reduceLeDiff, reduceCtorEq, Int.reduceToNat, Int.reduceLT, Int.reduceLE, Int.reduceAdd, Int.reduceSub, Int.reduceMul, Int.reduceNeg, Int.reduceEq, Nat.reduceMod, forall_eq_or_imp, forall_eq, forall_const, EVY, true_imp_iff, implies_true, Int.cast_ofNat_Int, forall_eq']
  refine ⟨fun hg2 => ?_, fun hg2 => ?_⟩
  · have hi2 : i < n.caps.length := by have := of_decide_eq_true hg2; omega
    have hm : n.caps.getD i default ∈ n.caps := getD_mem default hi2
    have hr := hn.caps _ hm
    have h1 := ev_valid _ hr
    have h2 := ev_cmp (n.caps.getD i default) ⟨1000, 1⟩ hr ⟨show In64 1000 by unfold In64; omega, show In64 1 by unfold In64; omega⟩
    unfold ratV at h1 h2
    refine ⟨⟨by omega, by omega⟩, ?_⟩
    refine callK_ro (h1) ?_ ?_
    · simp only [↓EVP0, EVQ0, EVQ1, EVQ2, EVQ3, EVQ4, EVA, EVK, EVFD, ↓reduceIte, Nat.reduceEqDiff, Nat.reduceAdd, Nat.reduceSub, Nat.reduceMul, Nat.reduceLT, Nat.reduceLeDiff, reduceCtorEq, Int.reduceToNat, Int.reduceLT, Int.reduceLE, Int.reduceAdd, Int.reduceSub, Int.reduceMul, Int.reduceNeg, Int.reduceEq, Nat.reduceMod, forall_eq_or_imp, forall_eq, forall_const, EVY, true_imp_iff, implies_true, Int.cast_ofNat_Int, forall_eq']
    simp only [↓EVP0, EVQ0, EVQ1, EVQ2, EVQ3, EVQ4, EVA, EVK, EVFD, ↓reduceIte, Nat.reduceEqDiff, Nat.reduceAdd, Nat.reduceSub, Nat.reduceMul, Nat.reduceLT, Nat.reduceLeDiff, reduceCtorEq, Int.reduceToNat, Int.reduceLT, Int.reduceLE, Int.reduceAdd, Int.reduceSub, Int.reduceMul, Int.reduceNeg, Int.reduceEq, Nat.reduceMod, forall_eq_or_imp, forall_eq, forall_const, EVY, true_imp_iff, implies_true, Int.cast_ofNat_Int, forall_eq']
    (refine lops_ge_imp ?_; simp only [↓EVP0, EVQ0, EVQ1, EVQ2, EVQ3, EVQ4, EVA, EVK, EVFD, ↓reduceIte, Nat.reduceEqDiff, Nat.reduceAdd, Nat.reduceSub, Nat.reduceMul, Nat.reduceLT, Nat.reduceLeDiff, reduceCtorEq, Int.reduceToNat, Int.reduceLT, Int.reduceLE, Int.reduceAdd, Int.reduceSub, Int.reduceMul, Int.reduceNeg, Int.reduceEq, Nat.reduceMod, forall_eq_or_imp, forall_eq, forall_const, EVY, true_imp_iff, implies_true, Int.cast_ofNat_Int, forall_eq'])
    refine gCallK_ro _ (fun _ => h2) (fun _ => ?_) ?_
    · simp only [↓EVP0, EVQ0, EVQ1, EVQ2, EVQ3, EVQ4, EVA, EVK, EVFD, ↓reduceIte, Nat.reduceEqDiff, Nat.reduceAdd, Nat.reduceSub, Nat.reduceMul, Nat.reduceLT, Nat.reduceLeDiff, reduceCtorEq, Int.reduceToNat, Int.reduceLT, Int.reduceLE, Int.reduceAdd, Int.reduceSub, Int.reduceMul, Int.reduceNeg, Int.reduceEq, Nat.reduceMod, forall_eq_or_imp, forall_eq, forall_const, EVY, true_imp_iff, implies_true, Int.cast_ofNat_Int, forall_eq']
    simp only [↓EVP0, EVQ0, EVQ1, EVQ2, EVQ3, EVQ4, EVA, EVK, EVFD, ↓reduceIte, Nat.reduceEqDiff, Nat.reduceAdd, Nat.reduceSub, Nat.reduceMul, Nat.reduceLT, Nat.reduceLeDiff, reduceCtorEq, Int.reduceToNat, Int.reduceLT, Int.reduceLE, Int.reduceAdd, Int.reduceSub, Int.reduceMul, Int.reduceNeg, Int.reduceEq, Nat.reduceMod, forall_eq_or_imp, forall_eq, forall_const, EVY, true_imp_iff, implies_true, Int.cast_ofNat_Int, forall_eq']
    rw [capB_cond]
    refine ⟨fun h => cap_no hi2 (by simpa using h), fun h => ⟨by unfold In64; omega, hi2, (), snoc_all hx (by simpa using h)⟩⟩
  have hi2 : i = n.caps.length := by have := of_decide_eq_false hg2; omega
  subst hi2
  intro hc3
  refine lwp_for (α := Unit) n.fls.length (fun i _ => ∀ j, j < i → flB n.caps.length (n.fls.getD j default) = true) (fun i _ => [(1, .ptr 0 0 0 0 0), (44, .rsl 4 n.fls.length (flsF n.fls)), (45, .sc (.int .i64 n.fls.length)), (46, .sc (.int .i64 i))])
    (fun i _ => [(0, .box [.rsl 2 n.caps.length (rtsF n.caps), .rsl 4 n.fls.length (flsF n.fls)])]) () (fun j hj => absurd hj (Nat.not_lt_zero _)) ?_ (fun _ _ => Nat.zero_le _) ?_
  · simp only [↓EVP0, EVQ0, EVQ1, EVQ2, EVQ3, EVQ4, EVA, EVK, EVFD, ↓reduceIte, Nat.reduceEqDiff, Nat.reduceAdd, Nat.reduceSub, Nat.reduceMul, Nat.reduceLT, Nat.reduceLeDiff, reduceCtorEq, Int.reduceToNat, Int.reduceLT, Int.reduceLE, Int.reduceAdd, Int.reduceSub, Int.reduceMul, Int.reduceNeg, Int.reduceEq, Nat.reduceMod, forall_eq_or_imp, forall_eq, forall_const, EVY, true_imp_iff, implies_true, Int.cast_ofNat_Int, forall_eq']
  intro i _ hi hy
  unfold lb8_1
  simp only [↓EVP0, EVQ0, EVQ1, EVQ2, EVQ3, EVQ4, EVA, EVK, EVFD, ↓reduceIte, Nat.reduceEqDiff, Nat.reduceAdd, Nat.reduceSub, Nat.reduceMul, Nat.reduceLT, Nat.reduceLeDiff, reduceCtorEq, Int.reduceToNat, Int.reduceLT, Int.reduceLE, Int.reduceAdd, Int.reduceSub, Int.reduceMul, Int.reduceNeg, Int.reduceEq, Nat.reduceMod, forall_eq_or_imp, forall_eq, forall_const, EVY, true_imp_iff, implies_true, Int.cast_ofNat_Int, forall_eq']
  refine ⟨fun hg3 => ?_, fun hg3 => ?_⟩
  · have hi2 : i < n.fls.length := by have := of_decide_eq_true hg3; omega
    have hm : n.fls.getD i default ∈ n.fls := getD_mem default hi2
    have hd := hn.dem _ hm
    have hno := fun h => fl_no (n := n) hi2 h
    generalize hF : n.fls.getD i default = f at *
    have h1 := ev_valid _ hd
    unfold ratV at h1
    refine ⟨⟨by omega, by omega⟩, fun hl1 => ⟨fun h => hno ?_, fun h hl2 => ?_⟩⟩
    · unfold flB
      have := of_decide_eq_true h
      rw [decide_eq_false (show ¬ f.links.length ≠ 0 by omega)]; rfl
    have hl3 := of_decide_eq_false h
    refine lwp_for (α := Unit) f.links.length (fun k _ => ∀ j, j < k → linkB n.caps.length f.links j = true) (fun k _ => [(1, .ptr 0 0 0 0 0), (7, .ptr 1 0 0 0 0), (44, .rsl 4 n.fls.length (flsF n.fls)), (45, .sc (.int .i64 n.fls.length)), (46, .sc (.int .i64 i)), (55, .rsl 1 f.links.length (intsF f.links)), (56, .sc (.int .i64 f.links.length)), (57, .sc (.int .i64 k))])
      (fun k _ => [(0, .box [.rsl 2 n.caps.length (rtsF n.caps), .rsl 4 n.fls.length (flsF n.fls)]), (0, .box [.rsl 1 f.links.length (intsF f.links), .sc (.bool f.bnd), .sc (.int .i64 f.dem.n), .sc (.int .i64 f.dem.d)])]) () (fun j hj => absurd hj (Nat.not_lt_zero _)) ?_ (fun _ _ => Nat.zero_le _) ?_
    · simp only [↓EVP0, EVQ0, EVQ1, EVQ2, EVQ3, EVQ4, EVA, EVK, EVFD, ↓reduceIte, Nat.reduceEqDiff, Nat.reduceAdd, Nat.reduceSub, Nat.reduceMul, Nat.reduceLT, Nat.reduceLeDiff, reduceCtorEq, Int.reduceToNat, Int.reduceLT, Int.reduceLE, Int.reduceAdd, Int.reduceSub, Int.reduceMul, Int.reduceNeg, Int.reduceEq, Nat.reduceMod, forall_eq_or_imp, forall_eq, forall_const, EVY, true_imp_iff, implies_true, Int.cast_ofNat_Int, forall_eq']
    intro k _ hk hz
    unfold lb8_0
    simp only [↓EVP0, EVQ0, EVQ1, EVQ2, EVQ3, EVQ4, EVA, EVK, EVFD, ↓reduceIte, Nat.reduceEqDiff, Nat.reduceAdd, Nat.reduceSub, Nat.reduceMul, Nat.reduceLT, Nat.reduceLeDiff, reduceCtorEq, Int.reduceToNat, Int.reduceLT, Int.reduceLE, Int.reduceAdd, Int.reduceSub, Int.reduceMul, Int.reduceNeg, Int.reduceEq, Nat.reduceMod, forall_eq_or_imp, forall_eq, forall_const, EVY, true_imp_iff, implies_true, Int.cast_ofNat_Int, forall_eq']
    refine ⟨fun hg4 => ?_, fun hg4 => ?_⟩
    · have hk2 : k < f.links.length := by have := of_decide_eq_true hg4; omega
      have hc := ev_im (xs := [.rsl 1 (k - 0) (fun i => [LV.sc (Value.int IntKind.i64 (f.links.getD i 0))]), .sc (.int .i64 (f.links.getD k 0))]) (bs := [intsV (f.links.take k), .sc (.int .i64 (f.links.getD k 0))])
        ⟨by
          unfold intsV
          rw [List.length_take, Nat.min_eq_left (by omega), Nat.sub_zero]
          refine Im.rsl fun j hj => ?_
          show _ = [LV.sc (.int .i64 ((f.links.take k).getD j 0))]
          rw [List.getD_eq_getElem?_getD, List.getD_eq_getElem?_getD, List.getElem?_take_of_lt hj], Im.refl _, trivial⟩ (ev_contains (f.links.take k) (f.links.getD k 0))
      refine ⟨⟨by omega, by omega⟩, fun _ => ⟨by omega, by omega⟩, ?_⟩
      (refine lops_ge_imp ?_; simp only [↓EVP0, EVQ0, EVQ1, EVQ2, EVQ3, EVQ4, EVA, EVK, EVFD, ↓reduceIte, Nat.reduceEqDiff, Nat.reduceAdd, Nat.reduceSub, Nat.reduceMul, Nat.reduceLT, Nat.reduceLeDiff, reduceCtorEq, Int.reduceToNat, Int.reduceLT, Int.reduceLE, Int.reduceAdd, Int.reduceSub, Int.reduceMul, Int.reduceNeg, Int.reduceEq, Nat.reduceMod, forall_eq_or_imp, forall_eq, forall_const, EVY, true_imp_iff, implies_true, Int.cast_ofNat_Int, forall_eq'])
      refine gCallK_ro _ (fun _ => hc) (fun _ => ?_) ?_
      · simp only [↓EVP0, EVQ0, EVQ1, EVQ2, EVQ3, EVQ4, EVA, EVK, EVFD, ↓reduceIte, Nat.reduceEqDiff, Nat.reduceAdd, Nat.reduceSub, Nat.reduceMul, Nat.reduceLT, Nat.reduceLeDiff, reduceCtorEq, Int.reduceToNat, Int.reduceLT, Int.reduceLE, Int.reduceAdd, Int.reduceSub, Int.reduceMul, Int.reduceNeg, Int.reduceEq, Nat.reduceMod, forall_eq_or_imp, forall_eq, forall_const, EVY, true_imp_iff, implies_true, Int.cast_ofNat_Int, forall_eq']
      simp only [↓EVP0, EVQ0, EVQ1, EVQ2, EVQ3, EVQ4, EVA, EVK, EVFD, ↓reduceIte, Nat.reduceEqDiff, Nat.reduceAdd, Nat.reduceSub, Nat.reduceMul, Nat.reduceLT, Nat.reduceLeDiff, reduceCtorEq, Int.reduceToNat, Int.reduceLT, Int.reduceLE, Int.reduceAdd, Int.reduceSub, Int.reduceMul, Int.reduceNeg, Int.reduceEq, Nat.reduceMod, forall_eq_or_imp, forall_eq, forall_const, EVY, true_imp_iff, implies_true, Int.cast_ofNat_Int, forall_eq']
      rw [linkB_cond]
      refine ⟨fun h => hno ?_, fun h => ⟨by unfold In64; omega, hk2, (), snoc_all hz (by simpa using h)⟩⟩
      unfold flB
      rw [rng_no hk2 (by simpa using h)]; simp
    · have hk2 : k = f.links.length := by have := of_decide_eq_false hg4; omega
      subst hk2
      refine callK_ro (h1) ?_ ?_
      · simp only [↓EVP0, EVQ0, EVQ1, EVQ2, EVQ3, EVQ4, EVA, EVK, EVFD, ↓reduceIte, Nat.reduceEqDiff, Nat.reduceAdd, Nat.reduceSub, Nat.reduceMul, Nat.reduceLT, Nat.reduceLeDiff, reduceCtorEq, Int.reduceToNat, Int.reduceLT, Int.reduceLE, Int.reduceAdd, Int.reduceSub, Int.reduceMul, Int.reduceNeg, Int.reduceEq, Nat.reduceMod, forall_eq_or_imp, forall_eq, forall_const, EVY, true_imp_iff, implies_true, Int.cast_ofNat_Int, forall_eq']
      simp only [↓EVP0, EVQ0, EVQ1, EVQ2, EVQ3, EVQ4, EVA, EVK, EVFD, ↓reduceIte, Nat.reduceEqDiff, Nat.reduceAdd, Nat.reduceSub, Nat.reduceMul, Nat.reduceLT, Nat.reduceLeDiff, reduceCtorEq, Int.reduceToNat, Int.reduceLT, Int.reduceLE, Int.reduceAdd, Int.reduceSub, Int.reduceMul, Int.reduceNeg, Int.reduceEq, Nat.reduceMod, forall_eq_or_imp, forall_eq, forall_const, EVY, true_imp_iff, implies_true, Int.cast_ofNat_Int, forall_eq']
      trace_state
      rw [flB_cond n.caps.length f (by omega) (rng_yes hz)]
      refine ⟨fun h => hno (by simpa using h), fun h => ⟨by unfold In64; omega, hi2, (), snoc_all hy (by rw [hF]; simpa using h)⟩⟩
  · have hi2 : i = n.fls.length := by have := of_decide_eq_false hg3; omega
    subst hi2
    unfold vldN
    rw [decide_eq_true e1, decide_eq_true e2, all_yes hx, all_yes hy]; rfl
end Go.Proofs.YtdfiicpikcdokaaGreatDoor
namespace Go.Proofs.YtdfiicpikcdokaaGreatDoor
set_option linter.unusedSimpArgs false
set_option linter.unusedVariables false
open Go.RowKit
set_option maxRecDepth 20000

theorem rtsF_set {L : List Rt} {k : Nat} (hk : k < L.length) (r : Rt) (x : List LV) :
    (fun j => if j = k then [LV.sc (.int .i64 r.n), .sc (.int .i64 r.d)] else if j = k then x else [LV.sc (.int .i64 (L.getD j default).n), .sc (.int .i64 (L.getD j default).d)]) = rtsF (L.set k r) := by
  funext j
  rw [rtsF_eq]
  by_cases e : j = k
  · rw [if_pos e, e, List.getD_eq_getElem?_getD, List.getElem?_set_self hk]; rfl
  · rw [if_neg e, if_neg e, List.getD_eq_getElem?_getD (l := L.set k r), List.getElem?_set_ne (fun h => e h.symm), ← List.getD_eq_getElem?_getD]
theorem lc_load1 (a : LO) (ha : belowO 3 a) (L : List Rt) (hL : ∀ r, r ∈ L → RtOk r) (l : Int) (h0 : 0 ≤ l) (h1 : l < L.length) (r : Rt) (hr : RtOk r) :
    LCall Tryz.prog 54 [.sc (.int .i64 l), ratV r, .ptr 2 0 0 0 0] (mkH [(0, a), (0, .row 2 L.length (rtsF L)), (0, .box [.sl 1 0 2 0 L.length])])
      (.sc (.int .i64 (addR (L.getD l.toNat default) r).2)) (mkH [(0, a), (0, .row 2 L.length (rtsF (L.set l.toNat (addR (L.getD l.toNat default) r).1))), (0, .box [.sl 1 0 2 0 L.length])]) := by
  have hm : L.getD l.toNat default ∈ L := getD_mem default (by omega)
  have h2 := ev_add (L.getD l.toNat default) r (hL _ hm) hr
  unfold rrV ratV at *
  generalize addR (L.getD l.toNat default) r = q at *
  refine lcall_of_lwp Tryz.func54 comp54 (show 3 ≤ Tryz.f54.ntmps by decide) (by simp [mkH]) ?_
  unfold cf54 rf54
  simp only [↓EVP0, EVQ0, EVQ1, EVQ2, EVQ3, EVQ4, EVA, EVK, EVFD, ↓reduceIte, Nat.reduceEqDiff, Nat.reduceAdd, Nat.reduceSub, Nat.reduceMul, Nat.reduceLT, Nat.reduceLeDiff, reduceCtorEq, Int.reduceToNat, Int.reduceLT, Int.reduceLE, Int.reduceAdd, Int.reduceSub, Int.reduceMul, Int.reduceNeg, Int.reduceEq, Nat.reduceMod, forall_eq_or_imp, forall_eq, forall_const, EVY, true_imp_iff, implies_true, Int.cast_ofNat_Int, forall_eq']
  refine ⟨⟨by omega, by omega⟩, ⟨by decide, by omega⟩, ?_⟩
  first | refine qCallK_ro (h2) ?_ ?_ | refine eCallK_ro (h2) ?_ ?_
  · simp only [↓EVP0, EVQ0, EVQ1, EVQ2, EVQ3, EVQ4, EVA, EVK, EVFD, ↓reduceIte, Nat.reduceEqDiff, Nat.reduceAdd, Nat.reduceSub, Nat.reduceMul, Nat.reduceLT, Nat.reduceLeDiff, reduceCtorEq, Int.reduceToNat, Int.reduceLT, Int.reduceLE, Int.reduceAdd, Int.reduceSub, Int.reduceMul, Int.reduceNeg, Int.reduceEq, Nat.reduceMod, forall_eq_or_imp, forall_eq, forall_const, EVY, true_imp_iff, implies_true, Int.cast_ofNat_Int, forall_eq']
  simp only [↓EVP0, EVQ0, EVQ1, EVQ2, EVQ3, EVQ4, EVA, EVK, EVFD, ↓reduceIte, Nat.reduceEqDiff, Nat.reduceAdd, Nat.reduceSub, Nat.reduceMul, Nat.reduceLT, Nat.reduceLeDiff, reduceCtorEq, Int.reduceToNat, Int.reduceLT, Int.reduceLE, Int.reduceAdd, Int.reduceSub, Int.reduceMul, Int.reduceNeg, Int.reduceEq, Nat.reduceMod, forall_eq_or_imp, forall_eq, forall_const, EVY, true_imp_iff, implies_true, Int.cast_ofNat_Int, forall_eq']
  refine ⟨⟨by omega, by omega⟩, by omega, ?_⟩
  unfold fin2
  simp only [↓EVP0, EVQ0, EVQ1, EVQ2, EVQ3, EVQ4, EVA, EVK, EVFD, ↓reduceIte, Nat.reduceEqDiff, Nat.reduceAdd, Nat.reduceSub, Nat.reduceMul, Nat.reduceLT, Nat.reduceLeDiff, reduceCtorEq, Int.reduceToNat, Int.reduceLT, Int.reduceLE, Int.reduceAdd, Int.reduceSub, Int.reduceMul, Int.reduceNeg, Int.reduceEq, Nat.reduceMod, forall_eq_or_imp, forall_eq, forall_const, EVY, true_imp_iff, implies_true, Int.cast_ofNat_Int, forall_eq']
  refine ⟨ha, congrArg (LO.row 2 L.length) (rtsF_set (by omega) _ _)⟩
def ini (nc i : Nat) : List Rt := List.replicate i ⟨0, 1⟩ ++ List.replicate (nc - i) ⟨0, 0⟩
theorem ini_len {nc i : Nat} (h : i ≤ nc) : (ini nc i).length = nc := by simp [ini]; omega
theorem ini_set {nc i : Nat} (h : i < nc) : (ini nc i).set i ⟨0, 1⟩ = ini nc (i + 1) := by
  unfold ini
  rw [show nc - i = (nc - (i + 1)) + 1 by omega, List.replicate_succ, List.set_append_right _ _ (by simp)]
  simp [List.replicate_succ', List.append_assoc]
theorem ini_zero (nc : Nat) : (fun (_ : Nat) => [LV.sc (.int .i64 0), LV.sc (.int .i64 0)]) = rtsF (ini nc 0) := by
  funext j
  unfold ini rtsF
  simp only [List.replicate_zero, List.nil_append, Nat.sub_zero]
  by_cases h : j < nc
  · rw [List.getD_eq_getElem?_getD, List.getElem?_replicate, if_pos h]; rfl
  · rw [List.getD_eq_getElem?_getD, List.getElem?_replicate, if_neg h]; rfl
theorem ini_full (nc : Nat) : ini nc nc = List.replicate nc ⟨0, 1⟩ := by simp [ini]
theorem split_at {l : List Int} {k : Nat} (h : k < l.length) : l = l.take k ++ l.getD k 0 :: l.drop (k + 1) := by
  conv => lhs; rw [← List.take_append_drop k l, List.drop_eq_getElem_cons h]
  rw [List.getD_eq_getElem?_getD, List.getElem?_eq_getElem h]; rfl
theorem map_split {l : List Int} {k : Nat} (h : k < l.length) (r : Rt) : (l.map fun l => (l, r)) = ((l.take k).map fun l => (l, r)) ++ (l.getD k 0, r) :: (l.drop (k + 1)).map fun l => (l, r) := by
  conv => lhs; rw [split_at h]
  rw [List.map_append, List.map_cons]
theorem map_take {l : List Int} {k : Nat} (h : k < l.length) (r : Rt) : ((l.take (k + 1)).map fun l => (l, r)) = ((l.take k).map fun l => (l, r)) ++ [(l.getD k 0, r)] := by
  rw [take_succ_getD 0 l k h, List.map_append]; rfl
def loadE (n : Nt) (rates : List Rt) : List Rt × Int :=
  if (vldN n && (decide (rates.length = n.fls.length) && rates.all vldR)) = true then loadA (prs n.fls rates) (List.replicate n.caps.length ⟨0, 1⟩) else ([], 1)
def lsV (q : List Rt × Int) : LV := .tup [ratsV q.1, .sc (.int .i64 q.2)]
theorem loadA_okRt : ∀ {ps : List (Int × Rt)} {L : List Rt}, (∀ x, x ∈ L → RtOk x) → ∀ x, x ∈ (loadA ps L).1 → RtOk x
  | [], L, hL, x, hx => hL x hx
  | p :: t, L, hL, x, hx => by
    unfold loadA at hx
    split at hx
    · refine loadA_okRt (fun y hy => ?_) x hx
      rcases List.mem_or_eq_of_mem_set hy with h | h
      · exact hL y h
      · rw [h]; exact addR_okRt _ _
    · simp at hx
theorem ev_load (n : Nt) (hn : NtOk n) (rates : List Rt) (hr : ∀ r, r ∈ rates → RtOk r) : Ev Tryz.prog 34 [netV n, ratsV rates] (lsV (loadE n rates)) := by
  have h1 := ev_validN n hn
  unfold netV at *
  unfold lsV ratsV
  refine ev_fn Tryz.func34 comp34 (show 2 ≤ Tryz.f34.ntmps by decide) ?_; unfold cf34 rf34; simp only [↓EVP0, EVQ0, EVQ1, EVQ2, EVQ3, EVQ4, EVA, EVK, EVFD, ↓reduceIte, Nat.reduceEqDiff, Nat.reduceAdd, Nat.reduceSub, Nat.reduceMul, Nat.reduceLT, Nat.reduceLeDiff, reduceCtorEq, Int.reduceToNat, Int.reduceLT, Int.reduceLE, Int.reduceAdd, Int.reduceSub, Int.reduceMul, Int.reduceNeg, Int.reduceEq, Nat.reduceMod, forall_eq_or_imp, forall_eq, forall_const, EVY, true_imp_iff, implies_true, Int.cast_ofNat_Int, forall_eq']
  refine callK_ro (h1) ?_ ?_
  · simp only [↓EVP0, EVQ0, EVQ1, EVQ2, EVQ3, EVQ4, EVA, EVK, EVFD, ↓reduceIte, Nat.reduceEqDiff, Nat.reduceAdd, Nat.reduceSub, Nat.reduceMul, Nat.reduceLT, Nat.reduceLeDiff, reduceCtorEq, Int.reduceToNat, Int.reduceLT, Int.reduceLE, Int.reduceAdd, Int.reduceSub, Int.reduceMul, Int.reduceNeg, Int.reduceEq, Nat.reduceMod, forall_eq_or_imp, forall_eq, forall_const, EVY, true_imp_iff, implies_true, Int.cast_ofNat_Int, forall_eq']
  simp only [↓EVP0, EVQ0, EVQ1, EVQ2, EVQ3, EVQ4, EVA, EVK, EVFD, ↓reduceIte, Nat.reduceEqDiff, Nat.reduceAdd, Nat.reduceSub, Nat.reduceMul, Nat.reduceLT, Nat.reduceLeDiff, reduceCtorEq, Int.reduceToNat, Int.reduceLT, Int.reduceLE, Int.reduceAdd, Int.reduceSub, Int.reduceMul, Int.reduceNeg, Int.reduceEq, Nat.reduceMod, forall_eq_or_imp, forall_eq, forall_const, EVY, true_imp_iff, implies_true, Int.cast_ofNat_Int, forall_eq']
  refine ⟨fun hg => ?_, fun hg hrl => ?_⟩
  · have : (vldN n && (decide (rates.length = n.fls.length) && rates.all vldR)) ≠ true := by
      intro h
      simp only [Bool.and_eq_true, decide_eq_true_eq] at h
      rw [h.1, decide_eq_true (show (rates.length : Int) = n.fls.length by omega)] at hg
      simp at hg
    unfold loadE
    rw [if_neg this]
    exact ⟨rfl, rfl⟩
  have e1 : vldN n = true := by
    cases h : vldN n
    · rw [h] at hg; simp at hg
    · rfl
  have e2 : rates.length = n.fls.length := by
    by_cases h : (rates.length : Int) = n.fls.length
    · omega
    · rw [e1, decide_eq_false h] at hg; simp at hg
  have hV := vldN_of e1
  have hc32 := hV.nc
  have hf32 := hV.nf
  refine lwp_for (α := Unit) rates.length (fun i _ => ∀ j, j < i → vldR (rates.getD j default) = true) (fun i _ => [(1, .rsl 2 rates.length (rtsF rates)), (2, .ptr 0 0 0 0 0), (27, .rsl 2 rates.length (rtsF rates)), (28, .sc (.int .i64 rates.length)), (29, .sc (.int .i64 i))])
    (fun i _ => [(0, .box [.rsl 2 n.caps.length (rtsF n.caps), .rsl 4 n.fls.length (flsF n.fls)])]) () (fun j hj => absurd hj (Nat.not_lt_zero _)) ?_ (fun _ _ => Nat.zero_le _) ?_
  · simp only [↓EVP0, EVQ0, EVQ1, EVQ2, EVQ3, EVQ4, EVA, EVK, EVFD, ↓reduceIte, Nat.reduceEqDiff, Nat.reduceAdd, Nat.reduceSub, Nat.reduceMul, Nat.reduceLT, Nat.reduceLeDiff, reduceCtorEq, Int.reduceToNat, Int.reduceLT, Int.reduceLE, Int.reduceAdd, Int.reduceSub, Int.reduceMul, Int.reduceNeg, Int.reduceEq, Nat.reduceMod, forall_eq_or_imp, forall_eq, forall_const, EVY, true_imp_iff, implies_true, Int.cast_ofNat_Int, forall_eq']
  intro i _ hi hx
  unfold lb34_3
  simp only [↓EVP0, EVQ0, EVQ1, EVQ2, EVQ3, EVQ4, EVA, EVK, EVFD, ↓reduceIte, Nat.reduceEqDiff, Nat.reduceAdd, Nat.reduceSub, Nat.reduceMul, Nat.reduceLT, Nat.reduceLeDiff, reduceCtorEq, Int.reduceToNat, Int.reduceLT, Int.reduceLE, Int.reduceAdd, Int.reduceSub, Int.reduceMul, Int.reduceNeg, Int.reduceEq, Nat.reduceMod, forall_eq_or_imp, forall_eq, forall_const, EVY, true_imp_iff, implies_true, Int.cast_ofNat_Int, forall_eq']
  refine ⟨fun hg2 => ?_, fun hg2 => ?_⟩
  · have hi2 : i < rates.length := by have := of_decide_eq_true hg2; omega
    have h2 := ev_valid _ (hr _ (getD_mem default hi2))
    unfold ratV at h2
    refine ⟨⟨by omega, by omega⟩, ?_⟩
    refine callK_ro (h2) ?_ ?_
    · simp only [↓EVP0, EVQ0, EVQ1, EVQ2, EVQ3, EVQ4, EVA, EVK, EVFD, ↓reduceIte, Nat.reduceEqDiff, Nat.reduceAdd, Nat.reduceSub, Nat.reduceMul, Nat.reduceLT, Nat.reduceLeDiff, reduceCtorEq, Int.reduceToNat, Int.reduceLT, Int.reduceLE, Int.reduceAdd, Int.reduceSub, Int.reduceMul, Int.reduceNeg, Int.reduceEq, Nat.reduceMod, forall_eq_or_imp, forall_eq, forall_const, EVY, true_imp_iff, implies_true, Int.cast_ofNat_Int, forall_eq']
    simp only [↓EVP0, EVQ0, EVQ1, EVQ2, EVQ3, EVQ4, EVA, EVK, EVFD, ↓reduceIte, Nat.reduceEqDiff, Nat.reduceAdd, Nat.reduceSub, Nat.reduceMul, Nat.reduceLT, Nat.reduceLeDiff, reduceCtorEq, Int.reduceToNat, Int.reduceLT, Int.reduceLE, Int.reduceAdd, Int.reduceSub, Int.reduceMul, Int.reduceNeg, Int.reduceEq, Nat.reduceMod, forall_eq_or_imp, forall_eq, forall_const, EVY, true_imp_iff, implies_true, Int.cast_ofNat_Int, forall_eq']
    refine ⟨fun h => ?_, fun h => ⟨by unfold In64; omega, hi2, (), snoc_all hx (by simpa using h)⟩⟩
    unfold loadE
    rw [all_no hi2 (by simpa using h)]
    simp
  have hi2 : i = rates.length := by have := of_decide_eq_false hg2; omega
  subst hi2
  have e3 : loadE n rates = loadA (prs n.fls rates) (List.replicate n.caps.length ⟨0, 1⟩) := by
    unfold loadE
    rw [e1, decide_eq_true e2, all_yes hx]; rfl
  rw [e3]
  intro hc1
  refine ⟨by unfold mksC; omega, fun _ => ?_⟩
  refine lwp_for (α := Unit) n.caps.length (fun i _ => True) (fun i _ => [(1, .rsl 2 rates.length (rtsF rates)), (2, .ptr 0 0 0 0 0), (8, .ptr 2 0 0 0 0), (42, .sc (.int .i64 n.caps.length)), (43, .sc (.int .i64 i))])
    (fun i _ => [(0, .box [.rsl 2 n.caps.length (rtsF n.caps), .rsl 4 n.fls.length (flsF n.fls)]), (0, .row 2 n.caps.length (rtsF (ini n.caps.length i))), (0, .box [.sl 1 0 2 0 n.caps.length])]) () trivial ?_ (fun _ _ => Nat.zero_le _) ?_
  · simp only [↓EVP0, EVQ0, EVQ1, EVQ2, EVQ3, EVQ4, EVA, EVK, EVFD, ↓reduceIte, Nat.reduceEqDiff, Nat.reduceAdd, Nat.reduceSub, Nat.reduceMul, Nat.reduceLT, Nat.reduceLeDiff, reduceCtorEq, Int.reduceToNat, Int.reduceLT, Int.reduceLE, Int.reduceAdd, Int.reduceSub, Int.reduceMul, Int.reduceNeg, Int.reduceEq, Nat.reduceMod, forall_eq_or_imp, forall_eq, forall_const, EVY, true_imp_iff, implies_true, Int.cast_ofNat_Int, forall_eq']
    exact congrArg (LO.row 2 n.caps.length) (ini_zero _)
  intro i _ hi _
  unfold lb34_2
  simp only [↓EVP0, EVQ0, EVQ1, EVQ2, EVQ3, EVQ4, EVA, EVK, EVFD, ↓reduceIte, Nat.reduceEqDiff, Nat.reduceAdd, Nat.reduceSub, Nat.reduceMul, Nat.reduceLT, Nat.reduceLeDiff, reduceCtorEq, Int.reduceToNat, Int.reduceLT, Int.reduceLE, Int.reduceAdd, Int.reduceSub, Int.reduceMul, Int.reduceNeg, Int.reduceEq, Nat.reduceMod, forall_eq_or_imp, forall_eq, forall_const, EVY, true_imp_iff, implies_true, Int.cast_ofNat_Int, forall_eq']
  refine ⟨fun hg3 => ?_, fun hg3 => ?_⟩
  · have hi2 : i < n.caps.length := by have := of_decide_eq_true hg3; omega
    refine ⟨⟨by omega, by omega⟩, by omega, by unfold In64; omega, hi2, (), ?_⟩
    rw [← ini_set hi2]
    exact congrArg (LO.row 2 n.caps.length) (rtsF_set (L := ini n.caps.length i) (by rw [ini_len (by omega)]; exact hi2) ⟨0, 1⟩ _)
  have hi2 : i = n.caps.length := by have := of_decide_eq_false hg3; omega
  subst hi2
  rw [ini_full]
  intro hf1
  have hok0 : ∀ x, x ∈ List.replicate n.caps.length (⟨0, 1⟩ : Rt) → RtOk x := by
    intro x hx
    rw [(List.mem_replicate.1 hx).2]
    exact ⟨show In64 0 by unfold In64; omega, show In64 1 by unfold In64; omega⟩
  refine lwp_for (α := List Rt) n.fls.length (fun i M => loadA (prs (n.fls.take i) (rates.take i)) (List.replicate n.caps.length ⟨0, 1⟩) = (M, 0) ∧ M.length = n.caps.length) (fun i M => [(1, .rsl 2 rates.length (rtsF rates)), (8, .ptr 2 0 0 0 0), (10, .fn 54 [.ptr 2 0 0 0 0]), (53, .rsl 4 n.fls.length (flsF n.fls)), (54, .sc (.int .i64 n.fls.length)), (55, .sc (.int .i64 i))])
    (fun i M => [(0, .box [.rsl 2 n.caps.length (rtsF n.caps), .rsl 4 n.fls.length (flsF n.fls)]), (0, .row 2 n.caps.length (rtsF M)), (0, .box [.sl 1 0 2 0 n.caps.length])]) (List.replicate n.caps.length ⟨0, 1⟩) ?_ ?_ (fun _ _ => Nat.zero_le _) ?_
  · exact ⟨by simp [prs, loadA], by simp⟩
  · simp only [↓EVP0, EVQ0, EVQ1, EVQ2, EVQ3, EVQ4, EVA, EVK, EVFD, ↓reduceIte, Nat.reduceEqDiff, Nat.reduceAdd, Nat.reduceSub, Nat.reduceMul, Nat.reduceLT, Nat.reduceLeDiff, reduceCtorEq, Int.reduceToNat, Int.reduceLT, Int.reduceLE, Int.reduceAdd, Int.reduceSub, Int.reduceMul, Int.reduceNeg, Int.reduceEq, Nat.reduceMod, forall_eq_or_imp, forall_eq, forall_const, EVY, true_imp_iff, implies_true, Int.cast_ofNat_Int, forall_eq']
  rintro i M hi ⟨hy, hyl⟩
  unfold lb34_1
  simp only [↓EVP0, EVQ0, EVQ1, EVQ2, EVQ3, EVQ4, EVA, EVK, EVFD, ↓reduceIte, Nat.reduceEqDiff, Nat.reduceAdd, Nat.reduceSub, Nat.reduceMul, Nat.reduceLT, Nat.reduceLeDiff, reduceCtorEq, Int.reduceToNat, Int.reduceLT, Int.reduceLE, Int.reduceAdd, Int.reduceSub, Int.reduceMul, Int.reduceNeg, Int.reduceEq, Nat.reduceMod, forall_eq_or_imp, forall_eq, forall_const, EVY, true_imp_iff, implies_true, Int.cast_ofNat_Int, forall_eq']
  refine ⟨fun hg4 => ?_, fun hg4 => ?_⟩
  · have hi2 : i < n.fls.length := by have := of_decide_eq_true hg4; omega
    have hm : n.fls.getD i default ∈ n.fls := getD_mem default hi2
    have hlk := hV.link _ hm
    have hsp := prs_take (rs := rates) e2.symm hi2
    have hsp2 := prs_split (rs := rates) e2.symm (i + 1)
    generalize n.fls.getD i default = f at *
    refine ⟨⟨by omega, by omega⟩, fun hl1 => ?_⟩
    refine lwp_for (α := List Rt) f.links.length (fun k M => loadA (prs (n.fls.take i) (rates.take i) ++ (f.links.take k).map fun l => (l, rates.getD i default)) (List.replicate n.caps.length ⟨0, 1⟩) = (M, 0) ∧ M.length = n.caps.length) (fun k M => [(1, .rsl 2 rates.length (rtsF rates)), (8, .ptr 2 0 0 0 0), (10, .fn 54 [.ptr 2 0 0 0 0]), (11, .sc (.int .i64 i)), (53, .rsl 4 n.fls.length (flsF n.fls)), (54, .sc (.int .i64 n.fls.length)), (55, .sc (.int .i64 i)), (61, .rsl 1 f.links.length (intsF f.links)), (62, .sc (.int .i64 f.links.length)), (63, .sc (.int .i64 k))])
      (fun k M => [(0, .box [.rsl 2 n.caps.length (rtsF n.caps), .rsl 4 n.fls.length (flsF n.fls)]), (0, .row 2 n.caps.length (rtsF M)), (0, .box [.sl 1 0 2 0 n.caps.length])]) M ?_ ?_ (fun _ _ => Nat.zero_le _) ?_
    · exact ⟨by simpa using hy, hyl⟩
    · simp only [↓EVP0, EVQ0, EVQ1, EVQ2, EVQ3, EVQ4, EVA, EVK, EVFD, ↓reduceIte, Nat.reduceEqDiff, Nat.reduceAdd, Nat.reduceSub, Nat.reduceMul, Nat.reduceLT, Nat.reduceLeDiff, reduceCtorEq, Int.reduceToNat, Int.reduceLT, Int.reduceLE, Int.reduceAdd, Int.reduceSub, Int.reduceMul, Int.reduceNeg, Int.reduceEq, Nat.reduceMod, forall_eq_or_imp, forall_eq, forall_const, EVY, true_imp_iff, implies_true, Int.cast_ofNat_Int, forall_eq']
    rintro k M hk ⟨hz, hzl⟩
    unfold lb34_0
    simp only [↓EVP0, EVQ0, EVQ1, EVQ2, EVQ3, EVQ4, EVA, EVK, EVFD, ↓reduceIte, Nat.reduceEqDiff, Nat.reduceAdd, Nat.reduceSub, Nat.reduceMul, Nat.reduceLT, Nat.reduceLeDiff, reduceCtorEq, Int.reduceToNat, Int.reduceLT, Int.reduceLE, Int.reduceAdd, Int.reduceSub, Int.reduceMul, Int.reduceNeg, Int.reduceEq, Nat.reduceMod, forall_eq_or_imp, forall_eq, forall_const, EVY, true_imp_iff, implies_true, Int.cast_ofNat_Int, forall_eq']
    refine ⟨fun hg5 => ?_, fun hg5 => ?_⟩
    · have hk2 : k < f.links.length := by have := of_decide_eq_true hg5; omega
      obtain ⟨k0, k1⟩ := hlk _ (getD_mem 0 hk2)
      have hri : RtOk (rates.getD i default) := hr _ (getD_mem default (by omega))
      have hMok : ∀ x, x ∈ M → RtOk x := by
        have := loadA_okRt (ps := prs (n.fls.take i) (rates.take i) ++ (f.links.take k).map fun l => (l, rates.getD i default)) hok0
        rw [hz] at this
        exact this
      have hc := lc_load1 (.box [.rsl 2 n.caps.length (rtsF n.caps), .rsl 4 n.fls.length (flsF n.fls)]) ⟨trivial, trivial, trivial⟩ M hMok (f.links.getD k 0) k0 (by omega) (rates.getD i default) hri
      rw [hzl] at hc
      unfold ratV at hc
      have hsn := fun h => loadA_snoc hz (f.links.getD k 0) (rates.getD i default) h
      rw [List.append_assoc, ← map_take hk2] at hsn
      have hfl := fun h => loadA_fail (b := (f.links.drop (k + 1)).map (fun l => (l, rates.getD i default)) ++ prs (n.fls.drop (i + 1)) (rates.drop (i + 1))) hz (f.links.getD k 0) (rates.getD i default) h
      rw [← List.cons_append, ← List.append_assoc, List.append_assoc (prs (n.fls.take i) (rates.take i)), ← map_split hk2, ← hsp, ← hsp2] at hfl
      refine ⟨⟨by omega, by omega⟩, ⟨by omega, by omega⟩, by kernel_rfl, callK_mut hc ?_⟩
      generalize addR (M.getD (f.links.getD k 0).toNat default) (rates.getD i default) = q at *
      simp only [↓EVP0, EVQ0, EVQ1, EVQ2, EVQ3, EVQ4, EVA, EVK, EVFD, ↓reduceIte, Nat.reduceEqDiff, Nat.reduceAdd, Nat.reduceSub, Nat.reduceMul, Nat.reduceLT, Nat.reduceLeDiff, reduceCtorEq, Int.reduceToNat, Int.reduceLT, Int.reduceLE, Int.reduceAdd, Int.reduceSub, Int.reduceMul, Int.reduceNeg, Int.reduceEq, Nat.reduceMod, forall_eq_or_imp, forall_eq, forall_const, EVY, true_imp_iff, implies_true, Int.cast_ofNat_Int, forall_eq']
      refine ⟨fun h => ?_, fun h => ?_⟩
      · rw [hfl (by simpa using h)]
        exact ⟨rfl, rfl⟩
      · exact ⟨by unfold In64; omega, hk2, _, ⟨hsn (by simpa using h), by rw [List.length_set]; exact hzl⟩, rfl⟩
    · have hk2 : k = f.links.length := by have := of_decide_eq_false hg5; omega
      subst hk2
      rw [List.take_length, ← hsp] at hz
      exact ⟨by unfold In64; omega, hi2, M, ⟨hz, hzl⟩, rfl⟩
  · have hi2 : i = n.fls.length := by have := of_decide_eq_false hg4; omega
    subst hi2
    rw [List.take_length, ← e2, List.take_length] at hy
    rw [hy]
    exact ⟨⟨hyl, Nat.le_refl _, fun _ _ => rfl⟩, rfl⟩
end Go.Proofs.YtdfiicpikcdokaaGreatDoor
namespace Go.Proofs.YtdfiicpikcdokaaGreatDoor
set_option linter.unusedSimpArgs false
set_option linter.unusedVariables false
open Go.RowKit
set_option maxRecDepth 20000

theorem loadE_okRt (n : Nt) (rates : List Rt) : ∀ x, x ∈ (loadE n rates).1 → RtOk x := by
  unfold loadE
  split
  · refine loadA_okRt fun x hx => ?_
    rw [(List.mem_replicate.1 hx).2]
    exact ⟨show In64 0 by unfold In64; omega, show In64 1 by unfold In64; omega⟩
  · intro x hx; simp at hx
theorem loadE_vld {n : Nt} {rates : List Rt} (h : (loadE n rates).2 = 0) : vldN n = true ∧ rates.length = n.fls.length ∧ (∀ r, r ∈ rates → vldR r = true) ∧ loadA (prs n.fls rates) (List.replicate n.caps.length ⟨0, 1⟩) = loadE n rates := by
  unfold loadE at h ⊢
  split at h
  · rename_i h2
    simp only [Bool.and_eq_true, decide_eq_true_eq, List.all_eq_true] at h2
    rw [if_pos (by simpa using h2)]
    exact ⟨h2.1, h2.2.1, h2.2.2, rfl⟩
  · simp at h
theorem prs_mem : ∀ {fs : List Fl} {rs : List Rt} {p : Int × Rt}, p ∈ prs fs rs → (∃ f, f ∈ fs ∧ p.1 ∈ f.links) ∧ p.2 ∈ rs
  | [], _, p, h => by simp [prs] at h
  | _ :: _, [], p, h => by simp [prs] at h
  | f :: fs, r :: rs, p, h => by
    simp only [prs, List.mem_append, List.mem_map] at h
    rcases h with ⟨l, hl, rfl⟩ | h
    · exact ⟨⟨f, by simp, hl⟩, by simp⟩
    · obtain ⟨⟨g, hg, hl⟩, h2⟩ := prs_mem h
      exact ⟨⟨g, by simp [hg], hl⟩, by simp [h2]⟩
theorem load_sum {n : Nt} {rates : List Rt} (h : (loadE n rates).2 = 0) : (loadE n rates).1.length = n.caps.length ∧ (∀ x, x ∈ (loadE n rates).1 → vldR x = true) ∧ ∀ j, j < n.caps.length → qv ((loadE n rates).1.getD j default) = sq (prs n.fls rates) j := by
  obtain ⟨h1, h2, h3, h4⟩ := loadE_vld h
  have hV := vldN_of h1
  obtain ⟨k1, k2, k3⟩ := loadA_ok (ps := prs n.fls rates) (L := List.replicate n.caps.length ⟨0, 1⟩) (M := (loadE n rates).1) (fun p hp => by
    obtain ⟨⟨f, hf, hl⟩, _⟩ := prs_mem hp
    simpa using hV.link f hf _ hl) (fun x hx => by rw [(List.mem_replicate.1 hx).2]; kernel_rfl) (by rw [h4]; exact Prod.ext rfl h)
  simp only [List.length_replicate] at k1 k3
  refine ⟨k1, k2, fun j hj => ?_⟩
  rw [k3 j hj, List.getD_eq_getElem?_getD, List.getElem?_replicate, if_pos hj]
  show qv ⟨0, 1⟩ + _ = _
  rw [show qv ⟨0, 1⟩ = 0 by unfold qv; simp]; grind
theorem getD_okRt {L : List Rt} (h : ∀ x, x ∈ L → RtOk x) (i : Nat) : RtOk (L.getD i default) := by
  by_cases hi : i < L.length
  · exact h _ (getD_mem default hi)
  · rw [List.getD_eq_getElem?_getD, List.getElem?_eq_none (by omega)]
    exact ⟨show In64 0 by unfold In64; omega, show In64 0 by unfold In64; omega⟩
def fullB (n : Nt) (rates : List Rt) (l : Int) : Bool := decide ((loadE n rates).2 = 0) && (decide (0 ≤ l) && (decide (l < n.caps.length) && decide (cmpR ((loadE n rates).1.getD l.toNat default) (n.caps.getD l.toNat default) = 0)))
theorem ev_full33 (n : Nt) (hn : NtOk n) (rates : List Rt) (hr : ∀ r, r ∈ rates → RtOk r) (l : Int) : Ev Tryz.prog 15 [netV n, ratsV rates, .sc (.int .i64 l)] (.sc (.bool (fullB n rates l))) := by
  have h1 := ev_load n hn rates hr
  have hok := loadE_okRt n rates
  have hsum := fun h => load_sum (n := n) (rates := rates) h
  unfold lsV netV ratsV at *
  refine ev_fn Tryz.func15 comp15 (show 3 ≤ Tryz.f15.ntmps by decide) ?_; unfold cf15 rf15; simp only [↓EVP0, EVQ0, EVQ1, EVQ2, EVQ3, EVQ4, EVA, EVK, EVFD, ↓reduceIte, Nat.reduceEqDiff, Nat.reduceAdd, Nat.reduceSub, Nat.reduceMul, Nat.reduceLT, Nat.reduceLeDiff, reduceCtorEq, Int.reduceToNat, Int.reduceLT, Int.reduceLE, Int.reduceAdd, Int.reduceSub, Int.reduceMul, Int.reduceNeg, Int.reduceEq, Nat.reduceMod, forall_eq_or_imp, forall_eq, forall_const, EVY, true_imp_iff, implies_true, Int.cast_ofNat_Int, forall_eq']
  refine callK_ro (h1) ?_ ?_
  · simp only [↓EVP0, EVQ0, EVQ1, EVQ2, EVQ3, EVQ4, EVA, EVK, EVFD, ↓reduceIte, Nat.reduceEqDiff, Nat.reduceAdd, Nat.reduceSub, Nat.reduceMul, Nat.reduceLT, Nat.reduceLeDiff, reduceCtorEq, Int.reduceToNat, Int.reduceLT, Int.reduceLE, Int.reduceAdd, Int.reduceSub, Int.reduceMul, Int.reduceNeg, Int.reduceEq, Nat.reduceMod, forall_eq_or_imp, forall_eq, forall_const, EVY, true_imp_iff, implies_true, Int.cast_ofNat_Int, forall_eq']
  simp only [↓EVP0, EVQ0, EVQ1, EVQ2, EVQ3, EVQ4, EVA, EVK, EVFD, ↓reduceIte, Nat.reduceEqDiff, Nat.reduceAdd, Nat.reduceSub, Nat.reduceMul, Nat.reduceLT, Nat.reduceLeDiff, reduceCtorEq, Int.reduceToNat, Int.reduceLT, Int.reduceLE, Int.reduceAdd, Int.reduceSub, Int.reduceMul, Int.reduceNeg, Int.reduceEq, Nat.reduceMod, forall_eq_or_imp, forall_eq, forall_const, EVY, true_imp_iff, implies_true, Int.cast_ofNat_Int, forall_eq']
  have h2 := ev_cmp ((loadE n rates).1.getD l.toNat default) (n.caps.getD l.toNat default) (getD_okRt hok _) (getD_okRt hn.caps _)
  unfold ratV at h2
  have hlen : (bif bif decide ((loadE n rates).2 = 0) then decide (0 ≤ l) else false then decide (l < (loadE n rates).1.length) else false) = true → 0 ≤ l ∧ l < ((loadE n rates).1.length : Int) ∧ l < n.caps.length ∧ (loadE n rates).2 = 0 := by
    intro h
    by_cases e0 : (loadE n rates).2 = 0
    · obtain ⟨s1, _, _⟩ := hsum e0
      rw [decide_eq_true e0] at h
      cases e1 : decide (0 ≤ l)
      · rw [e1] at h; simp at h
      · cases e2 : decide (l < (loadE n rates).1.length)
        · rw [e1, e2] at h; simp at h
        · have := of_decide_eq_true e1
          have := of_decide_eq_true e2
          exact ⟨by omega, by omega, by omega, e0⟩
    · rw [decide_eq_false e0] at h; simp at h
  refine ⟨fun h => ⟨(hlen h).1, (hlen h).2.1⟩, fun h => ⟨(hlen h).1, (hlen h).2.2.1⟩, ?_⟩
  (first | refine lopsQ_gcall ?_ | refine lopsQ_gecl ?_); (simp only [↓EVP0, EVQ0, EVQ1, EVQ2, EVQ3, EVQ4, EVA, EVK, EVFD, ↓reduceIte, Nat.reduceEqDiff, Nat.reduceAdd, Nat.reduceSub, Nat.reduceMul, Nat.reduceLT, Nat.reduceLeDiff, reduceCtorEq, Int.reduceToNat, Int.reduceLT, Int.reduceLE, Int.reduceAdd, Int.reduceSub, Int.reduceMul, Int.reduceNeg, Int.reduceEq, Nat.reduceMod, forall_eq_or_imp, forall_eq, forall_const, EVY, true_imp_iff, implies_true, Int.cast_ofNat_Int, forall_eq'])
  first | refine gCallK_ro _ (fun _ => h2) (fun _ => ?_) ?_ | refine geCallK_ro _ (fun _ => h2) (fun _ => ?_) ?_
  · simp only [↓EVP0, EVQ0, EVQ1, EVQ2, EVQ3, EVQ4, EVA, EVK, EVFD, ↓reduceIte, Nat.reduceEqDiff, Nat.reduceAdd, Nat.reduceSub, Nat.reduceMul, Nat.reduceLT, Nat.reduceLeDiff, reduceCtorEq, Int.reduceToNat, Int.reduceLT, Int.reduceLE, Int.reduceAdd, Int.reduceSub, Int.reduceMul, Int.reduceNeg, Int.reduceEq, Nat.reduceMod, forall_eq_or_imp, forall_eq, forall_const, EVY, true_imp_iff, implies_true, Int.cast_ofNat_Int, forall_eq']
  simp only [↓EVP0, EVQ0, EVQ1, EVQ2, EVQ3, EVQ4, EVA, EVK, EVFD, ↓reduceIte, Nat.reduceEqDiff, Nat.reduceAdd, Nat.reduceSub, Nat.reduceMul, Nat.reduceLT, Nat.reduceLeDiff, reduceCtorEq, Int.reduceToNat, Int.reduceLT, Int.reduceLE, Int.reduceAdd, Int.reduceSub, Int.reduceMul, Int.reduceNeg, Int.reduceEq, Nat.reduceMod, forall_eq_or_imp, forall_eq, forall_const, EVY, true_imp_iff, implies_true, Int.cast_ofNat_Int, forall_eq']
  unfold fullB
  by_cases e0 : (loadE n rates).2 = 0
  · rw [(hsum e0).1, decide_eq_true e0]
    cases decide (0 ≤ l) <;> cases decide (l < n.caps.length) <;> simp
  · rw [decide_eq_false e0]; rfl
end Go.Proofs.YtdfiicpikcdokaaGreatDoor
namespace Go.Proofs.YtdfiicpikcdokaaGreatDoor
set_option linter.unusedSimpArgs false
set_option linter.unusedVariables false
open Go.RowKit
set_option maxRecDepth 20000

theorem Tryz.copy_fresh (b : Nat) (w : World) (h0 : w.cell? ⟨b, 0, none⟩ = some (.pointer none)) (hsh : w.shape? b = some (53, 2)) (hfz : w.frozen? ⟨b, 0, none⟩ = false) :
    Calls Tryz.prog 35 #[.pointer (some ⟨b, 0, none⟩)] w fun e w' => e = .returned (.tuple #[]) ∧ w' = w.setCell ⟨b, 0, none⟩ (.pointer (some ⟨b, 0, none⟩)) := Any.Builder_copyCheck_fresh Tryz.lays240 Tryz.Builder_X72_240 b w h0 hsh hfz
theorem Tryz.copy_used (b : Nat) (w : World) (h0 : w.cell? ⟨b, 0, none⟩ = some (.pointer (some ⟨b, 0, none⟩))) :
    Calls Tryz.prog 35 #[.pointer (some ⟨b, 0, none⟩)] w fun e w' => e = .returned (.tuple #[]) ∧ w' = w := Any.Builder_copyCheck_used Tryz.lays240 Tryz.Builder_X72_240 b w h0
theorem bld_at {R : RO} {ι : IM} {h : LH} {B : Nat} {w : World} (hr : Rep R ι h B w) {k ver : Nat} {t : TypeId} {c0 c1 : LV} (hk : k < h.n) (hf : h.f k = (ver, .tbox t [c0, c1])) :
    (ι k).o = 0 ∧ (ι k).m = 2 ∧ ∃ v0 v1, w.heap[(ι k).b]? = some (.cells #[v0, v1] t (0, 0)) ∧ Rv R ι h c0 v0 ∧ Rv R ι h c1 v1 := by
  have hty := hr.ty k hk
  rw [hf] at hty
  obtain ⟨h1, h2, h3⟩ := hty
  have hm : (ι k).m ≠ 0 := by rw [h2]; simp
  obtain ⟨c0', hw0⟩ := h3 hm
  have hc := hr.cells k hk (by rw [hf]; rfl) (by rw [hf]; rfl) hm
  obtain ⟨cl, e, hw, hs, _, _, hcl⟩ := hc.ex
  rw [hf] at hcl
  rw [h1, h2] at hs
  have e1 : e = t := by
    rw [hw] at hw0
    injection hw0 with hw0
    injection hw0 with _ hw0 _
  subst e1
  obtain ⟨v0, a1, a2⟩ := hcl 0 0 c0 rfl
  obtain ⟨v1, b1, b2⟩ := hcl 0 1 c1 rfl
  rw [h1] at a1 b1
  simp only [LO.sz, Nat.zero_mul, Nat.zero_add, Nat.add_zero] at a1 b1
  refine ⟨h1, h2, v0, v1, ?_, a2, b2⟩
  rw [hw]
  have : cl = #[v0, v1] := by
    apply Array.ext_getElem?
    intro i
    match i with
    | 0 => rw [a1]; rfl
    | 1 => rw [b1]; rfl
    | i + 2 => rw [Array.getElem?_eq_none (by rw [hs]; simp), Array.getElem?_eq_none (by simp)]
  rw [this]
theorem lc_copy_fresh {h : LH} {k ver : Nat} {c1 : LV} (hk : k < h.n) (hf : h.f k = (ver, .tbox 53 [.sc (.pointer none), c1])) :
    LCall Tryz.prog 35 [.ptr k ver 0 0 0] h (.tup []) (h.set k (ver, .tbox 53 [.ptr k ver 0 0 0, c1])) := by
  rintro B R ι w ⟨vs⟩ hB hr hsz ha
  match vs, hsz with
  | [v], _ =>
    obtain ⟨h1, h2, v0, v1, hw, hv0, hv1⟩ := bld_at hr hk hf
    have hp : Rv R ι h (.ptr k ver 0 0 0) v := ha 0 _ rfl
    obtain ⟨a, rfl, _, _, hpl⟩ := hp.ptr_inv
    have hpl := hpl (by rw [hf])
    have e0 : a = ⟨(ι k).b, 0, none⟩ := by rw [hpl, h1]
    have ev := hv0.sc_inv.1
    subst ev
    have hst := st1_ok (P := Tryz.prog) hr hB (sz := 0) (i := 0) (c := 0) (a := a) (lv := .ptr k ver 0 0 0) hk (by rw [hf]) hpl (by rw [hf]; exact ⟨rfl, rfl, by simp, rfl⟩) hp
    rw [hf] at hst
    subst e0
    refine (Tryz.copy_fresh (ι k).b w (by simp [World.cell?, hw]) (by simp [World.shape?, hw]) (by simp [World.frozen?, hw])).mono ?_
    rintro e w' ⟨rfl, rfl⟩
    exact ⟨_, R, ι, rfl, hst.2, .tup _ _ rfl (fun i c hi => by simp at hi)⟩
theorem lc_copy_used {h : LH} {k ver : Nat} {c1 : LV} (hk : k < h.n) (hf : h.f k = (ver, .tbox 53 [.ptr k ver 0 0 0, c1])) :
    LCall Tryz.prog 35 [.ptr k ver 0 0 0] h (.tup []) h := by
  rintro B R ι w ⟨vs⟩ hB hr hsz ha
  match vs, hsz with
  | [v], _ =>
    obtain ⟨h1, h2, v0, v1, hw, hv0, hv1⟩ := bld_at hr hk hf
    have hp : Rv R ι h (.ptr k ver 0 0 0) v := ha 0 _ rfl
    obtain ⟨a, rfl, _, _, hpl⟩ := hp.ptr_inv
    have hpl := hpl (by rw [hf])
    have e0 : a = ⟨(ι k).b, 0, none⟩ := by rw [hpl, h1]
    obtain ⟨a', rfl, _, _, hpl'⟩ := hv0.ptr_inv
    have hpl' := hpl' (by rw [hf])
    have e0' : a' = ⟨(ι k).b, 0, none⟩ := by rw [hpl', h1]
    subst e0 e0'
    refine (Tryz.copy_used (ι k).b w (by simp [World.cell?, hw])).mono ?_
    rintro e w' ⟨rfl, rfl⟩
    exact ⟨_, R, ι, rfl, Trans.refl hr hB, .tup _ _ rfl (fun i c hi => by simp at hi)⟩
end Go.Proofs.YtdfiicpikcdokaaGreatDoor
namespace Go.Proofs.YtdfiicpikcdokaaGreatDoor
set_option linter.unusedSimpArgs false
set_option linter.unusedVariables false
open Go.RowKit
set_option maxRecDepth 20000

theorem set_self {h : LH} {k : Nat} {vo : Nat × LO} : (h.set k vo).f k = vo := by simp [LH.set]
theorem set_ne {h : LH} {k j : Nat} {vo : Nat × LO} (hne : j ≠ k) : (h.set k vo).f j = h.f j := by simp [LH.set, hne]
theorem set_n {h : LH} {k : Nat} {vo : Nat × LO} : (h.set k vo).n = h.n := rfl
theorem strI_len (s : ByteArray) : (strI s).length = s.size := by simp [strI]
def bldS (h : LH) (kb vb kr vr : Nat) (xs : List Int) : LH := (h.set kr (vr, .byt 5 xs)).set kb (vb, .tbox 53 [.ptr kb vb 0 0 0, .sl kr vr 1 0 xs.length])
theorem lc_ws_row {h : LH} {kb vb kr vr : Nat} {xs : List Int} (hkb : kb < h.n) (hb : h.f kb = (vb, .tbox 53 [.ptr kb vb 0 0 0, .sl kr vr 1 0 xs.length])) (hkr : kr < h.n) (hr : h.f kr = (vr, .byt 5 xs)) (hne : kr ≠ kb)
    (s : ByteArray) (hs : 0 < s.size) (hroom : xs.length + s.size ≤ 1000000) :
    LCall Tryz.prog 16 [.ptr kb vb 0 0 0, .sc (.string s)] h (.tup [.sc (.int .i64 s.size), .sc .nilIface]) (bldS h kb vb kr (vr + 1) (xs ++ strI s)) := by
  refine lcall_of_lwpH Tryz.func16 comp16 (show 2 ≤ Tryz.f16.ntmps by decide) ?_
  unfold cf16 rf16
  simp only [↓EVP0, EVQ0, EVQ1, EVQ2, EVQ3, EVQ4, EVA, EVK, true_and, ↓reduceIte, Nat.reduceEqDiff, Nat.reduceAdd, Nat.reduceSub, Nat.reduceMul, Nat.reduceLT, Nat.reduceLeDiff, reduceCtorEq, Int.reduceToNat, Int.reduceLT, Int.reduceLE, Int.reduceAdd, Int.reduceSub, Int.reduceMul, Int.reduceNeg, Int.reduceEq, Nat.reduceMod, forall_eq_or_imp, forall_eq, forall_const, EVY, true_imp_iff, implies_true, Int.cast_ofNat_Int, forall_eq']
  refine callK_mut (lc_copy_used hkb hb) ?_
  simp only [↓EVP0, EVQ0, EVQ1, EVQ2, EVQ3, EVQ4, EVA, EVK, true_and, ↓reduceIte, Nat.reduceEqDiff, Nat.reduceAdd, Nat.reduceSub, Nat.reduceMul, Nat.reduceLT, Nat.reduceLeDiff, reduceCtorEq, Int.reduceToNat, Int.reduceLT, Int.reduceLE, Int.reduceAdd, Int.reduceSub, Int.reduceMul, Int.reduceNeg, Int.reduceEq, Nat.reduceMod, forall_eq_or_imp, forall_eq, forall_const, EVY, true_imp_iff, implies_true, Int.cast_ofNat_Int, forall_eq']
  simp only [hb]
  simp only [↓EVP0, EVQ0, EVQ1, EVQ2, EVQ3, EVQ4, EVA, EVK, true_and, ↓reduceIte, Nat.reduceEqDiff, Nat.reduceAdd, Nat.reduceSub, Nat.reduceMul, Nat.reduceLT, Nat.reduceLeDiff, reduceCtorEq, Int.reduceToNat, Int.reduceLT, Int.reduceLE, Int.reduceAdd, Int.reduceSub, Int.reduceMul, Int.reduceNeg, Int.reduceEq, Nat.reduceMod, forall_eq_or_imp, forall_eq, forall_const, EVY, true_imp_iff, implies_true, Int.cast_ofNat_Int, forall_eq']
  simp only [hr, set_self, set_ne (Ne.symm hne), set_n, hb]
  simp only [↓EVP0, EVQ0, EVQ1, EVQ2, EVQ3, EVQ4, EVA, EVK, true_and, ↓reduceIte, Nat.reduceEqDiff, Nat.reduceAdd, Nat.reduceSub, Nat.reduceMul, Nat.reduceLT, Nat.reduceLeDiff, reduceCtorEq, Int.reduceToNat, Int.reduceLT, Int.reduceLE, Int.reduceAdd, Int.reduceSub, Int.reduceMul, Int.reduceNeg, Int.reduceEq, Nat.reduceMod, forall_eq_or_imp, forall_eq, forall_const, EVY, true_imp_iff, implies_true, Int.cast_ofNat_Int, forall_eq']
  refine ⟨hkb, by rw [strI_len]; exact hs, hkr, by unfold appRoom; rw [strI_len]; omega, hkb, ?_⟩
  unfold finH bldS
  simp only [↓EVP0, EVQ0, EVQ1, EVQ2, EVQ3, EVQ4, EVA, EVK, true_and, ↓reduceIte, Nat.reduceEqDiff, Nat.reduceAdd, Nat.reduceSub, Nat.reduceMul, Nat.reduceLT, Nat.reduceLeDiff, reduceCtorEq, Int.reduceToNat, Int.reduceLT, Int.reduceLE, Int.reduceAdd, Int.reduceSub, Int.reduceMul, Int.reduceNeg, Int.reduceEq, Nat.reduceMod, forall_eq_or_imp, forall_eq, forall_const, EVY, true_imp_iff, implies_true, Int.cast_ofNat_Int, forall_eq']
  rw [List.length_append]
def bldN (h : LH) (kb vb : Nat) (xs : List Int) : LH := ((h.set kb (vb, .tbox 53 [.ptr kb vb 0 0 0, .nsl])).push (.byt 5 xs)).set kb (vb, .tbox 53 [.ptr kb vb 0 0 0, .sl h.n 0 1 0 xs.length])
theorem push_old {h : LH} {k : Nat} {ob : LO} (hk : k < h.n) : (h.push ob).f k = h.f k := by simp [LH.push, Nat.ne_of_lt hk]
theorem push_n {h : LH} {ob : LO} : (h.push ob).n = h.n + 1 := rfl
theorem lc_ws_new {h : LH} {kb vb : Nat} (hkb : kb < h.n) (hb : h.f kb = (vb, .tbox 53 [.sc (.pointer none), .nsl]))
    (s : ByteArray) (hs : 0 < s.size) (hroom : s.size ≤ 1000000) :
    LCall Tryz.prog 16 [.ptr kb vb 0 0 0, .sc (.string s)] h (.tup [.sc (.int .i64 s.size), .sc .nilIface]) (bldN h kb vb (strI s)) := by
  refine lcall_of_lwpH Tryz.func16 comp16 (show 2 ≤ Tryz.f16.ntmps by decide) ?_
  unfold cf16 rf16
  simp only [↓EVP0, EVQ0, EVQ1, EVQ2, EVQ3, EVQ4, EVA, EVK, true_and, ↓reduceIte, Nat.reduceEqDiff, Nat.reduceAdd, Nat.reduceSub, Nat.reduceMul, Nat.reduceLT, Nat.reduceLeDiff, reduceCtorEq, Int.reduceToNat, Int.reduceLT, Int.reduceLE, Int.reduceAdd, Int.reduceSub, Int.reduceMul, Int.reduceNeg, Int.reduceEq, Nat.reduceMod, forall_eq_or_imp, forall_eq, forall_const, EVY, true_imp_iff, implies_true, Int.cast_ofNat_Int, forall_eq']
  refine callK_mut (lc_copy_fresh hkb hb) ?_
  simp only [↓EVP0, EVQ0, EVQ1, EVQ2, EVQ3, EVQ4, EVA, EVK, true_and, ↓reduceIte, Nat.reduceEqDiff, Nat.reduceAdd, Nat.reduceSub, Nat.reduceMul, Nat.reduceLT, Nat.reduceLeDiff, reduceCtorEq, Int.reduceToNat, Int.reduceLT, Int.reduceLE, Int.reduceAdd, Int.reduceSub, Int.reduceMul, Int.reduceNeg, Int.reduceEq, Nat.reduceMod, forall_eq_or_imp, forall_eq, forall_const, EVY, true_imp_iff, implies_true, Int.cast_ofNat_Int, forall_eq']
  simp only [set_self, set_n]
  simp only [↓EVP0, EVQ0, EVQ1, EVQ2, EVQ3, EVQ4, EVA, EVK, true_and, ↓reduceIte, Nat.reduceEqDiff, Nat.reduceAdd, Nat.reduceSub, Nat.reduceMul, Nat.reduceLT, Nat.reduceLeDiff, reduceCtorEq, Int.reduceToNat, Int.reduceLT, Int.reduceLE, Int.reduceAdd, Int.reduceSub, Int.reduceMul, Int.reduceNeg, Int.reduceEq, Nat.reduceMod, forall_eq_or_imp, forall_eq, forall_const, EVY, true_imp_iff, implies_true, Int.cast_ofNat_Int, forall_eq']
  simp only [push_old (h := h.set kb _) hkb, push_n, set_self, set_n]
  simp only [↓EVP0, EVQ0, EVQ1, EVQ2, EVQ3, EVQ4, EVA, EVK, true_and, ↓reduceIte, Nat.reduceEqDiff, Nat.reduceAdd, Nat.reduceSub, Nat.reduceMul, Nat.reduceLT, Nat.reduceLeDiff, reduceCtorEq, Int.reduceToNat, Int.reduceLT, Int.reduceLE, Int.reduceAdd, Int.reduceSub, Int.reduceMul, Int.reduceNeg, Int.reduceEq, Nat.reduceMod, forall_eq_or_imp, forall_eq, forall_const, EVY, true_imp_iff, implies_true, Int.cast_ofNat_Int, forall_eq']
  refine ⟨hkb, by rw [strI_len]; exact hs, by unfold appRoom; rw [strI_len]; omega, by omega, ?_⟩
  unfold finH bldN
  simp only [↓EVP0, EVQ0, EVQ1, EVQ2, EVQ3, EVQ4, EVA, EVK, true_and, ↓reduceIte, Nat.reduceEqDiff, Nat.reduceAdd, Nat.reduceSub, Nat.reduceMul, Nat.reduceLT, Nat.reduceLeDiff, reduceCtorEq, Int.reduceToNat, Int.reduceLT, Int.reduceLE, Int.reduceAdd, Int.reduceSub, Int.reduceMul, Int.reduceNeg, Int.reduceEq, Nat.reduceMod, forall_eq_or_imp, forall_eq, forall_const, EVY, true_imp_iff, implies_true, Int.cast_ofNat_Int, forall_eq']
end Go.Proofs.YtdfiicpikcdokaaGreatDoor
namespace Go.Proofs.YtdfiicpikcdokaaGreatDoor
set_option linter.unusedSimpArgs false
set_option linter.unusedVariables false
open Go.RowKit
set_option maxRecDepth 20000

set_option maxHeartbeats 2000000 in
set_option maxRecDepth 100000 in
theorem str_run {P : Program} {ρ : Go.Shelf.Ren} (L : Lays.n169 P ρ) (X : Builder.Extra P ρ) (b g cap n : Nat) (l : List UInt8) (w : World) (c1' : w.cell? ⟨b, 1, none⟩ = some (.slice (some ⟨g, 0, none⟩) l.length cap))
    (hsh : w.shape? g = some (ρ.t 5, n)) (hln : l.length ≤ n) (h0 : l ≠ []) (hlc : l.length ≤ cap) (hcm : cap ≤ maxLen) (hby : ∀ (j : Nat) (x : UInt8), l[j]? = some x → w.cell? ((⟨g, 0, none⟩ : Addr).add j) = some (.int .u8 x.toNat)) :
    Calls P (ρ.f 169) #[.pointer (some ⟨b, 0, none⟩)] w fun e w' => e = .returned (.string ⟨l.toArray⟩) ∧ w' = w.drew.freeze ⟨g, 0, none⟩ l.length := by
  have hl0 : l.length ≠ 0 := by simpa using h0
  have c1 : w.drew.cell? ⟨b, 1, none⟩ = some (.slice (some ⟨g, 0, none⟩) l.length cap) := c1'
  have hSD : (Builtin.unsafeSliceData_ #[(ρ.t 37)] (ρ.t 127) #[.slice (some ⟨g, 0, none⟩) l.length cap]).run P w.drew = .ok (.pointer (some ⟨g, 0, none⟩)) w.drew :=
    Lib.run_unsafeSliceData_row _ _ _ _ _ _ (by omega)
  have hUS : (Builtin.unsafeString_ #[(ρ.t 127), (ρ.t 3)] (ρ.t 9) #[.pointer (some ⟨g, 0, none⟩), .int .i64 l.length]).run P w.drew = .ok (.string ⟨l.toArray⟩) (w.drew.freeze ⟨g, 0, none⟩ l.length) :=
    Lib.run_unsafeString_row w.drew (ρ.t 127) (ρ.t 3) (ρ.t 9) (ρ.t 5) L.t127 X.cellsByte g n hsh l h0 hln (by unfold maxLen at hcm; omega) hby
  have mixed := L.mixed
  have t72 := L.t72; have a72 := L.a72; have z72 := L.z72; have v72 := L.v72; have u72 := run_underlying L.t72
  have t70 := L.t70; have a70 := L.a70; have z70 := L.z70; have v70 := L.v70; have u70 := run_underlying L.t70
  have t37 := L.t37; have a37 := L.a37; have z37 := L.z37; have v37 := L.v37; have u37 := run_underlying L.t37
  have t127 := L.t127; have a127 := L.a127; have z127 := L.z127; have v127 := L.v127; have u127 := run_underlying L.t127
  have t3 := L.t3; have a3 := L.a3; have z3 := L.z3; have v3 := L.v3; have u3 := run_underlying L.t3
  have t9 := L.t9; have a9 := L.a9; have z9 := L.z9; have v9 := L.v9; have u9 := run_underlying L.t9
  have t5 := X.t5; have a5 := X.a5; have z5 := X.z5; have v5 := X.v5; have u5 := run_underlying X.t5
  go_enter L.f169, Body.n169_ntmps ρ
  go_wp2
  go_region_o
  all_goals (go_wp2; go_ret; exact ⟨rfl, rfl⟩)
theorem Rep.drop {R : RO} {ι : IM} {h : LH} {B : Nat} {w w' : World} (hr : Rep R ι h B w) (hB : B ≤ w.heap.size) {k : Nat} (hk : k < h.n) (hlive : (h.f k).2.live = true) (hm : (ι k).m ≠ 0)
    (hos : w'.os = w.os) (htape : w'.tape = w.tape) (hout : w'.output = w.output) (hsize : w'.heap.size = w.heap.size) (hother : ∀ b, b ≠ (ι k).b → w'.heap[b]? = w.heap[b]?) :
    Trans B R ι h w R ι (h.set k ((h.f k).1, .dead)) w' := by
  have hmono : Mono R ι h R ι (h.set k ((h.f k).1, .dead)) := by
    refine ⟨fun _ _ hx => hx, Nat.le_refl _, fun j hj => ?_, fun j hj hv => rfl⟩
    by_cases e : j = k
    · subst e; simp [LH.set]
    · simp [LH.set, e]
  have hf : ∀ j, j ≠ k → (h.set k ((h.f k).1, .dead)).f j = h.f j := fun j hj => by simp [LH.set, hj]
  have hfk : (h.set k ((h.f k).1, .dead)).f k = ((h.f k).1, .dead) := by simp [LH.set]
  have hbk := hr.base k hk hlive (.inl hm)
  have hne : ∀ j, j < h.n → j ≠ k → (h.f j).2.live = true → ((ι j).m ≠ 0 ∨ (h.f j).2.isMap = true) → (ι j).b ≠ (ι k).b :=
    fun j hj hjk hlv hmz e => hjk (hr.apart j k hj hk hlv hlive hmz (.inl hm) e)
  have hjk : ∀ j, ((h.set k ((h.f k).1, .dead)).f j).2.live = true → j ≠ k := by
    intro j hl e
    subst e
    rw [hfk] at hl; simp [LO.live] at hl
  refine ⟨⟨?_, ?_, ?_, ?_, ?_, ?_, ?_, hr.gl⟩, hmono, ⟨hos, htape, hout, by omega, fun b hb => hother b (by omega)⟩, fun _ _ => rfl, hB⟩
  · intro b o hb
    rw [hother b (fun e => by rw [e, hbk.2.2] at hb; simp at hb)]
    exact hr.ro b o hb
  · intro j hj hlv hmp hmz
    have e := hjk j hlv
    rw [hf j e] at hlv hmp ⊢
    obtain ⟨cl, e', hw, hs, hz, hpl, hcl⟩ := (hr.cells j hj hlv hmp hmz).ex
    exact ⟨cl, e', by rw [hother _ (hne j hj e hlv (.inl hmz))]; exact hw, hs, hz, hpl, fun i c' lv hx => let ⟨v, a1, a2⟩ := hcl i c' lv hx; ⟨v, a1, a2.mono hmono⟩⟩
  · intro j hj hlv hmp hmz
    have e := hjk j hlv
    rw [hf j e] at hlv hmp ⊢
    exact hr.empty j hj hlv hmp hmz
  · intro j hj hlv hmz
    have e := hjk j hlv
    rw [hf j e] at hlv hmz
    obtain ⟨a, b, c⟩ := hr.base j hj hlv hmz
    exact ⟨a, by omega, c⟩
  · intro j j' hj hj' hlv hlv' hmz hmz' hbb
    have e := hjk j hlv
    have e' := hjk j' hlv'
    rw [hf j e] at hlv hmz
    rw [hf j' e'] at hlv' hmz'
    exact hr.apart j j' hj hj' hlv hlv' hmz hmz' hbb
  · intro j es hj hes
    have e := hjk j (by rw [hes]; rfl)
    rw [hf j e] at hes
    obtain ⟨ents, clock, q1, q2, q3, q4⟩ := hr.maps j es hj hes
    refine ⟨ents, clock, ?_, q2, q3, fun i kv hkv => let ⟨en, a1, a2, a3⟩ := q4 i kv hkv; ⟨en, a1, a2, a3.mono hmono⟩⟩
    rw [hother _ (hne j hj e (by rw [hes]; rfl) (.inr (by rw [hes]; rfl)))]; exact q1
  · intro j hj
    by_cases e : j = k
    · subst e; rw [hfk]; exact trivial
    · rw [hf j e]
      exact (hr.ty j hj).heap fun h1 h2 => hother _ (hne j hj e h1 (.inl h2))
def u8I (l : List UInt8) : List Int := l.map fun b => ((b.toNat : Nat) : Int)
theorem lc_str_row {h : LH} {kb vb kr vr : Nat} {l : List UInt8} (hkb : kb < h.n) (hb : h.f kb = (vb, .tbox 53 [.ptr kb vb 0 0 0, .sl kr vr 1 0 l.length])) (hkr : kr < h.n) (hrr : h.f kr = (vr, .byt 5 (u8I l))) (h0 : l ≠ []) :
    LCall Tryz.prog 19 [.ptr kb vb 0 0 0] h (.sc (.string ⟨l.toArray⟩)) (h.set kr (vr, .dead)) := by
  rintro B R ι w ⟨vs⟩ hB hr hsz ha
  match vs, hsz with
  | [v], _ =>
    obtain ⟨h1, h2, v0, v1, hw, hv0, hv1⟩ := bld_at hr hkb hb
    have hp : Rv R ι h (.ptr kb vb 0 0 0) v := ha 0 _ rfl
    obtain ⟨a, rfl, _, _, hpl⟩ := hp.ptr_inv
    have hpl := hpl (by rw [hb])
    have e0 : a = ⟨(ι kb).b, 0, none⟩ := by rw [hpl, h1]
    subst e0
    have hl0 : 0 < l.length := List.length_pos_iff.2 h0
    obtain ⟨sa, cap, rfl, _, _, hlc, hm, hcase⟩ := hv1.sl_inv
    obtain ⟨rfl, hcapm⟩ := (hcase.resolve_left (by omega)) (by rw [hrr])
    have hty := hr.ty kr hkr
    rw [hrr] at hty
    obtain ⟨t1, t2⟩ := hty
    simp only [Nat.zero_mul, Nat.add_zero, Nat.zero_add, Nat.mul_one] at hcapm hw
    rw [t1] at hw
    have hm0 : (ι kr).m ≠ 0 := by omega
    obtain ⟨c0, hg⟩ := t2 hm0
    have hlv : (h.f kr).2.live = true := by rw [hrr]; rfl
    obtain ⟨cl, e, hw2, hs, hle, _, hcl⟩ := (hr.cells kr hkr hlv (by rw [hrr]; rfl) hm0).ex
    rw [hw2] at hg
    injection hg with hg
    injection hg with _ hg _
    subst hg
    rw [hrr] at hcl
    have hrun := str_run Tryz.lays169 Tryz.Builder_Extra_169 (ι kb).b (ι kr).b cap cl.size l w (by simp [World.cell?, hw]) (by simp [World.shape?, hw2]; rfl) (by omega) h0 hlc hm (fun j x hx => by
      obtain ⟨u, a1, a2⟩ := hcl j 0 (.sc (.int .u8 x.toNat)) (by simp [cellAt, u8I, hx])
      have := a2.sc_inv.1
      subst this
      rw [t1] at a1
      simp only [LO.sz, Nat.mul_one, Nat.add_zero, Nat.zero_add] at a1
      rw [add_mk, Nat.zero_add]
      simp [World.cell?, hw2, a1])
    refine Calls.mono hrun ?_
    rintro e' w' ⟨rfl, rfl⟩
    have hfz : ∀ b, b ≠ (ι kr).b → (w.drew.freeze ⟨(ι kr).b, 0, none⟩ l.length).heap[b]? = w.heap[b]? := by
      intro b hb'
      unfold World.freeze
      rw [if_neg (by omega)]
      simp only [Array.getElem?_modify]
      rw [if_neg (fun e => hb' e.symm)]; rfl
    have hT := Rep.drop hr hB hkr hlv hm0 (w' := w.drew.freeze ⟨(ι kr).b, 0, none⟩ l.length) (by unfold World.freeze; split <;> rfl) (by unfold World.freeze; split <;> rfl) (by unfold World.freeze; split <;> rfl) (by unfold World.freeze; split <;> first | rfl | exact Array.size_modify) hfz
    rw [hrr] at hT
    exact ⟨_, R, ι, rfl, hT, rv_sc rfl⟩
theorem lc_str_nil {h : LH} {kb vb : Nat} {c0 : LV} (hkb : kb < h.n) (hb : h.f kb = (vb, .tbox 53 [c0, .nsl])) :
    LCall Tryz.prog 19 [.ptr kb vb 0 0 0] h (.sc (.string ⟨#[]⟩)) h := by
  rintro B R ι w ⟨vs⟩ hB hr hsz ha
  match vs, hsz with
  | [v], _ =>
    obtain ⟨h1, h2, v0, v1, hw, hv0, hv1⟩ := bld_at hr hkb hb
    have hp : Rv R ι h (.ptr kb vb 0 0 0) v := ha 0 _ rfl
    obtain ⟨a, rfl, _, _, hpl⟩ := hp.ptr_inv
    have hpl := hpl (by rw [hb])
    have e0 : a = ⟨(ι kb).b, 0, none⟩ := by rw [hpl, h1]
    subst e0
    have := hv1.nsl_inv
    subst this
    refine Calls.mono (Any.Builder_String_nil Tryz.lays169 Tryz.Builder_Extra_169 w.heap.size (ι kb).b v0 w hw) ?_
    rintro e' w' ⟨rfl, hBl⟩
    refine ⟨_, R, ι, rfl, trans_call hB hr (fun b o hbo => ?_) hBl (fun _ _ h => h) (fun _ _ => rfl) rfl, rv_sc rfl⟩
    have := hr.ro b o hbo
    rw [hBl.block b (Array.getElem?_eq_some_iff.1 this).1]; exact this
end Go.Proofs.YtdfiicpikcdokaaGreatDoor
namespace Go.Proofs.YtdfiicpikcdokaaGreatDoor
set_option linter.unusedSimpArgs false
set_option linter.unusedVariables false
open Go.RowKit
set_option maxRecDepth 20000

def itS (x : Int) : ByteArray := ⟨(Lib.itoa x).toArray⟩
def ItOk (x : Int) : Prop := Ev Tryz.prog 18 [.sc (.int .i64 x)] (.sc (.string (itS x)))
theorem itOk_small (i : Nat) (h : i < 100) : ItOk (i : Int) := by
  unfold ItOk itS
  have := ev_itoa i h
  rw [show Lib.itoa (i : Int) = Lib.decDigits i by unfold Lib.itoa; rw [if_neg (by omega)]; simp]
  exact this
theorem itS_len {x : Int} (h : In64 x) : (itS x).size ≤ 21 := by
  show (Lib.itoa x).toArray.size ≤ 21
  simpa using Lib.itoa_length_le x h.1 h.2
def txtR (r : Rt) : ByteArray := if vldR r = true then (if 1 < r.d then itS r.n ++ (⟨#[47]⟩ ++ itS r.d) else itS r.n) else ⟨#[]⟩
theorem txtR_len {r : Rt} (h : RtOk r) : (txtR r).size ≤ 43 := by
  have h1 := itS_len h.1
  have h2 := itS_len h.2
  have h3 : (⟨#[47]⟩ : ByteArray).size = 1 := rfl
  have h4 : (⟨#[]⟩ : ByteArray).size = 0 := rfl
  unfold txtR
  split
  · split
    · rw [ByteArray.size_append, ByteArray.size_append]; omega
    · omega
  · omega
theorem ev_text (r : Rt) (hr : RtOk r) (h1 : ItOk r.n) (h2 : ItOk r.d) : Ev Tryz.prog 17 [ratV r] (.sc (.string (txtR r))) := by
  have hv := ev_valid r hr
  unfold ItOk at h1 h2
  unfold ratV at *
  refine ev_fn Tryz.func17 comp17 (show 1 ≤ Tryz.f17.ntmps by decide) ?_; unfold cf17 rf17; simp only [↓EVP0, EVQ0, EVQ1, EVQ2, EVQ3, EVQ4, EVA, EVK, EVFD, ↓reduceIte, Nat.reduceEqDiff, Nat.reduceAdd, Nat.reduceSub, Nat.reduceMul, Nat.reduceLT, Nat.reduceLeDiff, reduceCtorEq, Int.reduceToNat, Int.reduceLT, Int.reduceLE, Int.reduceAdd, Int.reduceSub, Int.reduceMul, Int.reduceNeg, Int.reduceEq, Nat.reduceMod, forall_eq_or_imp, forall_eq, forall_const, EVY, true_imp_iff, implies_true, Int.cast_ofNat_Int, forall_eq']
  refine callK_ro (hv) ?_ ?_
  · simp only [↓EVP0, EVQ0, EVQ1, EVQ2, EVQ3, EVQ4, EVA, EVK, EVFD, ↓reduceIte, Nat.reduceEqDiff, Nat.reduceAdd, Nat.reduceSub, Nat.reduceMul, Nat.reduceLT, Nat.reduceLeDiff, reduceCtorEq, Int.reduceToNat, Int.reduceLT, Int.reduceLE, Int.reduceAdd, Int.reduceSub, Int.reduceMul, Int.reduceNeg, Int.reduceEq, Nat.reduceMod, forall_eq_or_imp, forall_eq, forall_const, EVY, true_imp_iff, implies_true, Int.cast_ofNat_Int, forall_eq']
  simp only [↓EVP0, EVQ0, EVQ1, EVQ2, EVQ3, EVQ4, EVA, EVK, EVFD, ↓reduceIte, Nat.reduceEqDiff, Nat.reduceAdd, Nat.reduceSub, Nat.reduceMul, Nat.reduceLT, Nat.reduceLeDiff, reduceCtorEq, Int.reduceToNat, Int.reduceLT, Int.reduceLE, Int.reduceAdd, Int.reduceSub, Int.reduceMul, Int.reduceNeg, Int.reduceEq, Nat.reduceMod, forall_eq_or_imp, forall_eq, forall_const, EVY, true_imp_iff, implies_true, Int.cast_ofNat_Int, forall_eq']
  unfold txtR
  refine ⟨fun h => ?_, fun h => ?_⟩
  · rw [if_neg (by simpa using h)]
  rw [if_pos (by simpa using h)]
  refine callK_ro (h1) ?_ ?_
  · simp only [↓EVP0, EVQ0, EVQ1, EVQ2, EVQ3, EVQ4, EVA, EVK, EVFD, ↓reduceIte, Nat.reduceEqDiff, Nat.reduceAdd, Nat.reduceSub, Nat.reduceMul, Nat.reduceLT, Nat.reduceLeDiff, reduceCtorEq, Int.reduceToNat, Int.reduceLT, Int.reduceLE, Int.reduceAdd, Int.reduceSub, Int.reduceMul, Int.reduceNeg, Int.reduceEq, Nat.reduceMod, forall_eq_or_imp, forall_eq, forall_const, EVY, true_imp_iff, implies_true, Int.cast_ofNat_Int, forall_eq']
  simp only [↓EVP0, EVQ0, EVQ1, EVQ2, EVQ3, EVQ4, EVA, EVK, EVFD, ↓reduceIte, Nat.reduceEqDiff, Nat.reduceAdd, Nat.reduceSub, Nat.reduceMul, Nat.reduceLT, Nat.reduceLeDiff, reduceCtorEq, Int.reduceToNat, Int.reduceLT, Int.reduceLE, Int.reduceAdd, Int.reduceSub, Int.reduceMul, Int.reduceNeg, Int.reduceEq, Nat.reduceMod, forall_eq_or_imp, forall_eq, forall_const, EVY, true_imp_iff, implies_true, Int.cast_ofNat_Int, forall_eq']
  refine ⟨fun h => ?_, fun h => ?_⟩
  · refine callK_ro (h2) ?_ ?_
    · simp only [↓EVP0, EVQ0, EVQ1, EVQ2, EVQ3, EVQ4, EVA, EVK, EVFD, ↓reduceIte, Nat.reduceEqDiff, Nat.reduceAdd, Nat.reduceSub, Nat.reduceMul, Nat.reduceLT, Nat.reduceLeDiff, reduceCtorEq, Int.reduceToNat, Int.reduceLT, Int.reduceLE, Int.reduceAdd, Int.reduceSub, Int.reduceMul, Int.reduceNeg, Int.reduceEq, Nat.reduceMod, forall_eq_or_imp, forall_eq, forall_const, EVY, true_imp_iff, implies_true, Int.cast_ofNat_Int, forall_eq']
    simp only [↓EVP0, EVQ0, EVQ1, EVQ2, EVQ3, EVQ4, EVA, EVK, EVFD, ↓reduceIte, Nat.reduceEqDiff, Nat.reduceAdd, Nat.reduceSub, Nat.reduceMul, Nat.reduceLT, Nat.reduceLeDiff, reduceCtorEq, Int.reduceToNat, Int.reduceLT, Int.reduceLE, Int.reduceAdd, Int.reduceSub, Int.reduceMul, Int.reduceNeg, Int.reduceEq, Nat.reduceMod, forall_eq_or_imp, forall_eq, forall_const, EVY, true_imp_iff, implies_true, Int.cast_ofNat_Int, forall_eq']
    have k1 := itS_len hr.1
    have k2 := itS_len hr.2
    have k3 : (⟨#[47]⟩ : ByteArray).size = 1 := rfl
    rw [ByteArray.size_append, if_pos (by have := of_decide_eq_true h; omega)]
    exact ⟨by omega, by omega, rfl⟩
  · rw [if_neg (by have := of_decide_eq_false h; omega)]
def txtC (c : Rt) : ByteArray := (⟨#[108, 105, 110, 107, 32]⟩ ++ txtR c) ++ ⟨#[10]⟩
def txtL (l : List Int) : List UInt8 := (l.map fun x => (⟨#[32]⟩ ++ itS x : ByteArray).data.toList).flatten
def txtF (f : Fl) : List UInt8 := [102, 108, 111, 119] ++ txtL f.links ++ (if f.bnd = true then ((⟨#[32, 109, 97, 120, 32]⟩ ++ txtR f.dem : ByteArray)).data.toList else []) ++ [10]
def txtCs (l : List Rt) : List UInt8 := (l.map fun c => (txtC c).data.toList).flatten
def txtFs (l : List Fl) : List UInt8 := (l.map txtF).flatten
def fmtN (n : Nt) : ByteArray × Int := if vldN n = true then (⟨(txtCs n.caps ++ txtFs n.fls).toArray⟩, 0) else (⟨#[]⟩, 1)
theorem txtCs_succ {l : List Rt} {i : Nat} (h : i < l.length) : txtCs (l.take (i + 1)) = txtCs (l.take i) ++ (txtC (l.getD i default)).data.toList := by
  unfold txtCs
  rw [take_succ_getD default l i h, List.map_append, List.flatten_append]; simp
theorem txtFs_succ {l : List Fl} {i : Nat} (h : i < l.length) : txtFs (l.take (i + 1)) = txtFs (l.take i) ++ txtF (l.getD i default) := by
  unfold txtFs
  rw [take_succ_getD default l i h, List.map_append, List.flatten_append]; simp
theorem txtL_succ {l : List Int} {i : Nat} (h : i < l.length) : txtL (l.take (i + 1)) = txtL (l.take i) ++ (⟨#[32]⟩ ++ itS (l.getD i 0) : ByteArray).data.toList := by
  unfold txtL
  rw [take_succ_getD 0 l i h, List.map_append, List.flatten_append]; simp
theorem txtC_len {c : Rt} (h : RtOk c) : 6 ≤ (txtC c).size ∧ (txtC c).size ≤ 49 := by
  have h1 := txtR_len h
  unfold txtC
  rw [ByteArray.size_append, ByteArray.size_append]
  have e1 : (⟨#[108, 105, 110, 107, 32]⟩ : ByteArray).size = 5 := rfl
  have e2 : (⟨#[10]⟩ : ByteArray).size = 1 := rfl
  omega
theorem ba_len (a : ByteArray) : a.data.toList.length = a.size := Array.length_toList
theorem flat_le {α : Type} {g : α → List UInt8} {b : Nat} {l : List α} (h : ∀ x, x ∈ l → (g x).length ≤ b) : (l.map g).flatten.length ≤ l.length * b := by
  induction l with
  | nil => simp
  | cons x r ih =>
    have := ih fun y hy => h y (by simp [hy])
    have h2 := h x (by simp)
    rw [List.map_cons, List.flatten_cons, List.length_append, List.length_cons, Nat.succ_mul]
    omega
theorem links_len {n : Nt} (hV : VldN n) {f : Fl} (hf : f ∈ n.fls) : f.links.length ≤ 32 := by
  have h1 := hV.once f hf
  have h2 := hV.link f hf
  have h3 : (f.links.map Int.toNat).Nodup := by
    rw [List.nodup_iff_pairwise_ne, List.pairwise_map]
    refine (List.nodup_iff_pairwise_ne.1 h1).imp_of_mem fun {a b} ha hb hab e => hab ?_
    have := h2 a ha
    have := h2 b hb
    omega
  have h4 := sub_len (f.links.map Int.toNat) (List.range n.caps.length) h3 fun x hx => by
    obtain ⟨y, hy, rfl⟩ := List.mem_map.1 hx
    have := h2 y hy
    exact List.mem_range.2 (by omega)
  have := hV.nc
  rw [List.length_map, List.length_range] at h4
  omega
theorem txtL_len {l : List Int} (h : ∀ x, x ∈ l → In64 x) : (txtL l).length ≤ l.length * 22 := by
  refine flat_le fun x hx => ?_
  rw [ba_len, ByteArray.size_append]
  have := itS_len (h x hx)
  have e2 : (⟨#[32]⟩ : ByteArray).size = 1 := rfl
  omega
theorem txtF_len {f : Fl} (hl : ∀ x, x ∈ f.links → In64 x) (hd : RtOk f.dem) (h32 : f.links.length ≤ 32) : (txtF f).length ≤ 757 := by
  have h1 := txtL_len hl
  have h2 := txtR_len hd
  have e2 : (⟨#[32, 109, 97, 120, 32]⟩ : ByteArray).size = 5 := rfl
  unfold txtF
  split
  · rw [List.length_append, List.length_append, List.length_append, ba_len, ByteArray.size_append]
    simp only [List.length_cons, List.length_nil]; omega
  · simp only [List.length_append, List.length_cons, List.length_nil]; omega
theorem txtCs_len {l : List Rt} (h : ∀ x, x ∈ l → RtOk x) : (txtCs l).length ≤ l.length * 49 := flat_le fun x hx => by rw [ba_len]; exact (txtC_len (h x hx)).2
theorem sI_u8 (s : ByteArray) : strI s = u8I s.data.toList := rfl
theorem uI_app (a b : List UInt8) : u8I (a ++ b) = u8I a ++ u8I b := by simp [u8I]
theorem uI_len (a : List UInt8) : (u8I a).length = a.length := by simp [u8I]
theorem ws_row {h : LH} {kb vb kr vr : Nat} {l : List UInt8} (hkb : kb < h.n) (hb : h.f kb = (vb, .tbox 53 [.ptr kb vb 0 0 0, .sl kr vr 1 0 l.length])) (hkr : kr < h.n) (hr : h.f kr = (vr, .byt 5 (u8I l))) (hne : kr ≠ kb)
    (s : ByteArray) (hs : 0 < s.size) (hroom : l.length + s.size ≤ 1000000) :
    LCall Tryz.prog 16 [.ptr kb vb 0 0 0, .sc (.string s)] h (.tup [.sc (.int .i64 s.size), .sc .nilIface]) (bldS h kb vb kr (vr + 1) (u8I (l ++ s.data.toList))) := by
  rw [uI_app, ← sI_u8]
  exact lc_ws_row hkb (by rw [uI_len]; exact hb) hkr hr hne s hs (by rw [uI_len]; exact hroom)
structure NtIt (n : Nt) : Prop where
  cap : ∀ c, c ∈ n.caps → ItOk c.n ∧ ItOk c.d
  lnk : ∀ f, f ∈ n.fls → ∀ x, x ∈ f.links → ItOk x
  dem : ∀ f, f ∈ n.fls → ItOk f.dem.n ∧ ItOk f.dem.d
def tA (n : Nt) (j : Nat) : List UInt8 := txtCs n.caps ++ txtFs (n.fls.take j)
def tB (n : Nt) (j : Nat) (f : Fl) (k : Nat) : List UInt8 := tA n j ++ (⟨#[102, 108, 111, 119]⟩ : ByteArray).data.toList ++ txtL (f.links.take k)
theorem tA_zero (n : Nt) : tA n 0 = txtCs n.caps := by simp [tA, txtFs]
theorem tB_zero (n : Nt) (j : Nat) (f : Fl) : tB n j f 0 = tA n j ++ (⟨#[102, 108, 111, 119]⟩ : ByteArray).data.toList := by simp [tB, txtL]
theorem tB_succ (n : Nt) (j : Nat) (f : Fl) {k : Nat} (h : k < f.links.length) : tB n j f (k + 1) = tB n j f k ++ (⟨#[32]⟩ ++ itS (f.links.getD k 0) : ByteArray).data.toList := by
  unfold tB
  rw [txtL_succ h, List.append_assoc (tA n j ++ _)]
theorem tA_one {n : Nt} {j : Nat} (h : j < n.fls.length) (hb : (n.fls.getD j default).bnd = true) : tA n (j + 1) = tB n j (n.fls.getD j default) (n.fls.getD j default).links.length ++ (⟨#[32, 109, 97, 120, 32]⟩ ++ txtR (n.fls.getD j default).dem : ByteArray).data.toList ++ (⟨#[10]⟩ : ByteArray).data.toList := by
  unfold tB tA
  rw [txtFs_succ h, List.take_length]
  unfold txtF
  rw [if_pos hb]
  simp only [List.append_assoc]
theorem tA_two {n : Nt} {j : Nat} (h : j < n.fls.length) (hb : (n.fls.getD j default).bnd = false) : tA n (j + 1) = tB n j (n.fls.getD j default) (n.fls.getD j default).links.length ++ (⟨#[10]⟩ : ByteArray).data.toList := by
  unfold tB tA
  rw [txtFs_succ h, List.take_length]
  unfold txtF
  rw [if_neg (by rw [hb]; exact Bool.false_ne_true)]
  simp only [List.append_assoc, List.nil_append]
def tC (n : Nt) (j : Nat) (f : Fl) : List UInt8 := tB n j f f.links.length ++ (⟨#[32, 109, 97, 120, 32]⟩ ++ txtR f.dem : ByteArray).data.toList
theorem tA_one' (n : Nt) (j : Nat) (f : Fl) : tC n j f = tB n j f f.links.length ++ (⟨#[32, 109, 97, 120, 32]⟩ ++ txtR f.dem : ByteArray).data.toList := rfl
theorem tA_len {n : Nt} (hn : NtOk n) (hV : VldN n) (j : Nat) : (tA n j).length ≤ 30000 := by
  have h1 := txtCs_len (l := n.caps) hn.caps
  have h5 : (txtFs (n.fls.take j)).length ≤ (n.fls.take j).length * 757 := flat_le fun x hx => by
    have hx := List.mem_of_mem_take hx
    exact txtF_len (hn.links x hx) (hn.dem x hx) (links_len hV hx)
  rw [List.length_take] at h5
  have := hV.nc
  have := hV.nf
  have := Nat.mul_le_mul_right 757 (show min j n.fls.length ≤ 32 by omega)
  have := Nat.mul_le_mul_right 49 hV.nc
  unfold tA
  rw [List.length_append]
  omega
theorem tB_len {n : Nt} (hn : NtOk n) (hV : VldN n) (j : Nat) {f : Fl} (hlk : ∀ x, x ∈ f.links → In64 x) (hl : f.links.length ≤ 32) (k : Nat) : (tB n j f k).length ≤ 31000 := by
  have h1 := tA_len hn hV j
  have h5 := txtL_len (l := f.links.take k) fun x hx => hlk x (List.mem_of_mem_take hx)
  rw [List.length_take] at h5
  have := Nat.mul_le_mul_right 22 (show min k f.links.length ≤ 32 by omega)
  unfold tB
  rw [List.length_append, List.length_append, show (⟨#[102, 108, 111, 119]⟩ : ByteArray).data.toList.length = 4 from rfl]
  omega
theorem ev_format33 (n : Nt) (hn : NtOk n) (hI : NtIt n) : Ev Tryz.prog 7 [netV n] (.tup [.sc (.string (fmtN n).1), .sc (.int .i64 (fmtN n).2)]) := by
  have h1 := ev_validN n hn
  unfold netV at *
  refine ev_fn Tryz.func7 comp7 (show 1 ≤ Tryz.f7.ntmps by decide) ?_; unfold cf7 rf7; simp only [↓EVP0, EVQ0, EVQ1, EVQ2, EVQ3, EVQ4, EVA, EVK, EVFD, ↓reduceIte, Nat.reduceEqDiff, Nat.reduceAdd, Nat.reduceSub, Nat.reduceMul, Nat.reduceLT, Nat.reduceLeDiff, reduceCtorEq, Int.reduceToNat, Int.reduceLT, Int.reduceLE, Int.reduceAdd, Int.reduceSub, Int.reduceMul, Int.reduceNeg, Int.reduceEq, Nat.reduceMod, forall_eq_or_imp, forall_eq, forall_const, EVY, true_imp_iff, implies_true, Int.cast_ofNat_Int, forall_eq']
  refine callK_ro (h1) ?_ ?_
  · simp only [↓EVP0, EVQ0, EVQ1, EVQ2, EVQ3, EVQ4, EVA, EVK, EVFD, ↓reduceIte, Nat.reduceEqDiff, Nat.reduceAdd, Nat.reduceSub, Nat.reduceMul, Nat.reduceLT, Nat.reduceLeDiff, reduceCtorEq, Int.reduceToNat, Int.reduceLT, Int.reduceLE, Int.reduceAdd, Int.reduceSub, Int.reduceMul, Int.reduceNeg, Int.reduceEq, Nat.reduceMod, forall_eq_or_imp, forall_eq, forall_const, EVY, true_imp_iff, implies_true, Int.cast_ofNat_Int, forall_eq']
  simp only [↓EVP0, EVQ0, EVQ1, EVQ2, EVQ3, EVQ4, EVA, EVK, EVFD, ↓reduceIte, Nat.reduceEqDiff, Nat.reduceAdd, Nat.reduceSub, Nat.reduceMul, Nat.reduceLT, Nat.reduceLeDiff, reduceCtorEq, Int.reduceToNat, Int.reduceLT, Int.reduceLE, Int.reduceAdd, Int.reduceSub, Int.reduceMul, Int.reduceNeg, Int.reduceEq, Nat.reduceMod, forall_eq_or_imp, forall_eq, forall_const, EVY, true_imp_iff, implies_true, Int.cast_ofNat_Int, forall_eq']
  refine ⟨fun hg => ?_, fun hg => ?_⟩
  · have e : fmtN n = (⟨#[]⟩, 1) := by unfold fmtN; rw [if_neg (by simpa using hg)]
    rw [e]; exact ⟨rfl, rfl⟩
  have hv : vldN n = true := by simpa using hg
  have hV := vldN_of hv
  have hc32 := hV.nc
  have hf32 := hV.nf
  have hfm : fmtN n = (⟨(txtCs n.caps ++ txtFs n.fls).toArray⟩, 0) := by unfold fmtN; rw [if_pos hv]
  rw [hfm]
  intro _
  refine lwp_for (α := Nat) n.caps.length (fun i _ => True) (fun i _ => [(1, .ptr 0 0 0 0 0), (4, .ptr 1 0 0 0 0), (15, .rsl 2 n.caps.length (rtsF n.caps)), (16, .sc (.int .i64 n.caps.length)), (17, .sc (.int .i64 i))])
    (fun i v => if i = 0 then [(0, .box [.rsl 2 n.caps.length (rtsF n.caps), .rsl 4 n.fls.length (flsF n.fls)]), (0, .tbox 53 [.sc (.pointer none), .nsl])]
      else [(0, .box [.rsl 2 n.caps.length (rtsF n.caps), .rsl 4 n.fls.length (flsF n.fls)]), (0, .tbox 53 [.ptr 1 0 0 0 0, .sl 3 v 1 0 (txtCs (n.caps.take i)).length]), (0, .box [.sc (.int .i64 (n.caps.getD 0 default).n), .sc (.int .i64 (n.caps.getD 0 default).d)]), (v, .byt 5 (u8I (txtCs (n.caps.take i))))]) 0 trivial ?_ (fun _ _ => Nat.zero_le _) ?_
  · rw [if_pos rfl]
    simp only [↓EVP0, EVQ0, EVQ1, EVQ2, EVQ3, EVQ4, EVA, EVK, EVFD, ↓reduceIte, Nat.reduceEqDiff, Nat.reduceAdd, Nat.reduceSub, Nat.reduceMul, Nat.reduceLT, Nat.reduceLeDiff, reduceCtorEq, Int.reduceToNat, Int.reduceLT, Int.reduceLE, Int.reduceAdd, Int.reduceSub, Int.reduceMul, Int.reduceNeg, Int.reduceEq, Nat.reduceMod, forall_eq_or_imp, forall_eq, forall_const, EVY, true_imp_iff, implies_true, Int.cast_ofNat_Int, forall_eq']
  intro i v hi _
  cases i with
  | zero =>
    rw [if_pos rfl]
    unfold lb7_2
    simp only [↓EVP0, EVQ0, EVQ1, EVQ2, EVQ3, EVQ4, EVA, EVK, EVFD, ↓reduceIte, Nat.reduceEqDiff, Nat.reduceAdd, Nat.reduceSub, Nat.reduceMul, Nat.reduceLT, Nat.reduceLeDiff, reduceCtorEq, Int.reduceToNat, Int.reduceLT, Int.reduceLE, Int.reduceAdd, Int.reduceSub, Int.reduceMul, Int.reduceNeg, Int.reduceEq, Nat.reduceMod, forall_eq_or_imp, forall_eq, forall_const, EVY, true_imp_iff, implies_true, Int.cast_ofNat_Int, forall_eq']
    refine ⟨fun hg => ?_, fun hg => ?_⟩
    · have hi2 : 0 < n.caps.length := by have := of_decide_eq_true hg; omega
      have hm : n.caps.getD 0 default ∈ n.caps := getD_mem default hi2
      have ht := ev_text _ (hn.caps _ hm) (hI.cap _ hm).1 (hI.cap _ hm).2
      have hcs := txtCs_succ (l := n.caps) hi2
      have hcl := txtC_len (hn.caps _ hm)
      unfold ratV at ht
      refine ⟨by omega, ?_⟩
      refine callK_ro (ht) ?_ ?_
      · simp only [↓EVP0, EVQ0, EVQ1, EVQ2, EVQ3, EVQ4, EVA, EVK, EVFD, ↓reduceIte, Nat.reduceEqDiff, Nat.reduceAdd, Nat.reduceSub, Nat.reduceMul, Nat.reduceLT, Nat.reduceLeDiff, reduceCtorEq, Int.reduceToNat, Int.reduceLT, Int.reduceLE, Int.reduceAdd, Int.reduceSub, Int.reduceMul, Int.reduceNeg, Int.reduceEq, Nat.reduceMod, forall_eq_or_imp, forall_eq, forall_const, EVY, true_imp_iff, implies_true, Int.cast_ofNat_Int, forall_eq']
      simp only [↓EVP0, EVQ0, EVQ1, EVQ2, EVQ3, EVQ4, EVA, EVK, EVFD, ↓reduceIte, Nat.reduceEqDiff, Nat.reduceAdd, Nat.reduceSub, Nat.reduceMul, Nat.reduceLT, Nat.reduceLeDiff, reduceCtorEq, Int.reduceToNat, Int.reduceLT, Int.reduceLE, Int.reduceAdd, Int.reduceSub, Int.reduceMul, Int.reduceNeg, Int.reduceEq, Nat.reduceMod, forall_eq_or_imp, forall_eq, forall_const, EVY, true_imp_iff, implies_true, Int.cast_ofNat_Int, forall_eq']
      have e1 : (⟨#[108, 105, 110, 107, 32]⟩ : ByteArray).size = 5 := rfl
      have e2 : (⟨#[10]⟩ : ByteArray).size = 1 := rfl
      have hrl := txtR_len (hn.caps _ hm)
      refine ⟨by omega, by rw [ByteArray.size_append]; omega, callK_mut (lc_ws_new (h := mkH _) (kb := 1) (vb := 0) (by simp [mkH]) rfl (txtC (n.caps.getD 0 default)) (by omega) (by omega)) ?_⟩
      unfold bldN
      simp only [↓EVP0, EVQ0, EVQ1, EVQ2, EVQ3, EVQ4, EVA, EVK, EVFD, ↓reduceIte, Nat.reduceEqDiff, Nat.reduceAdd, Nat.reduceSub, Nat.reduceMul, Nat.reduceLT, Nat.reduceLeDiff, reduceCtorEq, Int.reduceToNat, Int.reduceLT, Int.reduceLE, Int.reduceAdd, Int.reduceSub, Int.reduceMul, Int.reduceNeg, Int.reduceEq, Nat.reduceMod, forall_eq_or_imp, forall_eq, forall_const, EVY, true_imp_iff, implies_true, Int.cast_ofNat_Int, forall_eq']
      have hz : txtCs (n.caps.take 1) = (txtC (n.caps.getD 0 default)).data.toList := by rw [hcs]; simp [txtCs]
      rw [hz, sI_u8, uI_len]
      exact ⟨by unfold In64; omega, hi2, 0, rfl, rfl, rfl⟩
    · have hc0 : n.caps = [] := List.length_eq_zero_iff.1 (by have := of_decide_eq_false hg; omega)
      have hf0 : n.fls = [] := by
        cases hfs : n.fls with
        | nil => rfl
        | cons f r =>
          have hmf : f ∈ n.fls := by rw [hfs]; simp
          have := hV.len f hmf
          obtain ⟨x, hx⟩ := List.exists_mem_of_length_pos (show 0 < f.links.length by omega)
          have := hV.link f hmf x hx
          rw [hc0] at this
          simp at this; omega
      intro _
      rw [hc0, hf0]
      refine lwp_for (α := Unit) 0 (fun _ _ => True) (fun _ _ => [(4, .ptr 1 0 0 0 0), (29, .sc (.int .i64 0)), (30, .sc (.int .i64 0))]) (fun _ _ => [(0, .box [.rsl 2 ([] : List Rt).length (rtsF []), .rsl 4 ([] : List Fl).length (flsF [])]), (0, .tbox 53 [.sc (.pointer none), .nsl])]) () trivial ?_ (fun _ _ => Nat.zero_le _) ?_
      · simp only [↓EVP0, EVQ0, EVQ1, EVQ2, EVQ3, EVQ4, EVA, EVK, EVFD, ↓reduceIte, Nat.reduceEqDiff, Nat.reduceAdd, Nat.reduceSub, Nat.reduceMul, Nat.reduceLT, Nat.reduceLeDiff, reduceCtorEq, Int.reduceToNat, Int.reduceLT, Int.reduceLE, Int.reduceAdd, Int.reduceSub, Int.reduceMul, Int.reduceNeg, Int.reduceEq, Nat.reduceMod, forall_eq_or_imp, forall_eq, forall_const, EVY, true_imp_iff, implies_true, Int.cast_ofNat_Int, forall_eq']
      intro i _ hi _
      unfold lb7_1
      simp only [↓EVP0, EVQ0, EVQ1, EVQ2, EVQ3, EVQ4, EVA, EVK, EVFD, ↓reduceIte, Nat.reduceEqDiff, Nat.reduceAdd, Nat.reduceSub, Nat.reduceMul, Nat.reduceLT, Nat.reduceLeDiff, reduceCtorEq, Int.reduceToNat, Int.reduceLT, Int.reduceLE, Int.reduceAdd, Int.reduceSub, Int.reduceMul, Int.reduceNeg, Int.reduceEq, Nat.reduceMod, forall_eq_or_imp, forall_eq, forall_const, EVY, true_imp_iff, implies_true, Int.cast_ofNat_Int, forall_eq']
      refine callK_mut (lc_str_nil (h := mkH _) (kb := 1) (vb := 0) (by simp [mkH]) rfl) ?_
      simp only [↓EVP0, EVQ0, EVQ1, EVQ2, EVQ3, EVQ4, EVA, EVK, EVFD, ↓reduceIte, Nat.reduceEqDiff, Nat.reduceAdd, Nat.reduceSub, Nat.reduceMul, Nat.reduceLT, Nat.reduceLeDiff, reduceCtorEq, Int.reduceToNat, Int.reduceLT, Int.reduceLE, Int.reduceAdd, Int.reduceSub, Int.reduceMul, Int.reduceNeg, Int.reduceEq, Nat.reduceMod, forall_eq_or_imp, forall_eq, forall_const, EVY, true_imp_iff, implies_true, Int.cast_ofNat_Int, forall_eq']
      rfl
  | succ i =>
    rw [if_neg (by omega)]
    unfold lb7_2
    simp only [↓EVP0, EVQ0, EVQ1, EVQ2, EVQ3, EVQ4, EVA, EVK, EVFD, ↓reduceIte, Nat.reduceEqDiff, Nat.reduceAdd, Nat.reduceSub, Nat.reduceMul, Nat.reduceLT, Nat.reduceLeDiff, reduceCtorEq, Int.reduceToNat, Int.reduceLT, Int.reduceLE, Int.reduceAdd, Int.reduceSub, Int.reduceMul, Int.reduceNeg, Int.reduceEq, Nat.reduceMod, forall_eq_or_imp, forall_eq, forall_const, EVY, true_imp_iff, implies_true, Int.cast_ofNat_Int, forall_eq']
    have ecast : ((i : Int) + 1).toNat = i + 1 := by omega
    rw [ecast]
    refine ⟨fun hg => ?_, fun hg => ?_⟩
    · have hi2 : i + 1 < n.caps.length := by have := of_decide_eq_true hg; omega
      have hm : n.caps.getD (i + 1) default ∈ n.caps := getD_mem default hi2
      have ht := ev_text _ (hn.caps _ hm) (hI.cap _ hm).1 (hI.cap _ hm).2
      have hcs := txtCs_succ (l := n.caps) hi2
      have hcl := txtC_len (hn.caps _ hm)
      have htl := txtCs_len (l := n.caps.take (i + 1)) fun x hx => hn.caps x (List.mem_of_mem_take hx)
      rw [List.length_take, Nat.min_eq_left (by omega)] at htl
      unfold ratV at ht
      refine ⟨⟨by omega, by omega⟩, ?_⟩
      refine callK_ro (ht) ?_ ?_
      · simp only [↓EVP0, EVQ0, EVQ1, EVQ2, EVQ3, EVQ4, EVA, EVK, EVFD, ↓reduceIte, Nat.reduceEqDiff, Nat.reduceAdd, Nat.reduceSub, Nat.reduceMul, Nat.reduceLT, Nat.reduceLeDiff, reduceCtorEq, Int.reduceToNat, Int.reduceLT, Int.reduceLE, Int.reduceAdd, Int.reduceSub, Int.reduceMul, Int.reduceNeg, Int.reduceEq, Nat.reduceMod, forall_eq_or_imp, forall_eq, forall_const, EVY, true_imp_iff, implies_true, Int.cast_ofNat_Int, forall_eq']
      simp only [↓EVP0, EVQ0, EVQ1, EVQ2, EVQ3, EVQ4, EVA, EVK, EVFD, ↓reduceIte, Nat.reduceEqDiff, Nat.reduceAdd, Nat.reduceSub, Nat.reduceMul, Nat.reduceLT, Nat.reduceLeDiff, reduceCtorEq, Int.reduceToNat, Int.reduceLT, Int.reduceLE, Int.reduceAdd, Int.reduceSub, Int.reduceMul, Int.reduceNeg, Int.reduceEq, Nat.reduceMod, forall_eq_or_imp, forall_eq, forall_const, EVY, true_imp_iff, implies_true, Int.cast_ofNat_Int, forall_eq']
      have e1 : (⟨#[108, 105, 110, 107, 32]⟩ : ByteArray).size = 5 := rfl
      have e2 : (⟨#[10]⟩ : ByteArray).size = 1 := rfl
      have hrl := txtR_len (hn.caps _ hm)
      refine ⟨by omega, by rw [ByteArray.size_append]; omega, callK_mut (ws_row (h := mkH _) (kb := 1) (vb := 0) (kr := 3) (vr := v) (l := txtCs (n.caps.take (i + 1))) (by simp [mkH]) rfl (by simp [mkH]) rfl (by omega) (txtC (n.caps.getD (i + 1) default)) (by omega) (by omega)) ?_⟩
      unfold bldS
      simp only [↓EVP0, EVQ0, EVQ1, EVQ2, EVQ3, EVQ4, EVA, EVK, EVFD, ↓reduceIte, Nat.reduceEqDiff, Nat.reduceAdd, Nat.reduceSub, Nat.reduceMul, Nat.reduceLT, Nat.reduceLeDiff, reduceCtorEq, Int.reduceToNat, Int.reduceLT, Int.reduceLE, Int.reduceAdd, Int.reduceSub, Int.reduceMul, Int.reduceNeg, Int.reduceEq, Nat.reduceMod, forall_eq_or_imp, forall_eq, forall_const, EVY, true_imp_iff, implies_true, Int.cast_ofNat_Int, forall_eq']
      rw [← hcs, uI_len]
      exact ⟨by unfold In64; omega, hi2, v + 1, rfl, rfl, rfl⟩
    · have hi2 : i + 1 = n.caps.length := by have := of_decide_eq_false hg; omega
      intro hf1
      have htl := txtCs_len (l := n.caps) hn.caps
      rw [hi2, List.take_length]
      refine lwp_for (α := Nat) n.fls.length (fun j _ => True) (fun j _ => [(4, .ptr 1 0 0 0 0), (28, .rsl 4 n.fls.length (flsF n.fls)), (29, .sc (.int .i64 n.fls.length)), (30, .sc (.int .i64 j))])
        (fun j v => [(0, .box [.rsl 2 n.caps.length (rtsF n.caps), .rsl 4 n.fls.length (flsF n.fls)]), (0, .tbox 53 [.ptr 1 0 0 0 0, .sl 3 v 1 0 (tA n j).length]), (0, .box [.sc (.int .i64 (n.caps.getD 0 default).n), .sc (.int .i64 (n.caps.getD 0 default).d)]), (v, .byt 5 (u8I (tA n j)))]) v trivial ?_ (fun _ _ => Nat.zero_le _) ?_
      · simp only [↓EVP0, EVQ0, EVQ1, EVQ2, EVQ3, EVQ4, EVA, EVK, EVFD, ↓reduceIte, Nat.reduceEqDiff, Nat.reduceAdd, Nat.reduceSub, Nat.reduceMul, Nat.reduceLT, Nat.reduceLeDiff, reduceCtorEq, Int.reduceToNat, Int.reduceLT, Int.reduceLE, Int.reduceAdd, Int.reduceSub, Int.reduceMul, Int.reduceNeg, Int.reduceEq, Nat.reduceMod, forall_eq_or_imp, forall_eq, forall_const, EVY, true_imp_iff, implies_true, Int.cast_ofNat_Int, forall_eq']
        rw [tA_zero]
        exact ⟨rfl, rfl⟩
      intro j v hj _
      have hal := tA_len hn hV j
      unfold lb7_1
      simp only [↓EVP0, EVQ0, EVQ1, EVQ2, EVQ3, EVQ4, EVA, EVK, EVFD, ↓reduceIte, Nat.reduceEqDiff, Nat.reduceAdd, Nat.reduceSub, Nat.reduceMul, Nat.reduceLT, Nat.reduceLeDiff, reduceCtorEq, Int.reduceToNat, Int.reduceLT, Int.reduceLE, Int.reduceAdd, Int.reduceSub, Int.reduceMul, Int.reduceNeg, Int.reduceEq, Nat.reduceMod, forall_eq_or_imp, forall_eq, forall_const, EVY, true_imp_iff, implies_true, Int.cast_ofNat_Int, forall_eq']
      refine ⟨fun hg => ?_, fun hg => ?_⟩
      · have hj2 : j < n.fls.length := by have := of_decide_eq_true hg; omega
        have hm : n.fls.getD j default ∈ n.fls := getD_mem default hj2
        have ha1 := tA_one hj2
        have ha2 := tA_two hj2
        have hl32 := links_len hV hm
        have hlk := hn.links _ hm
        have hdm := hn.dem _ hm
        have hIl := hI.lnk _ hm
        have hId := hI.dem _ hm
        have htx := ev_text _ hdm hId.1 hId.2
        have htl2 := txtR_len hdm
        have hbl := fun k => tB_len hn hV j hlk hl32 k
        unfold ratV at htx
        generalize n.fls.getD j default = f at *
        refine ⟨⟨by omega, by omega⟩, callK_mut (ws_row (h := mkH _) (kb := 1) (vb := 0) (kr := 3) (vr := v) (l := tA n j) (by simp [mkH]) rfl (by simp [mkH]) rfl (by omega) ⟨#[102, 108, 111, 119]⟩ (by decide) (by show _ + 4 ≤ _; omega)) ?_⟩
        unfold bldS
        simp only [↓EVP0, EVQ0, EVQ1, EVQ2, EVQ3, EVQ4, EVA, EVK, EVFD, ↓reduceIte, Nat.reduceEqDiff, Nat.reduceAdd, Nat.reduceSub, Nat.reduceMul, Nat.reduceLT, Nat.reduceLeDiff, reduceCtorEq, Int.reduceToNat, Int.reduceLT, Int.reduceLE, Int.reduceAdd, Int.reduceSub, Int.reduceMul, Int.reduceNeg, Int.reduceEq, Nat.reduceMod, forall_eq_or_imp, forall_eq, forall_const, EVY, true_imp_iff, implies_true, Int.cast_ofNat_Int, forall_eq']
        intro hll
        refine lwp_for (α := Nat) f.links.length (fun k _ => True) (fun k _ => [(4, .ptr 1 0 0 0 0), (8, .ptr 4 0 0 0 0), (28, .rsl 4 n.fls.length (flsF n.fls)), (29, .sc (.int .i64 n.fls.length)), (30, .sc (.int .i64 j)), (36, .rsl 1 f.links.length (intsF f.links)), (37, .sc (.int .i64 f.links.length)), (38, .sc (.int .i64 k))])
          (fun k v => [(0, .box [.rsl 2 n.caps.length (rtsF n.caps), .rsl 4 n.fls.length (flsF n.fls)]), (0, .tbox 53 [.ptr 1 0 0 0 0, .sl 3 v 1 0 (tB n j f k).length]), (0, .box [.sc (.int .i64 (n.caps.getD 0 default).n), .sc (.int .i64 (n.caps.getD 0 default).d)]), (v, .byt 5 (u8I (tB n j f k))), (0, .box [.rsl 1 f.links.length (intsF f.links), .sc (.bool f.bnd), .sc (.int .i64 f.dem.n), .sc (.int .i64 f.dem.d)])]) (v + 1) trivial ?_ (fun _ _ => Nat.zero_le _) ?_
        · simp only [↓EVP0, EVQ0, EVQ1, EVQ2, EVQ3, EVQ4, EVA, EVK, EVFD, ↓reduceIte, Nat.reduceEqDiff, Nat.reduceAdd, Nat.reduceSub, Nat.reduceMul, Nat.reduceLT, Nat.reduceLeDiff, reduceCtorEq, Int.reduceToNat, Int.reduceLT, Int.reduceLE, Int.reduceAdd, Int.reduceSub, Int.reduceMul, Int.reduceNeg, Int.reduceEq, Nat.reduceMod, forall_eq_or_imp, forall_eq, forall_const, EVY, true_imp_iff, implies_true, Int.cast_ofNat_Int, forall_eq']
          rw [← tB_zero n j f, uI_len]
          exact ⟨rfl, rfl⟩
        intro k v hk _
        have hbk := hbl k
        unfold lb7_0
        simp only [↓EVP0, EVQ0, EVQ1, EVQ2, EVQ3, EVQ4, EVA, EVK, EVFD, ↓reduceIte, Nat.reduceEqDiff, Nat.reduceAdd, Nat.reduceSub, Nat.reduceMul, Nat.reduceLT, Nat.reduceLeDiff, reduceCtorEq, Int.reduceToNat, Int.reduceLT, Int.reduceLE, Int.reduceAdd, Int.reduceSub, Int.reduceMul, Int.reduceNeg, Int.reduceEq, Nat.reduceMod, forall_eq_or_imp, forall_eq, forall_const, EVY, true_imp_iff, implies_true, Int.cast_ofNat_Int, forall_eq']
        refine ⟨fun hg => ?_, fun hg => ?_⟩
        · have hk2 : k < f.links.length := by have := of_decide_eq_true hg; omega
          have hls := tB_succ n j f hk2
          have hit := hIl _ (getD_mem 0 hk2)
          have hil := itS_len (hlk _ (getD_mem 0 hk2))
          have e1 : (⟨#[32]⟩ : ByteArray).size = 1 := rfl
          unfold ItOk at hit
          refine ⟨⟨by omega, by omega⟩, ?_⟩
          refine callK_ro (hit) ?_ ?_
          · simp only [↓EVP0, EVQ0, EVQ1, EVQ2, EVQ3, EVQ4, EVA, EVK, EVFD, ↓reduceIte, Nat.reduceEqDiff, Nat.reduceAdd, Nat.reduceSub, Nat.reduceMul, Nat.reduceLT, Nat.reduceLeDiff, reduceCtorEq, Int.reduceToNat, Int.reduceLT, Int.reduceLE, Int.reduceAdd, Int.reduceSub, Int.reduceMul, Int.reduceNeg, Int.reduceEq, Nat.reduceMod, forall_eq_or_imp, forall_eq, forall_const, EVY, true_imp_iff, implies_true, Int.cast_ofNat_Int, forall_eq']
          simp only [↓EVP0, EVQ0, EVQ1, EVQ2, EVQ3, EVQ4, EVA, EVK, EVFD, ↓reduceIte, Nat.reduceEqDiff, Nat.reduceAdd, Nat.reduceSub, Nat.reduceMul, Nat.reduceLT, Nat.reduceLeDiff, reduceCtorEq, Int.reduceToNat, Int.reduceLT, Int.reduceLE, Int.reduceAdd, Int.reduceSub, Int.reduceMul, Int.reduceNeg, Int.reduceEq, Nat.reduceMod, forall_eq_or_imp, forall_eq, forall_const, EVY, true_imp_iff, implies_true, Int.cast_ofNat_Int, forall_eq']
          refine ⟨by omega, callK_mut (ws_row (h := mkH _) (kb := 1) (vb := 0) (kr := 3) (vr := v) (l := tB n j f k) (by simp [mkH]) rfl (by simp [mkH]) rfl (by omega) (⟨#[32]⟩ ++ itS (f.links.getD k 0)) (by rw [ByteArray.size_append]; omega) (by rw [ByteArray.size_append]; omega)) ?_⟩
          unfold bldS
          simp only [↓EVP0, EVQ0, EVQ1, EVQ2, EVQ3, EVQ4, EVA, EVK, EVFD, ↓reduceIte, Nat.reduceEqDiff, Nat.reduceAdd, Nat.reduceSub, Nat.reduceMul, Nat.reduceLT, Nat.reduceLeDiff, reduceCtorEq, Int.reduceToNat, Int.reduceLT, Int.reduceLE, Int.reduceAdd, Int.reduceSub, Int.reduceMul, Int.reduceNeg, Int.reduceEq, Nat.reduceMod, forall_eq_or_imp, forall_eq, forall_const, EVY, true_imp_iff, implies_true, Int.cast_ofNat_Int, forall_eq']
          rw [← hls, uI_len]
          exact ⟨by unfold In64; omega, hk2, v + 1, rfl, rfl, rfl⟩
        · have hk2 : k = f.links.length := by have := of_decide_eq_false hg; omega
          subst hk2
          refine ⟨fun hb => ?_, fun hb => ?_⟩
          · refine callK_ro (htx) ?_ ?_
            · simp only [↓EVP0, EVQ0, EVQ1, EVQ2, EVQ3, EVQ4, EVA, EVK, EVFD, ↓reduceIte, Nat.reduceEqDiff, Nat.reduceAdd, Nat.reduceSub, Nat.reduceMul, Nat.reduceLT, Nat.reduceLeDiff, reduceCtorEq, Int.reduceToNat, Int.reduceLT, Int.reduceLE, Int.reduceAdd, Int.reduceSub, Int.reduceMul, Int.reduceNeg, Int.reduceEq, Nat.reduceMod, forall_eq_or_imp, forall_eq, forall_const, EVY, true_imp_iff, implies_true, Int.cast_ofNat_Int, forall_eq']
            simp only [↓EVP0, EVQ0, EVQ1, EVQ2, EVQ3, EVQ4, EVA, EVK, EVFD, ↓reduceIte, Nat.reduceEqDiff, Nat.reduceAdd, Nat.reduceSub, Nat.reduceMul, Nat.reduceLT, Nat.reduceLeDiff, reduceCtorEq, Int.reduceToNat, Int.reduceLT, Int.reduceLE, Int.reduceAdd, Int.reduceSub, Int.reduceMul, Int.reduceNeg, Int.reduceEq, Nat.reduceMod, forall_eq_or_imp, forall_eq, forall_const, EVY, true_imp_iff, implies_true, Int.cast_ofNat_Int, forall_eq']
            have e5 : (⟨#[32, 109, 97, 120, 32]⟩ : ByteArray).size = 5 := rfl
            have hb2 := tA_one' n j f
            refine ⟨by omega, callK_mut (ws_row (h := mkH _) (kb := 1) (vb := 0) (kr := 3) (vr := v) (l := tB n j f f.links.length) (by simp [mkH]) rfl (by simp [mkH]) rfl (by omega) (⟨#[32, 109, 97, 120, 32]⟩ ++ txtR f.dem) (by rw [ByteArray.size_append]; omega) (by rw [ByteArray.size_append]; omega)) ?_⟩
            unfold bldS
            simp only [↓EVP0, EVQ0, EVQ1, EVQ2, EVQ3, EVQ4, EVA, EVK, EVFD, ↓reduceIte, Nat.reduceEqDiff, Nat.reduceAdd, Nat.reduceSub, Nat.reduceMul, Nat.reduceLT, Nat.reduceLeDiff, reduceCtorEq, Int.reduceToNat, Int.reduceLT, Int.reduceLE, Int.reduceAdd, Int.reduceSub, Int.reduceMul, Int.reduceNeg, Int.reduceEq, Nat.reduceMod, forall_eq_or_imp, forall_eq, forall_const, EVY, true_imp_iff, implies_true, Int.cast_ofNat_Int, forall_eq']
            rw [← hb2, uI_len]
            refine callK_mut (ws_row (h := mkH _) (kb := 1) (vb := 0) (kr := 3) (vr := v + 1) (l := tC n j f) (by simp [mkH]) rfl (by simp [mkH]) rfl (by omega) ⟨#[10]⟩ (by decide) (by show _ + 1 ≤ _; unfold tC; rw [List.length_append, ba_len, ByteArray.size_append]; omega)) ?_
            unfold bldS
            simp only [↓EVP0, EVQ0, EVQ1, EVQ2, EVQ3, EVQ4, EVA, EVK, EVFD, ↓reduceIte, Nat.reduceEqDiff, Nat.reduceAdd, Nat.reduceSub, Nat.reduceMul, Nat.reduceLT, Nat.reduceLeDiff, reduceCtorEq, Int.reduceToNat, Int.reduceLT, Int.reduceLE, Int.reduceAdd, Int.reduceSub, Int.reduceMul, Int.reduceNeg, Int.reduceEq, Nat.reduceMod, forall_eq_or_imp, forall_eq, forall_const, EVY, true_imp_iff, implies_true, Int.cast_ofNat_Int, forall_eq']
            unfold tC
            rw [← ha1 hb, uI_len]
            exact ⟨by unfold In64; omega, hj2, v + 1 + 1, rfl, rfl, rfl⟩
          · refine callK_mut (ws_row (h := mkH _) (kb := 1) (vb := 0) (kr := 3) (vr := v) (l := tB n j f f.links.length) (by simp [mkH]) rfl (by simp [mkH]) rfl (by omega) ⟨#[10]⟩ (by decide) (by show _ + 1 ≤ _; omega)) ?_
            unfold bldS
            simp only [↓EVP0, EVQ0, EVQ1, EVQ2, EVQ3, EVQ4, EVA, EVK, EVFD, ↓reduceIte, Nat.reduceEqDiff, Nat.reduceAdd, Nat.reduceSub, Nat.reduceMul, Nat.reduceLT, Nat.reduceLeDiff, reduceCtorEq, Int.reduceToNat, Int.reduceLT, Int.reduceLE, Int.reduceAdd, Int.reduceSub, Int.reduceMul, Int.reduceNeg, Int.reduceEq, Nat.reduceMod, forall_eq_or_imp, forall_eq, forall_const, EVY, true_imp_iff, implies_true, Int.cast_ofNat_Int, forall_eq']
            rw [← ha2 hb, uI_len]
            exact ⟨by unfold In64; omega, hj2, v + 1, rfl, rfl, rfl⟩
      · have hj2 : j = n.fls.length := by have := of_decide_eq_false hg; omega
        subst hj2
        have hne : tA n n.fls.length ≠ [] := by
          intro h
          have h2 : txtCs n.caps = [] := by
            unfold tA at h
            exact (List.append_eq_nil_iff.1 h).1
          have h3 := txtCs_succ (l := n.caps) (i := 0) (by omega)
          have h4 : (txtC (n.caps.getD 0 default)).data.toList ≠ [] := by
            intro h5
            have h6 := ba_len (txtC (n.caps.getD 0 default))
            rw [h5] at h6
            have := txtC_len (hn.caps _ (getD_mem default (show 0 < n.caps.length by omega)))
            rw [List.length_nil] at h6; omega
          unfold txtCs at h2
          have h5 := List.flatten_eq_nil_iff.1 h2 _ (List.mem_map.2 ⟨n.caps.getD 0 default, getD_mem default (show 0 < n.caps.length by omega), rfl⟩)
          exact h4 h5
        refine callK_mut (lc_str_row (h := mkH _) (kb := 1) (vb := 0) (kr := 3) (vr := v) (l := tA n n.fls.length) (by simp [mkH]) rfl (by simp [mkH]) rfl hne) ?_
        simp only [↓EVP0, EVQ0, EVQ1, EVQ2, EVQ3, EVQ4, EVA, EVK, EVFD, ↓reduceIte, Nat.reduceEqDiff, Nat.reduceAdd, Nat.reduceSub, Nat.reduceMul, Nat.reduceLT, Nat.reduceLeDiff, reduceCtorEq, Int.reduceToNat, Int.reduceLT, Int.reduceLE, Int.reduceAdd, Int.reduceSub, Int.reduceMul, Int.reduceNeg, Int.reduceEq, Nat.reduceMod, forall_eq_or_imp, forall_eq, forall_const, EVY, true_imp_iff, implies_true, Int.cast_ofNat_Int, forall_eq']
        unfold tA
        rw [List.take_length]
end Go.Proofs.YtdfiicpikcdokaaGreatDoor
namespace Go.Proofs.YtdfiicpikcdokaaGreatDoor
set_option linter.unusedSimpArgs false
set_option linter.unusedVariables false
open Go.RowKit
set_option maxRecDepth 20000

theorem add_zero : addR ⟨0, 1⟩ ⟨0, 0⟩ = (⟨0, 1⟩, 0) := by kernel_rfl
end Go.Proofs.YtdfiicpikcdokaaGreatDoor
namespace Go.Proofs.YtdfiicpikcdokaaGreatDoor
set_option linter.unusedSimpArgs false
set_option linter.unusedVariables false
open Go.RowKit
set_option maxRecDepth 20000

def exN : Nt := ⟨[⟨1, 1⟩, ⟨3, 2⟩], [⟨[0, 1], false, ⟨0, 0⟩⟩, ⟨[1], true, ⟨2, 1⟩⟩]⟩
theorem ex_ok {n d : Int} (hn : -100 ≤ n ∧ n ≤ 100) (hd : -100 ≤ d ∧ d ≤ 100) : RtOk ⟨n, d⟩ := ⟨show In64 n by unfold In64; omega, show In64 d by unfold In64; omega⟩
theorem ex_nt : NtOk exN := by
  refine ⟨fun r hr => ?_, fun f hf x hx => ?_, fun f hf => ?_⟩
  · simp only [exN, List.mem_cons, List.not_mem_nil, or_false] at hr
    rcases hr with rfl | rfl <;> exact ex_ok (by decide) (by decide)
  · simp only [exN, List.mem_cons, List.not_mem_nil, or_false] at hf
    rcases hf with rfl | rfl <;> simp only [List.mem_cons, List.not_mem_nil, or_false] at hx
    · rcases hx with rfl | rfl <;> unfold In64 <;> omega
    · subst hx; unfold In64; omega
  · simp only [exN, List.mem_cons, List.not_mem_nil, or_false] at hf
    rcases hf with rfl | rfl <;> exact ex_ok (by decide) (by decide)
theorem it0 : ItOk 0 := itOk_small 0 (by decide)
theorem it1 : ItOk 1 := itOk_small 1 (by decide)
theorem it2 : ItOk 2 := itOk_small 2 (by decide)
theorem it3 : ItOk 3 := itOk_small 3 (by decide)
theorem ex_it : NtIt exN := by
  refine ⟨fun r hr => ?_, fun f hf x hx => ?_, fun f hf => ?_⟩
  · simp only [exN, List.mem_cons, List.not_mem_nil, or_false] at hr
    rcases hr with rfl | rfl
    · exact ⟨it1, it1⟩
    · exact ⟨it3, it2⟩
  · simp only [exN, List.mem_cons, List.not_mem_nil, or_false] at hf
    rcases hf with rfl | rfl <;> simp only [List.mem_cons, List.not_mem_nil, or_false] at hx
    · rcases hx with rfl | rfl
      · exact it0
      · exact it1
    · subst hx; exact it1
  · simp only [exN, List.mem_cons, List.not_mem_nil, or_false] at hf
    rcases hf with rfl | rfl
    · exact ⟨it0, it0⟩
    · exact ⟨it2, it1⟩
theorem ev_example33 : Ev Tryz.prog 14 [] (netV exN) := by
  refine ev_fnD Tryz.func14 comp14 (show 0 ≤ Tryz.f14.ntmps by decide) ?_
  unfold cf14 rf14
  simp only [↓EVP0, EVQ0, EVQ1, EVQ2, EVQ3, EVQ4, EVA, EVK, EVFD, ↓reduceIte, Nat.reduceEqDiff, Nat.reduceAdd, Nat.reduceSub, Nat.reduceMul, Nat.reduceLT, Nat.reduceLeDiff, reduceCtorEq, Int.reduceToNat, Int.reduceLT, Int.reduceLE, Int.reduceAdd, Int.reduceSub, Int.reduceMul, Int.reduceNeg, Int.reduceEq, Nat.reduceMod, forall_eq_or_imp, forall_eq, forall_const, EVY, true_imp_iff, implies_true, Int.cast_ofNat_Int, forall_eq']
  unfold finD
  simp only [↓EVP0, EVQ0, EVQ1, EVQ2, EVQ3, EVQ4, EVA, EVK, EVFD, ↓reduceIte, Nat.reduceEqDiff, Nat.reduceAdd, Nat.reduceSub, Nat.reduceMul, Nat.reduceLT, Nat.reduceLeDiff, reduceCtorEq, Int.reduceToNat, Int.reduceLT, Int.reduceLE, Int.reduceAdd, Int.reduceSub, Int.reduceMul, Int.reduceNeg, Int.reduceEq, Nat.reduceMod, forall_eq_or_imp, forall_eq, forall_const, EVY, true_imp_iff, implies_true, Int.cast_ofNat_Int, forall_eq']
  have h2 : ∀ i : Nat, i < 2 → i = 0 ∨ i = 1 := fun i hi => by omega
  refine ⟨⟨rfl, rfl, by simp [mkH], rfl, ⟨rfl, by decide, fun i hi => ?_⟩, fun i hi => ?_⟩, ⟨rfl, rfl, by simp [mkH], rfl, ⟨rfl, by decide, fun i hi => ?_⟩, fun i hi => ?_⟩, trivial⟩
  · rcases h2 i hi with rfl | rfl <;> rfl
  · rcases h2 i hi with rfl | rfl <;> exact ⟨⟨rfl, trivial⟩, ⟨rfl, trivial⟩, trivial⟩
  · rcases h2 i hi with rfl | rfl <;> rfl
  · rcases h2 i hi with rfl | rfl
    · refine ⟨⟨rfl, rfl, by simp [mkH], rfl, ⟨rfl, by decide⟩, fun j hj => ?_⟩, ⟨rfl, trivial⟩, ⟨rfl, trivial⟩, ⟨rfl, trivial⟩, trivial⟩
      rcases h2 j hj with rfl | rfl <;> exact ⟨rfl, trivial, trivial⟩
    · refine ⟨⟨rfl, rfl, by simp [mkH], rfl, ⟨rfl, by decide⟩, fun j hj => ?_⟩, ⟨rfl, trivial⟩, ⟨rfl, trivial⟩, ⟨rfl, trivial⟩, trivial⟩
      have : j = 0 := by omega
      subst this
      exact ⟨rfl, trivial, trivial⟩
theorem ex_fmt : fmtN exN = (⟨#[108, 105, 110, 107, 32, 49, 10, 108, 105, 110, 107, 32, 51, 47, 50, 10, 102, 108, 111, 119, 32, 48, 32, 49, 10, 102, 108, 111, 119, 32, 49, 32, 109, 97, 120, 32, 50, 10]⟩, 0) := by kernel_rfl
theorem ex_full : fullB exN [⟨1, 2⟩, ⟨1, 1⟩] 1 = true := by kernel_rfl
theorem ev_awake33 : Ev Tryz.prog 5 [] (.sc (.bool true)) := by
  have h1 := ev_example33
  have h2 := ev_format33 exN ex_nt ex_it
  rw [ex_fmt] at h2
  have h3 := ev_full33 exN ex_nt [⟨1, 2⟩, ⟨1, 1⟩] (fun r hr => by
    simp only [List.mem_cons, List.not_mem_nil, or_false] at hr
    rcases hr with rfl | rfl <;> exact ex_ok (by decide) (by decide)) 1
  rw [ex_full] at h3
  unfold netV ratsV at *
  refine ev_fn Tryz.func5 comp5 (show 0 ≤ Tryz.f5.ntmps by decide) ?_; unfold cf5 rf5; simp only [↓EVP0, EVQ0, EVQ1, EVQ2, EVQ3, EVQ4, EVA, EVK, EVFD, ↓reduceIte, Nat.reduceEqDiff, Nat.reduceAdd, Nat.reduceSub, Nat.reduceMul, Nat.reduceLT, Nat.reduceLeDiff, reduceCtorEq, Int.reduceToNat, Int.reduceLT, Int.reduceLE, Int.reduceAdd, Int.reduceSub, Int.reduceMul, Int.reduceNeg, Int.reduceEq, Nat.reduceMod, forall_eq_or_imp, forall_eq, forall_const, EVY, true_imp_iff, implies_true, Int.cast_ofNat_Int, forall_eq']
  refine callK_ro (h1) ?_ ?_
  · simp only [↓EVP0, EVQ0, EVQ1, EVQ2, EVQ3, EVQ4, EVA, EVK, EVFD, ↓reduceIte, Nat.reduceEqDiff, Nat.reduceAdd, Nat.reduceSub, Nat.reduceMul, Nat.reduceLT, Nat.reduceLeDiff, reduceCtorEq, Int.reduceToNat, Int.reduceLT, Int.reduceLE, Int.reduceAdd, Int.reduceSub, Int.reduceMul, Int.reduceNeg, Int.reduceEq, Nat.reduceMod, forall_eq_or_imp, forall_eq, forall_const, EVY, true_imp_iff, implies_true, Int.cast_ofNat_Int, forall_eq']
  simp only [↓EVP0, EVQ0, EVQ1, EVQ2, EVQ3, EVQ4, EVA, EVK, EVFD, ↓reduceIte, Nat.reduceEqDiff, Nat.reduceAdd, Nat.reduceSub, Nat.reduceMul, Nat.reduceLT, Nat.reduceLeDiff, reduceCtorEq, Int.reduceToNat, Int.reduceLT, Int.reduceLE, Int.reduceAdd, Int.reduceSub, Int.reduceMul, Int.reduceNeg, Int.reduceEq, Nat.reduceMod, forall_eq_or_imp, forall_eq, forall_const, EVY, true_imp_iff, implies_true, Int.cast_ofNat_Int, forall_eq']
  refine callK_ro (h2) ?_ ?_
  · simp only [↓EVP0, EVQ0, EVQ1, EVQ2, EVQ3, EVQ4, EVA, EVK, EVFD, ↓reduceIte, Nat.reduceEqDiff, Nat.reduceAdd, Nat.reduceSub, Nat.reduceMul, Nat.reduceLT, Nat.reduceLeDiff, reduceCtorEq, Int.reduceToNat, Int.reduceLT, Int.reduceLE, Int.reduceAdd, Int.reduceSub, Int.reduceMul, Int.reduceNeg, Int.reduceEq, Nat.reduceMod, forall_eq_or_imp, forall_eq, forall_const, EVY, true_imp_iff, implies_true, Int.cast_ofNat_Int, forall_eq']
  simp only [↓EVP0, EVQ0, EVQ1, EVQ2, EVQ3, EVQ4, EVA, EVK, EVFD, ↓reduceIte, Nat.reduceEqDiff, Nat.reduceAdd, Nat.reduceSub, Nat.reduceMul, Nat.reduceLT, Nat.reduceLeDiff, reduceCtorEq, Int.reduceToNat, Int.reduceLT, Int.reduceLE, Int.reduceAdd, Int.reduceSub, Int.reduceMul, Int.reduceNeg, Int.reduceEq, Nat.reduceMod, forall_eq_or_imp, forall_eq, forall_const, EVY, true_imp_iff, implies_true, Int.cast_ofNat_Int, forall_eq']
  (refine lops_ge_imp ?_; simp only [↓EVP0, EVQ0, EVQ1, EVQ2, EVQ3, EVQ4, EVA, EVK, EVFD, ↓reduceIte, Nat.reduceEqDiff, Nat.reduceAdd, Nat.reduceSub, Nat.reduceMul, Nat.reduceLT, Nat.reduceLeDiff, reduceCtorEq, Int.reduceToNat, Int.reduceLT, Int.reduceLE, Int.reduceAdd, Int.reduceSub, Int.reduceMul, Int.reduceNeg, Int.reduceEq, Nat.reduceMod, forall_eq_or_imp, forall_eq, forall_const, EVY, true_imp_iff, implies_true, Int.cast_ofNat_Int, forall_eq'])
  refine gCallK_ro _ (fun _ => h1) (fun _ => ?_) ?_
  · simp only [↓EVP0, EVQ0, EVQ1, EVQ2, EVQ3, EVQ4, EVA, EVK, EVFD, ↓reduceIte, Nat.reduceEqDiff, Nat.reduceAdd, Nat.reduceSub, Nat.reduceMul, Nat.reduceLT, Nat.reduceLeDiff, reduceCtorEq, Int.reduceToNat, Int.reduceLT, Int.reduceLE, Int.reduceAdd, Int.reduceSub, Int.reduceMul, Int.reduceNeg, Int.reduceEq, Nat.reduceMod, forall_eq_or_imp, forall_eq, forall_const, EVY, true_imp_iff, implies_true, Int.cast_ofNat_Int, forall_eq']
  simp only [↓EVP0, EVQ0, EVQ1, EVQ2, EVQ3, EVQ4, EVA, EVK, EVFD, ↓reduceIte, Nat.reduceEqDiff, Nat.reduceAdd, Nat.reduceSub, Nat.reduceMul, Nat.reduceLT, Nat.reduceLeDiff, reduceCtorEq, Int.reduceToNat, Int.reduceLT, Int.reduceLE, Int.reduceAdd, Int.reduceSub, Int.reduceMul, Int.reduceNeg, Int.reduceEq, Nat.reduceMod, forall_eq_or_imp, forall_eq, forall_const, EVY, true_imp_iff, implies_true, Int.cast_ofNat_Int, forall_eq']
  (refine lops_ge_imp ?_; simp only [↓EVP0, EVQ0, EVQ1, EVQ2, EVQ3, EVQ4, EVA, EVK, EVFD, ↓reduceIte, Nat.reduceEqDiff, Nat.reduceAdd, Nat.reduceSub, Nat.reduceMul, Nat.reduceLT, Nat.reduceLeDiff, reduceCtorEq, Int.reduceToNat, Int.reduceLT, Int.reduceLE, Int.reduceAdd, Int.reduceSub, Int.reduceMul, Int.reduceNeg, Int.reduceEq, Nat.reduceMod, forall_eq_or_imp, forall_eq, forall_const, EVY, true_imp_iff, implies_true, Int.cast_ofNat_Int, forall_eq'])
  refine lops_ge_imp ?_
  simp only [↓EVP0, EVQ0, EVQ1, EVQ2, EVQ3, EVQ4, EVA, EVK, EVFD, ↓reduceIte, Nat.reduceEqDiff, Nat.reduceAdd, Nat.reduceSub, Nat.reduceMul, Nat.reduceLT, Nat.reduceLeDiff, reduceCtorEq, Int.reduceToNat, Int.reduceLT, Int.reduceLE, Int.reduceAdd, Int.reduceSub, Int.reduceMul, Int.reduceNeg, Int.reduceEq, Nat.reduceMod, forall_eq_or_imp, forall_eq, forall_const, EVY, true_imp_iff, implies_true, Int.cast_ofNat_Int, forall_eq']
  refine gCallK_frz _ (fun _ => h3) (fun _ => ?_) ?_ ?_
  · simp only [↓EVP0, EVQ0, EVQ1, EVQ2, EVQ3, EVQ4, EVA, EVK, EVFD, ↓reduceIte, Nat.reduceEqDiff, Nat.reduceAdd, Nat.reduceSub, Nat.reduceMul, Nat.reduceLT, Nat.reduceLeDiff, reduceCtorEq, Int.reduceToNat, Int.reduceLT, Int.reduceLE, Int.reduceAdd, Int.reduceSub, Int.reduceMul, Int.reduceNeg, Int.reduceEq, Nat.reduceMod, forall_eq_or_imp, forall_eq, forall_const, EVY, true_imp_iff, implies_true, Int.cast_ofNat_Int, forall_eq']
    have h2 : ∀ i : Nat, i < 2 → i = 0 ∨ i = 1 := fun i hi => by omega
    refine ⟨fun i hi => ?_, fun i hi => ?_⟩ <;> rcases h2 i hi with rfl | rfl <;> rfl
  · simp only [↓EVP0, EVQ0, EVQ1, EVQ2, EVQ3, EVQ4, EVA, EVK, EVFD, ↓reduceIte, Nat.reduceEqDiff, Nat.reduceAdd, Nat.reduceSub, Nat.reduceMul, Nat.reduceLT, Nat.reduceLeDiff, reduceCtorEq, Int.reduceToNat, Int.reduceLT, Int.reduceLE, Int.reduceAdd, Int.reduceSub, Int.reduceMul, Int.reduceNeg, Int.reduceEq, Nat.reduceMod, forall_eq_or_imp, forall_eq, forall_const, EVY, true_imp_iff, implies_true, Int.cast_ofNat_Int, forall_eq']
  simp only [↓EVP0, EVQ0, EVQ1, EVQ2, EVQ3, EVQ4, EVA, EVK, EVFD, ↓reduceIte, Nat.reduceEqDiff, Nat.reduceAdd, Nat.reduceSub, Nat.reduceMul, Nat.reduceLT, Nat.reduceLeDiff, reduceCtorEq, Int.reduceToNat, Int.reduceLT, Int.reduceLE, Int.reduceAdd, Int.reduceSub, Int.reduceMul, Int.reduceNeg, Int.reduceEq, Nat.reduceMod, forall_eq_or_imp, forall_eq, forall_const, EVY, true_imp_iff, implies_true, Int.cast_ofNat_Int, forall_eq']
end Go.Proofs.YtdfiicpikcdokaaGreatDoor
namespace Go.Proofs.YtdfiicpikcdokaaGreatDoor
set_option linter.unusedSimpArgs false
set_option linter.unusedVariables false
open Go.RowKit
set_option maxRecDepth 20000

def apF (z : Nat) (g : Nat → List LV) : Nat → Nat → List LV
  | 0 => elO .dead
  | m + 1 => fun i => if i < m then apF z g m i else List.take z (List.drop ((i - m) * z) (g m))
theorem apF_get {z : Nat} {g : Nat → List LV} (hg : ∀ m, (g m).length = z) : ∀ {m i : Nat}, i < m → apF z g m i = g i
  | m + 1, i, h => by
    unfold apF
    by_cases e : i < m
    · rw [if_pos e]; exact apF_get hg e
    · have : i = m := by omega
      subst this
      rw [if_neg e, Nat.sub_self, Nat.zero_mul, List.drop_zero, List.take_of_length_le (by rw [hg]; exact Nat.le_refl _)]
theorem bsF_len {z : Nat} {l : List LV} (h : l.length = z) : ∀ i, i < 1 → (List.take z (List.drop (i * z) l)).length = z := by
  intro i hi
  rw [show i = 0 by omega, Nat.zero_mul, List.drop_zero, List.take_of_length_le (by omega), h]
theorem bs_all {n : Nat} {x y : Value} : ∀ i, i < 1 → allC n (List.take 2 (List.take 2 (List.drop (i * 2) [LV.sc x, LV.sc y]))) := by
  intro i hi
  rw [show i = 0 by omega]
  exact ⟨trivial, trivial, trivial⟩
end Go.Proofs.YtdfiicpikcdokaaGreatDoor
namespace Go.Proofs.YtdfiicpikcdokaaGreatDoor
set_option linter.unusedSimpArgs false
set_option linter.unusedVariables false
open Go.RowKit
set_option maxRecDepth 20000

end Go.Proofs.YtdfiicpikcdokaaGreatDoor
namespace Go.Proofs.YtdfiicpikcdokaaGreatDoor
set_option linter.unusedSimpArgs false
set_option linter.unusedVariables false
open Go.RowKit
set_option maxRecDepth 20000

theorem ev_fits33 (r : Rt) : Ev Tryz.prog 53 [ratV r] (.sc (.bool (vldR r && decide (0 ≤ r.n)))) := by
  have h1 := ev_rvalid r
  unfold ratV at *
  refine ev_fn Tryz.func53 comp53 (show 1 ≤ Tryz.f53.ntmps by decide) ?_; unfold cf53 rf53; simp only [↓EVP0, EVQ0, EVQ1, EVQ2, EVQ3, EVQ4, EVA, EVK, EVFD, ↓reduceIte, Nat.reduceEqDiff, Nat.reduceAdd, Nat.reduceSub, Nat.reduceMul, Nat.reduceLT, Nat.reduceLeDiff, reduceCtorEq, Int.reduceToNat, Int.reduceLT, Int.reduceLE, Int.reduceAdd, Int.reduceSub, Int.reduceMul, Int.reduceNeg, Int.reduceEq, Nat.reduceMod, forall_eq_or_imp, forall_eq, forall_const, EVY, true_imp_iff, implies_true, Int.cast_ofNat_Int, forall_eq']
  refine callK_ro (h1) ?_ ?_
  · simp only [↓EVP0, EVQ0, EVQ1, EVQ2, EVQ3, EVQ4, EVA, EVK, EVFD, ↓reduceIte, Nat.reduceEqDiff, Nat.reduceAdd, Nat.reduceSub, Nat.reduceMul, Nat.reduceLT, Nat.reduceLeDiff, reduceCtorEq, Int.reduceToNat, Int.reduceLT, Int.reduceLE, Int.reduceAdd, Int.reduceSub, Int.reduceMul, Int.reduceNeg, Int.reduceEq, Nat.reduceMod, forall_eq_or_imp, forall_eq, forall_const, EVY, true_imp_iff, implies_true, Int.cast_ofNat_Int, forall_eq']
  simp only [↓EVP0, EVQ0, EVQ1, EVQ2, EVQ3, EVQ4, EVA, EVK, EVFD, ↓reduceIte, Nat.reduceEqDiff, Nat.reduceAdd, Nat.reduceSub, Nat.reduceMul, Nat.reduceLT, Nat.reduceLeDiff, reduceCtorEq, Int.reduceToNat, Int.reduceLT, Int.reduceLE, Int.reduceAdd, Int.reduceSub, Int.reduceMul, Int.reduceNeg, Int.reduceEq, Nat.reduceMod, forall_eq_or_imp, forall_eq, forall_const, EVY, true_imp_iff, implies_true, Int.cast_ofNat_Int, forall_eq']
  cases vldR r <;> rfl
theorem apF_rt {l : List Rt} {m i : Nat} (h : i < m) : apF 2 (rtsF l) m i = rtsF l i := apF_get (z := 2) (g := rtsF l) (fun _ => rfl) h
theorem apF_fl {l : List Fl} {m i : Nat} (h : i < m) : apF 4 (flsF l) m i = flsF l i := apF_get (z := 4) (g := flsF l) (fun _ => rfl) h
theorem bs_allF {n : Nat} {b c d : Value} {m : Nat} {f : Nat → List LV} : ∀ i, i < 1 → allC n (List.take 4 (List.take 4 (List.drop (i * 4) [LV.rsl 1 m f, LV.sc b, LV.sc c, LV.sc d]))) := by
  intro i hi
  rw [show i = 0 by omega]
  exact ⟨trivial, trivial, trivial, trivial, trivial⟩
theorem ap_allR {n : Nat} {l : List Rt} {m : Nat} : ∀ i, i < m → allC n (List.take 2 (apF 2 (rtsF l) m i)) := by
  intro i hi
  rw [apF_rt hi]
  exact ⟨trivial, trivial, trivial⟩
theorem ap_allF {n : Nat} {l : List Fl} {m : Nat} : ∀ i, i < m → allC n (List.take 4 (apF 4 (flsF l) m i)) := by
  intro i hi
  rw [apF_fl hi]
  exact ⟨trivial, trivial, trivial, trivial, trivial⟩
theorem ev_plain33 (n : Nt) (h40 : n.caps.length ≤ 40) (hf40 : n.fls.length ≤ 40) : Ev Tryz.prog 11 [netV n] (netV n) := by
  unfold netV
  refine ev_fn Tryz.func11 comp11 (show 1 ≤ Tryz.f11.ntmps by decide) ?_; unfold cf11 rf11; simp only [↓EVP0, EVQ0, EVQ1, EVQ2, EVQ3, EVQ4, EVA, EVK, EVFD, ↓reduceIte, Nat.reduceEqDiff, Nat.reduceAdd, Nat.reduceSub, Nat.reduceMul, Nat.reduceLT, Nat.reduceLeDiff, reduceCtorEq, Int.reduceToNat, Int.reduceLT, Int.reduceLE, Int.reduceAdd, Int.reduceSub, Int.reduceMul, Int.reduceNeg, Int.reduceEq, Nat.reduceMod, forall_eq_or_imp, forall_eq, forall_const, EVY, true_imp_iff, implies_true, Int.cast_ofNat_Int, forall_eq']
  intro _
  refine lwp_for (α := Unit) n.caps.length (fun i _ => True) (fun i _ => [(1, .ptr 0 0 0 0 0), (2, .ptr 1 0 0 0 0), (3, .ptr 2 0 0 0 0), (9, .rsl 2 n.caps.length (rtsF n.caps)), (10, .sc (.int .i64 n.caps.length)), (11, .sc (.int .i64 i))])
    (fun i _ => if i = 0 then [(0, .box [.rsl 2 n.caps.length (rtsF n.caps), .rsl 4 n.fls.length (flsF n.fls)]), (0, .box [.nsl, .nsl]), (0, .box [.nsl, .nsl])]
      else [(0, .box [.rsl 2 n.caps.length (rtsF n.caps), .rsl 4 n.fls.length (flsF n.fls)]), (0, .box [.nsl, .nsl]), (0, .box [.sl 5 (i - 1) 2 0 i, .nsl]), (0, .box (rtsF n.caps 0)), (0, .row 2 1 (fun i => List.take 2 (List.drop (i * 2) (rtsF n.caps 0)))), (i - 1, .row 2 i (apF 2 (rtsF n.caps) i))]) () trivial ?_ (fun _ _ => Nat.zero_le _) ?_
  · simp only [if_true]
    simp only [↓EVP0, EVQ0, EVQ1, EVQ2, EVQ3, EVQ4, EVA, EVK, EVFD, ↓reduceIte, Nat.reduceEqDiff, Nat.reduceAdd, Nat.reduceSub, Nat.reduceMul, Nat.reduceLT, Nat.reduceLeDiff, reduceCtorEq, Int.reduceToNat, Int.reduceLT, Int.reduceLE, Int.reduceAdd, Int.reduceSub, Int.reduceMul, Int.reduceNeg, Int.reduceEq, Nat.reduceMod, forall_eq_or_imp, forall_eq, forall_const, EVY, true_imp_iff, implies_true, Int.cast_ofNat_Int, forall_eq']
  intro m _ hi _
  cases m with
  | zero =>
    simp only [if_true]
    unfold lb11_1
    simp only [↓EVP0, EVQ0, EVQ1, EVQ2, EVQ3, EVQ4, EVA, EVK, EVFD, ↓reduceIte, Nat.reduceEqDiff, Nat.reduceAdd, Nat.reduceSub, Nat.reduceMul, Nat.reduceLT, Nat.reduceLeDiff, reduceCtorEq, Int.reduceToNat, Int.reduceLT, Int.reduceLE, Int.reduceAdd, Int.reduceSub, Int.reduceMul, Int.reduceNeg, Int.reduceEq, Nat.reduceMod, forall_eq_or_imp, forall_eq, forall_const, EVY, true_imp_iff, implies_true, Int.cast_ofNat_Int, forall_eq']
    refine ⟨fun hg2 => ?_, fun hg2 => ?_⟩
    · have hi2 : 0 < n.caps.length := by have := of_decide_eq_true hg2; omega
      exact ⟨by omega, bsF_len rfl, by unfold appRoom; omega, by unfold In64; omega, hi2, (), bs_all, rfl, ap_allR⟩
    · have hcl : n.caps.length = 0 := by have := of_decide_eq_false hg2; omega
      intro _
      refine lwp_for (α := Unit) n.fls.length (fun k _ => True) (fun k _ => [(2, .ptr 1 0 0 0 0), (3, .ptr 2 0 0 0 0), (23, .rsl 4 n.fls.length (flsF n.fls)), (24, .sc (.int .i64 n.fls.length)), (25, .sc (.int .i64 k))])
        (fun k _ => if k = 0 then [(0, .box [.rsl 2 n.caps.length (rtsF n.caps), .rsl 4 n.fls.length (flsF n.fls)]), (0, .box [.nsl, .nsl]), (0, .box [.nsl, .nsl])] else [(0, .box [.rsl 2 n.caps.length (rtsF n.caps), .rsl 4 n.fls.length (flsF n.fls)]), (0, .box [.nsl, .nsl]), (0, .box [.nsl, .sl 5 (k - 1) 4 0 k]), (0, .box (flsF n.fls 0)), (0, .row 4 1 (fun i => List.take 4 (List.drop (i * 4) (flsF n.fls 0)))), (k - 1, .row 4 k (apF 4 (flsF n.fls) k))]) () trivial ?_ (fun _ _ => Nat.zero_le _) ?_
      · simp only [if_true]
        simp only [↓EVP0, EVQ0, EVQ1, EVQ2, EVQ3, EVQ4, EVA, EVK, EVFD, ↓reduceIte, Nat.reduceEqDiff, Nat.reduceAdd, Nat.reduceSub, Nat.reduceMul, Nat.reduceLT, Nat.reduceLeDiff, reduceCtorEq, Int.reduceToNat, Int.reduceLT, Int.reduceLE, Int.reduceAdd, Int.reduceSub, Int.reduceMul, Int.reduceNeg, Int.reduceEq, Nat.reduceMod, forall_eq_or_imp, forall_eq, forall_const, EVY, true_imp_iff, implies_true, Int.cast_ofNat_Int, forall_eq']
      intro k _ hk _
      cases k with
      | zero =>
        simp only [if_true]
        unfold lb11_0
        simp only [↓EVP0, EVQ0, EVQ1, EVQ2, EVQ3, EVQ4, EVA, EVK, EVFD, ↓reduceIte, Nat.reduceEqDiff, Nat.reduceAdd, Nat.reduceSub, Nat.reduceMul, Nat.reduceLT, Nat.reduceLeDiff, reduceCtorEq, Int.reduceToNat, Int.reduceLT, Int.reduceLE, Int.reduceAdd, Int.reduceSub, Int.reduceMul, Int.reduceNeg, Int.reduceEq, Nat.reduceMod, forall_eq_or_imp, forall_eq, forall_const, EVY, true_imp_iff, implies_true, Int.cast_ofNat_Int, forall_eq']
        refine ⟨fun hg4 => ?_, fun hg4 => ?_⟩
        · have hk2 : 0 < n.fls.length := by have := of_decide_eq_true hg4; omega
          exact ⟨by omega, bsF_len rfl, by unfold appRoom; omega, by unfold In64; omega, hk2, (), bs_allF, rfl, ap_allF⟩
        · have hf0 : n.fls.length = 0 := by have := of_decide_eq_false hg4; omega
          exact ⟨hcl, hf0⟩
      | succ k =>
        simp only [show ¬ k + 1 = 0 by omega, if_false]
        unfold lb11_0
        simp only [↓EVP0, EVQ0, EVQ1, EVQ2, EVQ3, EVQ4, EVA, EVK, EVFD, ↓reduceIte, Nat.reduceEqDiff, Nat.reduceAdd, Nat.reduceSub, Nat.reduceMul, Nat.reduceLT, Nat.reduceLeDiff, reduceCtorEq, Int.reduceToNat, Int.reduceLT, Int.reduceLE, Int.reduceAdd, Int.reduceSub, Int.reduceMul, Int.reduceNeg, Int.reduceEq, Nat.reduceMod, forall_eq_or_imp, forall_eq, forall_const, EVY, true_imp_iff, implies_true, Int.cast_ofNat_Int, forall_eq']
        have ecast : ((k : Int) + 1).toNat = k + 1 := by omega
        rw [ecast]
        refine ⟨fun hg4 => ?_, fun hg4 => ?_⟩
        · have hk2 : k + 1 < n.fls.length := by have := of_decide_eq_true hg4; omega
          exact ⟨⟨by omega, by omega⟩, bsF_len rfl, ⟨Nat.le_refl _, fun k hk => by rw [apF_fl hk]; rfl⟩, by unfold appRoom; omega, by unfold In64; omega, hk2, (), by rw [show k + 1 - 1 + 1 = k + 1 + 1 - 1 by omega], bs_allF, ⟨by omega, rfl⟩, ap_allF⟩
        · have hf0 : n.fls.length = k + 1 := by have := of_decide_eq_false hg4; omega
          exact ⟨hcl, hf0, ⟨Nat.le_refl _, fun i hi => by rw [apF_fl hi]; rfl⟩, fun i hi => apF_fl hi⟩
  | succ m =>
    simp only [show ¬ m + 1 = 0 by omega, if_false]
    unfold lb11_1
    simp only [↓EVP0, EVQ0, EVQ1, EVQ2, EVQ3, EVQ4, EVA, EVK, EVFD, ↓reduceIte, Nat.reduceEqDiff, Nat.reduceAdd, Nat.reduceSub, Nat.reduceMul, Nat.reduceLT, Nat.reduceLeDiff, reduceCtorEq, Int.reduceToNat, Int.reduceLT, Int.reduceLE, Int.reduceAdd, Int.reduceSub, Int.reduceMul, Int.reduceNeg, Int.reduceEq, Nat.reduceMod, forall_eq_or_imp, forall_eq, forall_const, EVY, true_imp_iff, implies_true, Int.cast_ofNat_Int, forall_eq']
    have ecast : ((m : Int) + 1).toNat = m + 1 := by omega
    rw [ecast]
    refine ⟨fun hg2 => ?_, fun hg2 => ?_⟩
    · have hi2 : m + 1 < n.caps.length := by have := of_decide_eq_true hg2; omega
      exact ⟨⟨by omega, by omega⟩, bsF_len rfl, ⟨Nat.le_refl _, fun k hk => by rw [apF_rt hk]; rfl⟩, by unfold appRoom; omega, by unfold In64; omega, hi2, (), by rw [show m + 1 - 1 + 1 = m + 1 + 1 - 1 by omega], bs_all, ⟨by omega, rfl⟩, ap_allR⟩
    · have hcl : n.caps.length = m + 1 := by have := of_decide_eq_false hg2; omega
      rw [show m + 1 - 1 = m by omega]
      intro _
      refine lwp_for (α := Unit) n.fls.length (fun k _ => True) (fun k _ => [(2, .ptr 1 0 0 0 0), (3, .ptr 2 0 0 0 0), (23, .rsl 4 n.fls.length (flsF n.fls)), (24, .sc (.int .i64 n.fls.length)), (25, .sc (.int .i64 k))])
        (fun k _ => if k = 0 then [(0, .box [.rsl 2 n.caps.length (rtsF n.caps), .rsl 4 n.fls.length (flsF n.fls)]), (0, .box [.nsl, .nsl]), (0, .box [.sl 5 m 2 0 (m + 1), .nsl]), (0, .box (rtsF n.caps 0)), (0, .row 2 1 (fun i => List.take 2 (List.drop (i * 2) (rtsF n.caps 0)))), (m, .row 2 (m + 1) (apF 2 (rtsF n.caps) (m + 1)))] else [(0, .box [.rsl 2 n.caps.length (rtsF n.caps), .rsl 4 n.fls.length (flsF n.fls)]), (0, .box [.nsl, .nsl]), (0, .box [.sl 5 m 2 0 (m + 1), .sl 8 (k - 1) 4 0 k]), (0, .box (rtsF n.caps 0)), (0, .row 2 1 (fun i => List.take 2 (List.drop (i * 2) (rtsF n.caps 0)))), (m, .row 2 (m + 1) (apF 2 (rtsF n.caps) (m + 1))), (0, .box (flsF n.fls 0)), (0, .row 4 1 (fun i => List.take 4 (List.drop (i * 4) (flsF n.fls 0)))), (k - 1, .row 4 k (apF 4 (flsF n.fls) k))]) () trivial ?_ (fun _ _ => Nat.zero_le _) ?_
      · simp only [if_true]
        simp only [↓EVP0, EVQ0, EVQ1, EVQ2, EVQ3, EVQ4, EVA, EVK, EVFD, ↓reduceIte, Nat.reduceEqDiff, Nat.reduceAdd, Nat.reduceSub, Nat.reduceMul, Nat.reduceLT, Nat.reduceLeDiff, reduceCtorEq, Int.reduceToNat, Int.reduceLT, Int.reduceLE, Int.reduceAdd, Int.reduceSub, Int.reduceMul, Int.reduceNeg, Int.reduceEq, Nat.reduceMod, forall_eq_or_imp, forall_eq, forall_const, EVY, true_imp_iff, implies_true, Int.cast_ofNat_Int, forall_eq']
        exact ⟨bs_all, ap_allR⟩
      intro k _ hk _
      cases k with
      | zero =>
        simp only [if_true]
        unfold lb11_0
        simp only [↓EVP0, EVQ0, EVQ1, EVQ2, EVQ3, EVQ4, EVA, EVK, EVFD, ↓reduceIte, Nat.reduceEqDiff, Nat.reduceAdd, Nat.reduceSub, Nat.reduceMul, Nat.reduceLT, Nat.reduceLeDiff, reduceCtorEq, Int.reduceToNat, Int.reduceLT, Int.reduceLE, Int.reduceAdd, Int.reduceSub, Int.reduceMul, Int.reduceNeg, Int.reduceEq, Nat.reduceMod, forall_eq_or_imp, forall_eq, forall_const, EVY, true_imp_iff, implies_true, Int.cast_ofNat_Int, forall_eq']
        refine ⟨fun hg4 => ?_, fun hg4 => ?_⟩
        · have hk2 : 0 < n.fls.length := by have := of_decide_eq_true hg4; omega
          exact ⟨by omega, bsF_len rfl, by unfold appRoom; omega, by unfold In64; omega, hk2, (), bs_all, ap_allR, bs_allF, rfl, ap_allF⟩
        · have hf0 : n.fls.length = 0 := by have := of_decide_eq_false hg4; omega
          exact ⟨⟨hcl, ⟨Nat.le_refl _, fun i hi => by rw [apF_rt hi]; rfl⟩, fun i hi => apF_rt hi⟩, hf0⟩
      | succ k =>
        simp only [show ¬ k + 1 = 0 by omega, if_false]
        unfold lb11_0
        simp only [↓EVP0, EVQ0, EVQ1, EVQ2, EVQ3, EVQ4, EVA, EVK, EVFD, ↓reduceIte, Nat.reduceEqDiff, Nat.reduceAdd, Nat.reduceSub, Nat.reduceMul, Nat.reduceLT, Nat.reduceLeDiff, reduceCtorEq, Int.reduceToNat, Int.reduceLT, Int.reduceLE, Int.reduceAdd, Int.reduceSub, Int.reduceMul, Int.reduceNeg, Int.reduceEq, Nat.reduceMod, forall_eq_or_imp, forall_eq, forall_const, EVY, true_imp_iff, implies_true, Int.cast_ofNat_Int, forall_eq']
        have ecast : ((k : Int) + 1).toNat = k + 1 := by omega
        rw [ecast]
        refine ⟨fun hg4 => ?_, fun hg4 => ?_⟩
        · have hk2 : k + 1 < n.fls.length := by have := of_decide_eq_true hg4; omega
          exact ⟨⟨by omega, by omega⟩, bsF_len rfl, ⟨Nat.le_refl _, fun k hk => by rw [apF_fl hk]; rfl⟩, by unfold appRoom; omega, by unfold In64; omega, hk2, (), by rw [show k + 1 - 1 + 1 = k + 1 + 1 - 1 by omega], bs_all, ap_allR, bs_allF, ⟨by omega, rfl⟩, ap_allF⟩
        · have hf0 : n.fls.length = k + 1 := by have := of_decide_eq_false hg4; omega
          exact ⟨⟨hcl, ⟨Nat.le_refl _, fun i hi => by rw [apF_rt hi]; rfl⟩, fun i hi => apF_rt hi⟩, hf0, ⟨Nat.le_refl _, fun i hi => by rw [apF_fl hi]; rfl⟩, fun i hi => apF_fl hi⟩
-- END OF PLAIN
def capB2 (c : Rt) : Bool := (vldR c && decide (0 ≤ c.n)) && !(decide (1000 < (fullR c).n.tdiv (fullR c).d) || (decide ((fullR c).n.tdiv (fullR c).d = 1000) && !decide ((fullR c).n.tmod (fullR c).d = 0)))
theorem capB2_eq (c : Rt) : capB2 c = capB c := by
  unfold capB2 capB
  cases hv : vldR c
  · rfl
  by_cases h0 : 0 ≤ c.n
  · rw [decide_eq_true h0, full_nrm hv, cmpR_E hv (int_vld (n := 1000) (by decide)).1, (int_vld (n := 1000) (by decide)).2]
    have hl := (vld_low hv).1
    have hn : 0 ≤ (nrmR c).n := by unfold nrmR; split <;> exact h0
    generalize nrmR c = C at *
    rw [Int.tdiv_eq_ediv_of_nonneg hn, Int.tmod_eq_emod_of_nonneg hn]
    have e1 := Int.mul_ediv_add_emod C.n C.d
    have e2 := Int.emod_nonneg C.n (show C.d ≠ 0 by omega)
    have e3 := Int.emod_lt_of_pos C.n (show 0 < C.d by omega)
    show (true && !_) = (true && (true && decide (cmpI (C.n * 1) (1000 * C.d) ≤ 0)))
    have key : cmpI (C.n * 1) (1000 * C.d) ≤ 0 ↔ C.n ≤ 1000 * C.d := by rw [Int.mul_one]; exact cmpI_le
    rw [Bool.true_and, Bool.true_and, Bool.true_and]
    by_cases h : C.n ≤ 1000 * C.d
    · rw [decide_eq_true (key.2 h)]
      have hq : ¬ 1000 < C.n / C.d := fun hq => by
        have := Int.mul_le_mul_of_nonneg_left (show 1001 ≤ C.n / C.d by omega) (show 0 ≤ C.d by omega)
        omega
      rw [decide_eq_false hq]
      by_cases h5 : C.n / C.d = 1000
      · rw [h5] at e1
        rw [decide_eq_true (show C.n % C.d = 0 by omega)]; simp
      · rw [decide_eq_false h5]; rfl
    · rw [decide_eq_false (fun h2 => h (key.1 h2))]
      by_cases hq : 1000 < C.n / C.d
      · rw [decide_eq_true hq]; rfl
      · have h5 : C.n / C.d = 1000 := by
          have h6 : ¬ C.n / C.d ≤ 999 := fun h6 => by
            have := Int.mul_le_mul_of_nonneg_left h6 (show 0 ≤ C.d by omega)
            omega
          omega
        rw [h5] at e1
        rw [h5, decide_eq_false (show ¬ C.n % C.d = 0 by omega)]; rfl
  · rw [decide_eq_false h0]; rfl
def flB0 (f : Fl) : Bool := decide (f.links.length ≠ 0) && (vldR f.dem && (decide (0 ≤ f.dem.n) && (f.bnd || decide (f.dem.n = 0))))
theorem tc_yes {l : List Int} {j k : Nat} {v : Int} (hj : j < k) (hk : k ≤ l.length) (h : l.getD j 0 = v) : (l.take k).contains v = true := by
  rw [List.contains_iff_mem, ← h, List.mem_take_iff_getElem]
  refine ⟨j, by omega, ?_⟩
  rw [List.getD_eq_getElem?_getD, List.getElem?_eq_getElem (by omega)]; rfl
theorem tc_no {l : List Int} {k : Nat} {v : Int} (h : ∀ j, j < k → l.getD j 0 ≠ v) : (l.take k).contains v = false := by
  rw [Bool.eq_false_iff]
  intro hc
  rw [List.contains_iff_mem, List.mem_take_iff_getElem] at hc
  obtain ⟨j, hj, e⟩ := hc
  refine h j (by omega) ?_
  rw [List.getD_eq_getElem?_getD, List.getElem?_eq_getElem (by omega)]; exact e
theorem notT {x : Bool} (h : (!x) = true) : x = false := by cases x <;> simp_all
theorem notF {x : Bool} (h : (!x) = false) : x = true := by cases x <;> simp_all
theorem flB0_c (l : Int) (v x b z : Bool) : (bif bif decide (l = 0) then true else !(v && x) then true else bif !b then !z else false) = !(!decide (l = 0) && (v && (x && (b || z)))) := by
  cases decide (l = 0) <;> cases v <;> cases x <;> cases b <;> cases z <;> rfl
theorem flB0_E (f : Fl) : flB0 f = (!decide ((f.links.length : Int) = 0) && (vldR f.dem && (decide (0 ≤ f.dem.n) && (f.bnd || decide (f.dem.n = 0))))) := by
  unfold flB0
  rw [← decide_not, decide_eq_decide.2 (show (f.links.length ≠ 0 ↔ ¬ (f.links.length : Int) = 0) by omega)]
theorem capB2_g (c : Rt) (h : (vldR c && decide (0 ≤ c.n)) = true) : (fullR c).d ≠ 0 ∧ In64 ((fullR c).n.tdiv (fullR c).d) := by
  simp only [Bool.and_eq_true, decide_eq_true_eq] at h
  obtain ⟨hv, h0⟩ := h
  rw [full_nrm hv]
  have hl := vld_low hv
  have hn : 0 ≤ (nrmR c).n := by unfold nrmR; split <;> exact h0
  refine ⟨by have := hl.1; omega, ?_⟩
  rw [Int.tdiv_eq_ediv_of_nonneg hn]
  have h1 := Int.ediv_le_self (nrmR c).d hn
  have h2 := Int.ediv_nonneg hn (show 0 ≤ (nrmR c).d by have := hl.1; omega)
  have h3 := hl.2.2.2.1
  unfold In64; omega
theorem capB2_c (a x y z : Bool) : (bif bif !a then true else x then true else bif y then !z else false) = !(a && !(x || (y && !z))) := by
  cases a <;> cases x <;> cases y <;> cases z <;> rfl
theorem flB_two (nc : Nat) (f : Fl) : flB nc f = (flB0 f && (List.range f.links.length).all (linkB nc f.links)) := by
  unfold flB flB0
  cases decide (f.links.length ≠ 0) <;> cases vldR f.dem <;> cases decide (0 ≤ f.dem.n) <;> cases f.bnd <;> cases decide (f.dem.n = 0) <;> cases (List.range f.links.length).all (linkB nc f.links) <;> rfl
theorem ev_refvalid (n : Nt) (h40 : n.caps.length ≤ 100000) (hf40 : n.fls.length ≤ 100000) : Ev Tryz.prog 33 [netV n] (.sc (.bool (vldN n))) := by
  unfold netV
  refine ev_fn Tryz.func33 comp33 (show 1 ≤ Tryz.f33.ntmps by decide) ?_; unfold cf33 rf33; simp only [↓EVP0, EVQ0, EVQ1, EVQ2, EVQ3, EVQ4, EVA, EVK, EVFD, ↓reduceIte, Nat.reduceEqDiff, Nat.reduceAdd, Nat.reduceSub, Nat.reduceMul, Nat.reduceLT, Nat.reduceLeDiff, reduceCtorEq, Int.reduceToNat, Int.reduceLT, Int.reduceLE, Int.reduceAdd, Int.reduceSub, Int.reduceMul, Int.reduceNeg, Int.reduceEq, Nat.reduceMod, forall_eq_or_imp, forall_eq, forall_const, EVY, true_imp_iff, implies_true, Int.cast_ofNat_Int, forall_eq']
  intro hc1
  refine ⟨fun hg => ?_, fun hg => ?_⟩
  · unfold vldN
    cases e1 : decide (n.caps.length ≤ 32)
    · rfl
    · cases e2 : decide (n.fls.length ≤ 32)
      · rfl
      · have e1 := of_decide_eq_true e1
        have e2 := of_decide_eq_true e2
        rw [decide_eq_false (show ¬ (32 : Int) < n.caps.length by omega), decide_eq_false (show ¬ (32 : Int) < n.fls.length by omega)] at hg
        simp at hg
  have e1 : n.caps.length ≤ 32 := by
    rcases Nat.lt_or_ge 32 n.caps.length with h | h
    · rw [decide_eq_true (show (32 : Int) < n.caps.length by omega)] at hg; simp at hg
    · exact h
  have e2 : n.fls.length ≤ 32 := by
    rcases Nat.lt_or_ge 32 n.fls.length with h | h
    · rw [decide_eq_true (show (32 : Int) < n.fls.length by omega)] at hg; simp at hg
    · exact h
  refine lwp_for (α := Unit) n.caps.length (fun i _ => ∀ j, j < i → capB (n.caps.getD j default) = true) (fun i _ => [(1, .ptr 0 0 0 0 0), (3, .sc (.int .i64 i))])
    (fun i _ => [(0, .box [.rsl 2 n.caps.length (rtsF n.caps), .rsl 4 n.fls.length (flsF n.fls)])]) () (fun j hj => absurd hj (Nat.not_lt_zero _)) ?_ (fun _ _ => Nat.zero_le _) ?_
  · simp only [↓EVP0, EVQ0, EVQ1, EVQ2, EVQ3, EVQ4, EVA, EVK, EVFD, ↓reduceIte, Nat.reduceEqDiff, Nat.reduceAdd, Nat.reduceSub, Nat.reduceMul, Nat.reduceLT, Nat.reduceLeDiff, reduceCtorEq, Int.reduceToNat, Int.reduceLT, Int.reduceLE, Int.reduceAdd, Int.reduceSub, Int.reduceMul, Int.reduceNeg, Int.reduceEq, Nat.reduceMod, forall_eq_or_imp, forall_eq, forall_const, EVY, true_imp_iff, implies_true, Int.cast_ofNat_Int, forall_eq']
  intro i _ hi hx
  unfold lb33_3
  simp only [↓EVP0, EVQ0, EVQ1, EVQ2, EVQ3, EVQ4, EVA, EVK, EVFD, ↓reduceIte, Nat.reduceEqDiff, Nat.reduceAdd, Nat.reduceSub, Nat.reduceMul, Nat.reduceLT, Nat.reduceLeDiff, reduceCtorEq, Int.reduceToNat, Int.reduceLT, Int.reduceLE, Int.reduceAdd, Int.reduceSub, Int.reduceMul, Int.reduceNeg, Int.reduceEq, Nat.reduceMod, forall_eq_or_imp, forall_eq, forall_const, EVY, true_imp_iff, implies_true, Int.cast_ofNat_Int, forall_eq']
  intro _
  refine ⟨fun hg2 => ?_, fun hg2 => ?_⟩
  · have hi2 : i < n.caps.length := by have := of_decide_eq_true hg2; omega
    have h1 := ev_full (n.caps.getD i default)
    have h2 := ev_fits33 (n.caps.getD i default)
    unfold ratV at h1 h2
    refine ⟨⟨by omega, by omega⟩, ?_⟩
    refine callK_ro (h1) ?_ ?_
    · simp only [↓EVP0, EVQ0, EVQ1, EVQ2, EVQ3, EVQ4, EVA, EVK, EVFD, ↓reduceIte, Nat.reduceEqDiff, Nat.reduceAdd, Nat.reduceSub, Nat.reduceMul, Nat.reduceLT, Nat.reduceLeDiff, reduceCtorEq, Int.reduceToNat, Int.reduceLT, Int.reduceLE, Int.reduceAdd, Int.reduceSub, Int.reduceMul, Int.reduceNeg, Int.reduceEq, Nat.reduceMod, forall_eq_or_imp, forall_eq, forall_const, EVY, true_imp_iff, implies_true, Int.cast_ofNat_Int, forall_eq']
    simp only [↓EVP0, EVQ0, EVQ1, EVQ2, EVQ3, EVQ4, EVA, EVK, EVFD, ↓reduceIte, Nat.reduceEqDiff, Nat.reduceAdd, Nat.reduceSub, Nat.reduceMul, Nat.reduceLT, Nat.reduceLeDiff, reduceCtorEq, Int.reduceToNat, Int.reduceLT, Int.reduceLE, Int.reduceAdd, Int.reduceSub, Int.reduceMul, Int.reduceNeg, Int.reduceEq, Nat.reduceMod, forall_eq_or_imp, forall_eq, forall_const, EVY, true_imp_iff, implies_true, Int.cast_ofNat_Int, forall_eq']
    refine ⟨⟨by omega, by omega⟩, ?_⟩
    refine callK_ro (h2) ?_ ?_
    · simp only [↓EVP0, EVQ0, EVQ1, EVQ2, EVQ3, EVQ4, EVA, EVK, EVFD, ↓reduceIte, Nat.reduceEqDiff, Nat.reduceAdd, Nat.reduceSub, Nat.reduceMul, Nat.reduceLT, Nat.reduceLeDiff, reduceCtorEq, Int.reduceToNat, Int.reduceLT, Int.reduceLE, Int.reduceAdd, Int.reduceSub, Int.reduceMul, Int.reduceNeg, Int.reduceEq, Nat.reduceMod, forall_eq_or_imp, forall_eq, forall_const, EVY, true_imp_iff, implies_true, Int.cast_ofNat_Int, forall_eq']
    simp only [↓EVP0, EVQ0, EVQ1, EVQ2, EVQ3, EVQ4, EVA, EVK, EVFD, ↓reduceIte, Nat.reduceEqDiff, Nat.reduceAdd, Nat.reduceSub, Nat.reduceMul, Nat.reduceLT, Nat.reduceLeDiff, reduceCtorEq, Int.reduceToNat, Int.reduceLT, Int.reduceLE, Int.reduceAdd, Int.reduceSub, Int.reduceMul, Int.reduceNeg, Int.reduceEq, Nat.reduceMod, forall_eq_or_imp, forall_eq, forall_const, EVY, true_imp_iff, implies_true, Int.cast_ofNat_Int, forall_eq']
    have hgd := capB2_g (n.caps.getD i default)
    have hcap := capB2_eq (n.caps.getD i default)
    have hno := fun h => cap_no (n := n) hi2 h
    rw [← hcap] at hno
    have hsn := fun h : capB (n.caps.getD i default) = true => snoc_all hx h
    rw [← hcap] at hsn
    unfold capB2 at hno hsn
    generalize n.caps.getD i default = c at *
    have hA : ∀ x : Bool, (!bif !(vldR c && decide (0 ≤ c.n)) then true else x) = true → (vldR c && decide (0 ≤ c.n)) = true := by
      intro x h
      cases e : (vldR c && decide (0 ≤ c.n))
      · rw [e] at h; simp at h
      · rfl
    refine ⟨⟨fun h => (hgd h).1, fun h => (hgd h).2⟩, ⟨fun h => (hgd (hA _ h)).1, fun h => (hgd (hA _ h)).2⟩, fun h => (hgd (hA _ (Bool.and_eq_true _ _ ▸ h).1)).1, ?_⟩
    rw [capB2_c]
    refine ⟨fun h => hno (notT h), fun h => ⟨by unfold In64; omega, hi2, (), hsn (notF h)⟩⟩
  have hi2 : i = n.caps.length := by have := of_decide_eq_false hg2; omega
  subst hi2
  refine lwp_for (α := Unit) n.fls.length (fun i _ => ∀ j, j < i → flB n.caps.length (n.fls.getD j default) = true) (fun i _ => [(1, .ptr 0 0 0 0 0), (5, .sc (.int .i64 i))])
    (fun i _ => [(0, .box [.rsl 2 n.caps.length (rtsF n.caps), .rsl 4 n.fls.length (flsF n.fls)])]) () (fun j hj => absurd hj (Nat.not_lt_zero _)) ?_ (fun _ _ => Nat.zero_le _) ?_
  · simp only [↓EVP0, EVQ0, EVQ1, EVQ2, EVQ3, EVQ4, EVA, EVK, EVFD, ↓reduceIte, Nat.reduceEqDiff, Nat.reduceAdd, Nat.reduceSub, Nat.reduceMul, Nat.reduceLT, Nat.reduceLeDiff, reduceCtorEq, Int.reduceToNat, Int.reduceLT, Int.reduceLE, Int.reduceAdd, Int.reduceSub, Int.reduceMul, Int.reduceNeg, Int.reduceEq, Nat.reduceMod, forall_eq_or_imp, forall_eq, forall_const, EVY, true_imp_iff, implies_true, Int.cast_ofNat_Int, forall_eq']
  intro i _ hi hy
  unfold lb33_2
  simp only [↓EVP0, EVQ0, EVQ1, EVQ2, EVQ3, EVQ4, EVA, EVK, EVFD, ↓reduceIte, Nat.reduceEqDiff, Nat.reduceAdd, Nat.reduceSub, Nat.reduceMul, Nat.reduceLT, Nat.reduceLeDiff, reduceCtorEq, Int.reduceToNat, Int.reduceLT, Int.reduceLE, Int.reduceAdd, Int.reduceSub, Int.reduceMul, Int.reduceNeg, Int.reduceEq, Nat.reduceMod, forall_eq_or_imp, forall_eq, forall_const, EVY, true_imp_iff, implies_true, Int.cast_ofNat_Int, forall_eq']
  intro _
  refine ⟨fun hg2 => ?_, fun hg2 => ?_⟩
  · have hi2 : i < n.fls.length := by have := of_decide_eq_true hg2; omega
    have h2 := ev_fits33 (n.fls.getD i default).dem
    have hno := fun h => fl_no (n := n) hi2 h
    have hsn := fun h : flB n.caps.length (n.fls.getD i default) = true => snoc_all hy h
    unfold ratV at h2
    refine ⟨⟨by omega, by omega⟩, ?_⟩
    intro _
    (refine lops_ge_imp ?_; simp only [↓EVP0, EVQ0, EVQ1, EVQ2, EVQ3, EVQ4, EVA, EVK, EVFD, ↓reduceIte, Nat.reduceEqDiff, Nat.reduceAdd, Nat.reduceSub, Nat.reduceMul, Nat.reduceLT, Nat.reduceLeDiff, reduceCtorEq, Int.reduceToNat, Int.reduceLT, Int.reduceLE, Int.reduceAdd, Int.reduceSub, Int.reduceMul, Int.reduceNeg, Int.reduceEq, Nat.reduceMod, forall_eq_or_imp, forall_eq, forall_const, EVY, true_imp_iff, implies_true, Int.cast_ofNat_Int, forall_eq'])
    refine gCallK_ro _ (fun _ => h2) (fun _ => ?_) ?_
    · simp only [↓EVP0, EVQ0, EVQ1, EVQ2, EVQ3, EVQ4, EVA, EVK, EVFD, ↓reduceIte, Nat.reduceEqDiff, Nat.reduceAdd, Nat.reduceSub, Nat.reduceMul, Nat.reduceLT, Nat.reduceLeDiff, reduceCtorEq, Int.reduceToNat, Int.reduceLT, Int.reduceLE, Int.reduceAdd, Int.reduceSub, Int.reduceMul, Int.reduceNeg, Int.reduceEq, Nat.reduceMod, forall_eq_or_imp, forall_eq, forall_const, EVY, true_imp_iff, implies_true, Int.cast_ofNat_Int, forall_eq']
    simp only [↓EVP0, EVQ0, EVQ1, EVQ2, EVQ3, EVQ4, EVA, EVK, EVFD, ↓reduceIte, Nat.reduceEqDiff, Nat.reduceAdd, Nat.reduceSub, Nat.reduceMul, Nat.reduceLT, Nat.reduceLeDiff, reduceCtorEq, Int.reduceToNat, Int.reduceLT, Int.reduceLE, Int.reduceAdd, Int.reduceSub, Int.reduceMul, Int.reduceNeg, Int.reduceEq, Nat.reduceMod, forall_eq_or_imp, forall_eq, forall_const, EVY, true_imp_iff, implies_true, Int.cast_ofNat_Int, forall_eq']
    rw [flB0_c, ← flB0_E]
    rw [flB_two] at hno hsn
    generalize n.fls.getD i default = f at *
    refine ⟨fun h => hno (by rw [notT h]; rfl), fun h => ?_⟩
    rw [notF h, Bool.true_and] at hno hsn
    refine lwp_for (α := Unit) f.links.length (fun k _ => ∀ j, j < k → linkB n.caps.length f.links j = true) (fun k _ => [(1, .ptr 0 0 0 0 0), (5, .sc (.int .i64 i)), (6, .ptr 1 0 0 0 0), (7, .sc (.int .i64 k))])
      (fun k _ => [(0, .box [.rsl 2 n.caps.length (rtsF n.caps), .rsl 4 n.fls.length (flsF n.fls)]), (0, .box [.rsl 1 f.links.length (intsF f.links), .sc (.bool f.bnd), .sc (.int .i64 f.dem.n), .sc (.int .i64 f.dem.d)])]) () (fun j hj => absurd hj (Nat.not_lt_zero _)) ?_ (fun _ _ => Nat.zero_le _) ?_
    · simp only [↓EVP0, EVQ0, EVQ1, EVQ2, EVQ3, EVQ4, EVA, EVK, EVFD, ↓reduceIte, Nat.reduceEqDiff, Nat.reduceAdd, Nat.reduceSub, Nat.reduceMul, Nat.reduceLT, Nat.reduceLeDiff, reduceCtorEq, Int.reduceToNat, Int.reduceLT, Int.reduceLE, Int.reduceAdd, Int.reduceSub, Int.reduceMul, Int.reduceNeg, Int.reduceEq, Nat.reduceMod, forall_eq_or_imp, forall_eq, forall_const, EVY, true_imp_iff, implies_true, Int.cast_ofNat_Int, forall_eq']
    intro k _ hk hz
    unfold lb33_1
    simp only [↓EVP0, EVQ0, EVQ1, EVQ2, EVQ3, EVQ4, EVA, EVK, EVFD, ↓reduceIte, Nat.reduceEqDiff, Nat.reduceAdd, Nat.reduceSub, Nat.reduceMul, Nat.reduceLT, Nat.reduceLeDiff, reduceCtorEq, Int.reduceToNat, Int.reduceLT, Int.reduceLE, Int.reduceAdd, Int.reduceSub, Int.reduceMul, Int.reduceNeg, Int.reduceEq, Nat.reduceMod, forall_eq_or_imp, forall_eq, forall_const, EVY, true_imp_iff, implies_true, Int.cast_ofNat_Int, forall_eq']
    intro hl1
    refine ⟨fun hg3 => ?_, fun hg3 => ?_⟩
    · have hk2 : k < f.links.length := by have := of_decide_eq_true hg3; omega
      have hB : linkB n.caps.length f.links k = (!(bif decide (f.links.getD k 0 < 0) then true else decide ((n.caps.length : Int) ≤ f.links.getD k 0)) && !(f.links.take k).contains (f.links.getD k 0)) := by
        have := linkB_cond n.caps.length f.links k
        cases e1 : (bif decide (f.links.getD k 0 < 0) then true else decide ((n.caps.length : Int) ≤ f.links.getD k 0)) <;> rw [e1] at this <;> simp at this ⊢ <;> simp [this]
      refine ⟨⟨by omega, by omega⟩, fun _ => ⟨by omega, by omega⟩, fun h4 => ?_, fun h4 => ?_⟩
      · exact hno (rng_no hk2 (by rw [hB, h4]; rfl))
      rw [h4, Bool.not_false, Bool.true_and] at hB
      refine lwp_for (α := Unit) k (fun j _ => ∀ m, m < j → f.links.getD m 0 ≠ f.links.getD k 0) (fun j _ => [(1, .ptr 0 0 0 0 0), (5, .sc (.int .i64 i)), (6, .ptr 1 0 0 0 0), (7, .sc (.int .i64 k)), (8, .sc (.int .i64 j))])
        (fun _ _ => [(0, .box [.rsl 2 n.caps.length (rtsF n.caps), .rsl 4 n.fls.length (flsF n.fls)]), (0, .box [.rsl 1 f.links.length (intsF f.links), .sc (.bool f.bnd), .sc (.int .i64 f.dem.n), .sc (.int .i64 f.dem.d)])]) () (fun j hj => absurd hj (Nat.not_lt_zero _)) ?_ (fun _ _ => Nat.zero_le _) ?_
      · simp only [↓EVP0, EVQ0, EVQ1, EVQ2, EVQ3, EVQ4, EVA, EVK, EVFD, ↓reduceIte, Nat.reduceEqDiff, Nat.reduceAdd, Nat.reduceSub, Nat.reduceMul, Nat.reduceLT, Nat.reduceLeDiff, reduceCtorEq, Int.reduceToNat, Int.reduceLT, Int.reduceLE, Int.reduceAdd, Int.reduceSub, Int.reduceMul, Int.reduceNeg, Int.reduceEq, Nat.reduceMod, forall_eq_or_imp, forall_eq, forall_const, EVY, true_imp_iff, implies_true, Int.cast_ofNat_Int, forall_eq']
      intro j _ hj hw
      unfold lb33_0
      simp only [↓EVP0, EVQ0, EVQ1, EVQ2, EVQ3, EVQ4, EVA, EVK, EVFD, ↓reduceIte, Nat.reduceEqDiff, Nat.reduceAdd, Nat.reduceSub, Nat.reduceMul, Nat.reduceLT, Nat.reduceLeDiff, reduceCtorEq, Int.reduceToNat, Int.reduceLT, Int.reduceLE, Int.reduceAdd, Int.reduceSub, Int.reduceMul, Int.reduceNeg, Int.reduceEq, Nat.reduceMod, forall_eq_or_imp, forall_eq, forall_const, EVY, true_imp_iff, implies_true, Int.cast_ofNat_Int, forall_eq']
      refine ⟨fun hg5 => ?_, fun hg5 => ?_⟩
      · have hj2 : j < k := by have := of_decide_eq_true hg5; omega
        refine ⟨⟨by omega, by omega⟩, ⟨by omega, by omega⟩, fun h6 => ?_, fun h6 => ⟨by unfold In64; omega, hj2, (), snoc_all hw (of_decide_eq_false h6)⟩⟩
        exact hno (rng_no hk2 (by rw [hB, tc_yes hj2 (by omega) (of_decide_eq_true h6)]; rfl))
      · have hj2 : j = k := by have := of_decide_eq_false hg5; omega
        subst hj2
        exact ⟨by unfold In64; omega, hk2, (), snoc_all hz (by rw [hB, tc_no hw]; rfl)⟩
    · have hk2 : k = f.links.length := by have := of_decide_eq_false hg3; omega
      subst hk2
      exact ⟨by unfold In64; omega, hi2, (), hsn (rng_yes hz)⟩
  have hi2 : i = n.fls.length := by have := of_decide_eq_false hg2; omega
  subst hi2
  unfold vldN
  rw [all_yes hx, all_yes hy, decide_eq_true e1, decide_eq_true e2]; rfl
end Go.Proofs.YtdfiicpikcdokaaGreatDoor
