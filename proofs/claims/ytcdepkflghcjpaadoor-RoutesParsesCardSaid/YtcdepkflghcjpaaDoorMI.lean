/- Texts: strconv.Atoi, strings.Cut, strings.Split, where the world's variables are as listed; Texts in plain terms: cutting and splitting at a byte; numbers of a table; Chapter 19: reading a number, the first line, a row; Chapter 19: lists of numbers as a table; Chapter 19: reading a table; Chapter 19: when two tables are the same; Chapter 19: the text of any table; Chapter 19: numbers in decimal, by the reference; Chapter 19: which tables have a text, and that text, by the reference; Chapter 19: the text of a table is read as the table. Conditions: none. -/
import Derived.Test.YtcdepkflghcjpaaDoorMH
namespace Go.Proofs.YtcdepkflghcjpaaDoor
set_option linter.unusedSimpArgs false
set_option linter.unusedVariables false
open Go.RowKit
set_option maxRecDepth 20000

theorem below_drewN (w : World) (n : Nat) : Below w.heap.size w (w.drewN n) := ⟨rfl, rfl, rfl, Nat.le_refl _, fun _ _ => rfl⟩
theorem ro_lt {R : RO} {w : World} (hR : ∀ b o, R b = some o → w.heap[b]? = some o) {b : Nat} {o : Obj} (h : R b = some o) : b < w.heap.size := by
  have h1 := hR b o h
  rcases Nat.lt_or_ge b w.heap.size with h | h
  · exact h
  · rw [Array.getElem?_eq_none h] at h1; simp at h1
theorem ev_cutS (s sep : ByteArray) (hs : s.size < 4294967281) : Ev Tryd.prog 66 [.sc (.string s), .sc (.string sep)]
    (.tup [.sc (.string ⟨(Lib.cut s.data.toList sep.data.toList).1.toArray⟩), .sc (.string ⟨(Lib.cut s.data.toList sep.data.toList).2.1.toArray⟩), .sc (.bool (Lib.cut s.data.toList sep.data.toList).2.2)]) := by
  rintro R w ⟨vs⟩ hR hgl hs2 ha
  match vs, hs2 with
  | [v, u], _ =>
    have h0 : v = .string s := sc_inv (ha 0 _ rfl)
    have h1 : u = .string sep := sc_inv (ha 1 _ rfl)
    subst h0; subst h1
    obtain ⟨m, hm⟩ := (hgl w hR).2.1
    refine (Tryd.strings_Cut s sep m w hs hm).mono ?_
    rintro e w' ⟨rfl, n, rfl⟩
    refine ⟨_, R, rfl, fun _ _ h => h, fun _ _ => rfl, fun b q hb => hR b q hb, below_drewN _ _, .tup _ _ rfl fun i c hi => ?_⟩
    match i, hi with
    | 0, hi => simp at hi; subst hi; exact .sc _ rfl
    | 1, hi => simp at hi; subst hi; exact .sc _ rfl
    | 2, hi => simp at hi; subst hi; exact .sc _ rfl
    | i + 3, hi => simp at hi
theorem ev_splitS (s sep : ByteArray) (hs : s.size < 4294967281) (h1 : 1 ≤ sep.size) : Ev Tryd.prog 91 [.sc (.string s), .sc (.string sep)]
    (.rsl 1 (Lib.countB s sep + 1) (txsF (Lib.splitB sep 0 (Lib.countB s sep) s))) := by
  rintro R w ⟨vs⟩ hR hgl hs2 ha
  match vs, hs2 with
  | [v, u], _ =>
    have h0 : v = .string s := sc_inv (ha 0 _ rfl)
    have h2 : u = .string sep := sc_inv (ha 1 _ rfl)
    subst h0; subst h2
    obtain ⟨m, hm⟩ := (hgl w hR).2.1
    refine (Tryd.strings_Split s sep m w hs hm h1).mono ?_
    rintro e w' ⟨rfl, rfl⟩
    have hlen := Lib.splitB_all sep h1 0 (Lib.countB s sep) s rfl
    have hcnt := Lib.countB_le sep h1 s.size s (Nat.le_refl _)
    generalize Lib.splitB sep 0 (Lib.countB s sep) s = xs at *
    generalize Lib.countB s sep = k at *
    have hB : Below w.heap.size w (w.alloc (.cells (xs.map Value.string).toArray 9)) := by
      refine ⟨rfl, rfl, rfl, (by show w.heap.size ≤ (w.heap.push _).size; rw [Array.size_push]; omega), fun b hb => ?_⟩
      show (w.heap.push _)[b]? = _
      rw [Array.getElem?_push_lt hb, Array.getElem?_eq_getElem hb]
    have hnew : (w.alloc (.cells (xs.map Value.string).toArray 9)).heap[w.heap.size]? = some (.cells (xs.map Value.string).toArray 9 (0, 0)) := by
      show (w.heap.push _)[w.heap.size]? = _
      rw [Array.getElem?_push_size]
    refine ⟨_, fun b => if b = w.heap.size then some (.cells (xs.map Value.string).toArray 9 (0, 0)) else R b, rfl, fun b o hb => ?_, fun b hb => if_neg (by omega), fun b o hb => ?_, hB, ?_⟩
    · show (if b = w.heap.size then _ else R b) = some o
      rw [if_neg (by have := ro_lt hR hb; omega)]; exact hb
    · by_cases e : b = w.heap.size
      · subst e
        have hb2 := (if_pos rfl).symm.trans hb
        rw [hnew, hb2]
      · have hb := (if_neg e).symm.trans hb
        rw [hB.block b (ro_lt hR hb)]; exact hR b o hb
    · refine .rsl _ _ _ _ _ w.heap.size 0 (fun i _ => .string (xs.getD i ⟨#[]⟩)) (Nat.le_refl _) (by unfold maxLen; omega) (fun _ => rfl) (fun _ _ => rfl) (fun i j hi hj => ?_) (fun i j c hi hc => ?_) (fun _ _ _ _ => rfl)
      · obtain rfl : j = 0 := by omega
        unfold roCell
        simp only [if_true]
        rw [Nat.zero_add, Nat.mul_one, Nat.add_zero]
        simp only [List.getElem?_toArray, List.getElem?_map]
        rw [List.getElem?_eq_getElem (by omega), List.getD_eq_getElem?_getD, List.getElem?_eq_getElem (by omega)]; rfl
      · match j, hc with
        | 0, hc => simp [txsF] at hc; subst hc; exact .sc _ rfl
        | j + 1, hc => simp [txsF] at hc
def atoiN (l : List UInt8) : Int := match Lib.atoiAll l with
  | .ok v => v
  | .range => Lib.atoiSat l
  | _ => 0
def atoiB (l : List UInt8) : Bool := match Lib.atoiAll l with
  | .ok _ => true
  | _ => false
theorem ev_atoi (s : ByteArray) (hs : s.size ≤ 281474976710656) : Ev Tryd.prog 103 [.sc (.string s)] (.tup [.sc (.int .i64 (atoiN s.data.toList)), .ifc (atoiB s.data.toList)]) := by
  rintro R w ⟨vs⟩ hR hgl hs2 ha
  match vs, hs2 with
  | [v], _ =>
    have h0 : v = .string s := sc_inv (ha 0 _ rfl)
    subst h0
    obtain ⟨_, _, ⟨e1, hv1, he1⟩, ⟨e2, hv2, he2⟩⟩ := hgl w hR
    unfold atoiN atoiB
    cases h : Lib.atoiAll s.data.toList with
    | ok v =>
      refine (Tryd.strconv_Atoi_ok s (by omega) v h w).mono ?_
      rintro e w' ⟨rfl, hw⟩
      have hB : Below w.heap.size w w' := by
        rcases hw with rfl | ⟨t, rfl⟩
        · exact Below.refl _ _
        · exact Lib.bytesWorld_below _ _ _
      refine ⟨_, R, rfl, fun _ _ h => h, fun _ _ => rfl, fun b q hb => by rw [hB.block b (ro_lt hR hb)]; exact hR b q hb, hB, .tup _ _ rfl fun i c hi => ?_⟩
      match i, hi with
      | 0, hi => simp at hi; subst hi; exact .sc _ rfl
      | 1, hi => simp at hi; subst hi; exact .ifc _ _ rfl
      | i + 2, hi => simp at hi
    | range =>
      refine (Tryd.strconv_Atoi_range s hs h e2 w hv2 he2).mono ?_
      rintro e w' ⟨N, rfl, _, _, hB⟩
      refine ⟨_, R, rfl, fun _ _ h => h, fun _ _ => rfl, fun b q hb => by rw [hB.block b (ro_lt hR hb)]; exact hR b q hb, hB, .tup _ _ rfl fun i c hi => ?_⟩
      match i, hi with
      | 0, hi => simp at hi; subst hi; exact .sc _ rfl
      | 1, hi => simp at hi; subst hi; exact .ifc _ _ rfl
      | i + 2, hi => simp at hi
    | _ =>
      refine (Tryd.strconv_Atoi_syntax s hs h e1 w hv1 he1).mono ?_
      rintro e w' ⟨N, rfl, _, _, hB⟩
      refine ⟨_, R, rfl, fun _ _ h => h, fun _ _ => rfl, fun b q hb => by rw [hB.block b (ro_lt hR hb)]; exact hR b q hb, hB, .tup _ _ rfl fun i c hi => ?_⟩
      match i, hi with
      | 0, hi => simp at hi; subst hi; exact .sc _ rfl
      | 1, hi => simp at hi; subst hi; exact .ifc _ _ rfl
      | i + 2, hi => simp at hi
end Go.Proofs.YtcdepkflghcjpaaDoor
namespace Go.Proofs.YtcdepkflghcjpaaDoor
set_option linter.unusedSimpArgs false
set_option linter.unusedVariables false
open Go.RowKit
set_option maxRecDepth 20000

abbrev By := List UInt8
def strB (l : By) : ByteArray := ⟨l.toArray⟩
theorem strB_data (l : By) : (strB l).data.toList = l := by simp [strB]
theorem strB_size (l : By) : (strB l).size = l.length := by simp [strB, ByteArray.size]
theorem strB_inj {a b : By} (h : strB a = strB b) : a = b := by rw [← strB_data a, h, strB_data]
theorem strB_of (s : ByteArray) : strB s.data.toList = s := by cases s; simp [strB]
def cutE (c : UInt8) : By → By × By × Bool
  | [] => ([], [], false)
  | b :: r => if b = c then ([], r, true) else (b :: (cutE c r).1, (cutE c r).2.1, (cutE c r).2.2)
def splE (c : UInt8) : By → List By
  | [] => [[]]
  | b :: r => if b = c then [] :: splE c r else match splE c r with
    | [] => [[b]]
    | w :: ws => (b :: w) :: ws
theorem splE_ne (c : UInt8) : ∀ l : By, splE c l ≠ []
  | [] => by simp [splE]
  | b :: r => by
    unfold splE
    split
    · simp
    · split <;> simp
theorem idx_hit {c : UInt8} {r : By} : Lib.index (c :: r) [c] = 0 := by
  rw [Lib.index_one]; unfold Lib.indexByte; simp
theorem idx_miss {c b : UInt8} {r : By} (h : b ≠ c) : Lib.index (b :: r) [c] = if Lib.index r [c] = -1 then -1 else Lib.index r [c] + 1 := by
  rw [Lib.index_one, Lib.index_one]
  show (if (b == c) = true then (0 : Int) else if (Lib.indexByte r c == -1) = true then -1 else Lib.indexByte r c + 1) = _
  simp [h]
theorem idx_cut (c : UInt8) : ∀ l : By, ((cutE c l).2.2 = false ∧ Lib.index l [c] = -1 ∧ (cutE c l).1 = l ∧ (cutE c l).2.1 = []) ∨ ∃ i : Nat, (cutE c l).2.2 = true ∧ Lib.index l [c] = i ∧ i < l.length ∧ (cutE c l).1 = l.take i ∧ (cutE c l).2.1 = l.drop (i + 1)
  | [] => .inl ⟨rfl, rfl, rfl, rfl⟩
  | b :: r => by
    by_cases h : b = c
    · subst h
      refine .inr ⟨0, ?_, idx_hit, by simp, ?_, ?_⟩ <;> unfold cutE <;> rw [if_pos rfl] <;> rfl
    · have e : cutE c (b :: r) = (b :: (cutE c r).1, (cutE c r).2.1, (cutE c r).2.2) := by
        show (if b = c then _ else _) = _
        rw [if_neg h]
      rw [e, idx_miss h]
      rcases idx_cut c r with ⟨h1, h2, h3, h4⟩ | ⟨i, h1, h2, h3, h4, h5⟩
      · refine .inl ⟨h1, by rw [if_pos h2], by simp only; rw [h3], h4⟩
      · refine .inr ⟨i + 1, h1, by rw [if_neg (by omega), h2]; omega, by simp; omega, by simp only; rw [h4]; rfl, by simp only; rw [h5]; rfl⟩
theorem lib_cut (c : UInt8) (l : By) : Lib.cut l [c] = cutE c l := by
  unfold Lib.cut
  rcases idx_cut c l with ⟨h1, h2, h3, h4⟩ | ⟨i, h1, h2, h3, h4, h5⟩
  · rw [if_neg (by omega)]
    conv => rhs; rw [← Prod.eta (cutE c l), ← Prod.eta (cutE c l).2]
    rw [h1, h3, h4]
  · rw [if_pos (by omega), h2]
    conv => rhs; rw [← Prod.eta (cutE c l), ← Prod.eta (cutE c l).2]
    rw [h1, h4, h5]; rfl
theorem spl_cut (c : UInt8) : ∀ l : By, splE c l = if (cutE c l).2.2 = true then (cutE c l).1 :: splE c (cutE c l).2.1 else [l]
  | [] => rfl
  | b :: r => by
    by_cases h : b = c
    · subst h
      show (if b = b then _ else _) = _
      rw [if_pos rfl]
      have e : cutE b (b :: r) = ([], r, true) := by
        show (if b = b then _ else _) = _
        rw [if_pos rfl]
      rw [e]; rfl
    · have e : cutE c (b :: r) = (b :: (cutE c r).1, (cutE c r).2.1, (cutE c r).2.2) := by
        show (if b = c then _ else _) = _
        rw [if_neg h]
      have e2 : splE c (b :: r) = match splE c r with
        | [] => [[b]]
        | w :: ws => (b :: w) :: ws := by
        show (if b = c then _ else _) = _
        rw [if_neg h]
      rw [e, e2, spl_cut c r]
      by_cases q : (cutE c r).2.2 = true
      · rw [if_pos q, if_pos q]
      · rw [if_neg q, if_neg q]
theorem lib_split (c : UInt8) : ∀ (k : Nat) (s : ByteArray), Lib.countB s (strB [c]) = k → Lib.splitB (strB [c]) 0 k s = (splE c s.data.toList).map strB := by
  intro k
  induction k with
  | zero =>
    intro s hk
    have h0 : (cutE c s.data.toList).2.2 = false := by
      rcases idx_cut c s.data.toList with ⟨h1, _⟩ | ⟨i, h1, h2, h3, _⟩
      · exact h1
      · have := Lib.countB_hit s (strB [c]) i (by rw [strB_size]; simp) (by unfold Lib.indexB; rw [strB_data]; exact h2)
        omega
    rw [spl_cut, h0]
    show [s] = _
    simp only [Bool.false_eq_true, if_false, List.map_cons, List.map_nil]
    rw [strB_of]
  | succ k ih =>
    intro s hk
    rcases idx_cut c s.data.toList with ⟨h1, h2, _⟩ | ⟨i, h1, h2, h3, h4, h5⟩
    · have := Lib.countB_miss s (strB [c]) (by unfold Lib.indexB; rw [strB_data]; exact h2)
      omega
    · have hi : Lib.indexB s (strB [c]) = i := by unfold Lib.indexB; rw [strB_data]; exact h2
      have hc := Lib.countB_hit s (strB [c]) i (by rw [strB_size]; simp) hi
      have hsz : (strB [c]).size = 1 := by rw [strB_size]; rfl
      have hx : (s.extract (i + (strB [c]).size) s.size).data.toList = s.data.toList.drop (i + 1) := by
        rw [Lib.extract_data, hsz]
        apply List.take_of_length_le
        rw [List.length_drop, Array.length_toList]
        exact Nat.le_refl _
      have hy : s.extract 0 (i + 0) = strB (s.data.toList.take i) := by
        rw [← strB_of (s.extract 0 (i + 0)), Lib.extract_data]; rfl
      rw [Lib.splitB_hit _ _ _ _ i hi, ih _ (by omega), hx, hy, spl_cut c s.data.toList, h1, if_pos rfl, List.map_cons, h4, h5]
theorem ev_cut (l : By) (c : UInt8) (hs : l.length < 4294967281) : Ev Tryd.prog 66 [.sc (.string (strB l)), .sc (.string (strB [c]))]
    (.tup [.sc (.string (strB (cutE c l).1)), .sc (.string (strB (cutE c l).2.1)), .sc (.bool (cutE c l).2.2)]) := by
  have h := ev_cutS (strB l) (strB [c]) (by rw [strB_size]; exact hs)
  rw [strB_data, strB_data, lib_cut] at h
  exact h
def wsV (ws : List By) : LV := .rsl 1 ws.length (txsF (ws.map strB))
theorem ev_split (l : By) (c : UInt8) (hs : l.length < 4294967281) : Ev Tryd.prog 91 [.sc (.string (strB l)), .sc (.string (strB [c]))] (wsV (splE c l)) := by
  have h := ev_splitS (strB l) (strB [c]) (by rw [strB_size]; exact hs) (by rw [strB_size]; simp)
  have h2 := lib_split c _ (strB l) rfl
  have h3 := Lib.splitB_all (strB [c]) (by rw [strB_size]; simp) 0 _ (strB l) rfl
  rw [h2] at h h3
  rw [strB_data] at h h3
  rw [List.length_map] at h3
  rw [← h3] at h
  exact h
end Go.Proofs.YtcdepkflghcjpaaDoor
namespace Go.Proofs.YtcdepkflghcjpaaDoor
set_option linter.unusedSimpArgs false
set_option linter.unusedVariables false
open Go.RowKit
set_option maxRecDepth 20000

theorem EVFW : (∀ (l : List Int) (i : Nat), intsF l i = [.sc (.int .i64 (l.getD i 0))]) ∧ (∀ (l : List ByteArray) (i : Nat), txsF l i = [.sc (.string (l.getD i ⟨#[]⟩))]) := ⟨fun _ _ => rfl, fun _ _ => rfl⟩
def rnE (s : By) (lo hi : Int) : Option Int := if atoiB s = true ∧ lo ≤ atoiN s ∧ atoiN s ≤ hi ∧ Lib.itoa (atoiN s) = s then some (atoiN s) else none
theorem atoi_small : ((List.range 34).all fun k => match Lib.atoiAll (Lib.itoa ((k : Int) - 2)) with
    | .ok v => v == (k : Int) - 2
    | _ => false) = true := by kernel_rfl
theorem atoi_itoa {k : Int} (h : -2 ≤ k ∧ k ≤ 31) : Lib.atoiAll (Lib.itoa k) = .ok k := by
  have h1 := List.all_eq_true.1 atoi_small (k + 2).toNat (List.mem_range.2 (by omega))
  rw [show (((k + 2).toNat : Nat) : Int) - 2 = k by omega] at h1
  split at h1
  · rename_i v hv
    rw [hv, beq_iff_eq.1 h1]
  · simp at h1
theorem rnE_some {s : By} {lo hi k : Int} (hb : -2 ≤ lo ∧ hi ≤ 31) : rnE s lo hi = some k ↔ lo ≤ k ∧ k ≤ hi ∧ s = Lib.itoa k := by
  unfold rnE
  constructor
  · intro h
    split at h
    · rename_i hc
      injection h with h
      rw [h] at hc
      exact ⟨hc.2.1, hc.2.2.1, hc.2.2.2.symm⟩
    · simp at h
  · rintro ⟨h1, h2, rfl⟩
    have ha := atoi_itoa (k := k) (by omega)
    have e1 : atoiB (Lib.itoa k) = true := by unfold atoiB; rw [ha]
    have e2 : atoiN (Lib.itoa k) = k := by unfold atoiN; rw [ha]
    rw [e1, e2, if_pos ⟨rfl, h1, h2, rfl⟩]
theorem ev_readNumber (s : By) (hs : s.length ≤ 100000) (lo hi : Int) (hb : -2 ≤ lo ∧ hi ≤ 31) : Ev Tryd.prog 92 [.sc (.string (strB s)), .sc (.int .i64 lo), .sc (.int .i64 hi)] (.tup [.sc (.int .i64 ((rnE s lo hi).getD 0)), .sc (.bool (rnE s lo hi).isSome)]) := by
  have h1 := ev_atoi (strB s) (by rw [strB_size]; omega)
  rw [strB_data] at h1
  have h2 := fun n hn => ev_itoaA n hn
  refine ev_fn Tryd.func92 comp92 (show 3 ≤ Tryd.f92.ntmps by decide) ?_; unfold cf92 rf92; simp only [↓EVP0, EVQ0, EVQ1, EVQ2, EVQ3, EVQ4, EVA, EVK, EVF,EVFW, ↓reduceIte, Nat.reduceEqDiff, Nat.reduceAdd, Nat.reduceSub, Nat.reduceMul, Nat.reduceLT, Nat.reduceLeDiff, reduceCtorEq, Int.reduceToNat, Int.reduceLT, Int.reduceLE, Int.reduceAdd, Int.reduceSub, Int.reduceMul, Int.reduceNeg, Int.reduceEq, Nat.reduceMod, forall_eq_or_imp, forall_eq, forall_const, cond_true, cond_false, decide_true, decide_false, true_imp_iff, implies_true, Int.cast_ofNat_Int, forall_eq']
  refine callK_ro (h1) ?_ ?_
  · simp only [↓EVP0, EVQ0, EVQ1, EVQ2, EVQ3, EVQ4, EVA, EVK, EVF,EVFW, ↓reduceIte, Nat.reduceEqDiff, Nat.reduceAdd, Nat.reduceSub, Nat.reduceMul, Nat.reduceLT, Nat.reduceLeDiff, reduceCtorEq, Int.reduceToNat, Int.reduceLT, Int.reduceLE, Int.reduceAdd, Int.reduceSub, Int.reduceMul, Int.reduceNeg, Int.reduceEq, Nat.reduceMod, forall_eq_or_imp, forall_eq, forall_const, cond_true, cond_false, decide_true, decide_false, true_imp_iff, implies_true, Int.cast_ofNat_Int, forall_eq']
  simp only [↓EVP0, EVQ0, EVQ1, EVQ2, EVQ3, EVQ4, EVA, EVK, EVF,EVFW, ↓reduceIte, Nat.reduceEqDiff, Nat.reduceAdd, Nat.reduceSub, Nat.reduceMul, Nat.reduceLT, Nat.reduceLeDiff, reduceCtorEq, Int.reduceToNat, Int.reduceLT, Int.reduceLE, Int.reduceAdd, Int.reduceSub, Int.reduceMul, Int.reduceNeg, Int.reduceEq, Nat.reduceMod, forall_eq_or_imp, forall_eq, forall_const, cond_true, cond_false, decide_true, decide_false, true_imp_iff, implies_true, Int.cast_ofNat_Int, forall_eq']
  (refine lops_ge_imp ?_; simp only [↓EVP0, EVQ0, EVQ1, EVQ2, EVQ3, EVQ4, EVA, EVK, EVF,EVFW, ↓reduceIte, Nat.reduceEqDiff, Nat.reduceAdd, Nat.reduceSub, Nat.reduceMul, Nat.reduceLT, Nat.reduceLeDiff, reduceCtorEq, Int.reduceToNat, Int.reduceLT, Int.reduceLE, Int.reduceAdd, Int.reduceSub, Int.reduceMul, Int.reduceNeg, Int.reduceEq, Nat.reduceMod, forall_eq_or_imp, forall_eq, forall_const, cond_true, cond_false, decide_true, decide_false, true_imp_iff, implies_true, Int.cast_ofNat_Int, forall_eq'])
  refine gCallK_ro _ (fun hg => h2 (atoiN s) ?_) (fun _ => ?_) ?_
  · have hg1 : atoiB s = true ∧ ¬ atoiN s < lo ∧ ¬ hi < atoiN s := by
      revert hg
      cases atoiB s <;> by_cases a : atoiN s < lo <;> by_cases b : hi < atoiN s <;> simp [a, b]
    unfold In64; omega
  · simp only [↓EVP0, EVQ0, EVQ1, EVQ2, EVQ3, EVQ4, EVA, EVK, EVF,EVFW, ↓reduceIte, Nat.reduceEqDiff, Nat.reduceAdd, Nat.reduceSub, Nat.reduceMul, Nat.reduceLT, Nat.reduceLeDiff, reduceCtorEq, Int.reduceToNat, Int.reduceLT, Int.reduceLE, Int.reduceAdd, Int.reduceSub, Int.reduceMul, Int.reduceNeg, Int.reduceEq, Nat.reduceMod, forall_eq_or_imp, forall_eq, forall_const, cond_true, cond_false, decide_true, decide_false, true_imp_iff, implies_true, Int.cast_ofNat_Int, forall_eq']
  simp only [↓EVP0, EVQ0, EVQ1, EVQ2, EVQ3, EVQ4, EVA, EVK, EVF,EVFW, ↓reduceIte, Nat.reduceEqDiff, Nat.reduceAdd, Nat.reduceSub, Nat.reduceMul, Nat.reduceLT, Nat.reduceLeDiff, reduceCtorEq, Int.reduceToNat, Int.reduceLT, Int.reduceLE, Int.reduceAdd, Int.reduceSub, Int.reduceMul, Int.reduceNeg, Int.reduceEq, Nat.reduceMod, forall_eq_or_imp, forall_eq, forall_const, cond_true, cond_false, decide_true, decide_false, true_imp_iff, implies_true, Int.cast_ofNat_Int, forall_eq']
  have e : (bif bif bif true ^^ atoiB s then true else decide (atoiN s < lo) then true else decide (hi < atoiN s) then true
    else !decide (({ data := (Lib.itoa (atoiN s)).toArray } : ByteArray) = strB s)) = !(rnE s lo hi).isSome := by
    have e2 : decide (({ data := (Lib.itoa (atoiN s)).toArray } : ByteArray) = strB s) = decide (Lib.itoa (atoiN s) = s) := decide_eq_decide.2 ⟨fun h => strB_inj h, fun h => by rw [h]; rfl⟩
    rw [e2]
    unfold rnE
    by_cases a : atoiN s < lo
    · rw [decide_eq_true a, if_neg (by omega)]; cases atoiB s <;> rfl
    · by_cases b : hi < atoiN s
      · rw [decide_eq_true b, if_neg (by omega)]; cases atoiB s <;> simp
      · rw [decide_eq_false a, decide_eq_false b]
        by_cases c : Lib.itoa (atoiN s) = s
        · rw [decide_eq_true c]
          cases d : atoiB s
          · rw [if_neg (by simp)]; rfl
          · rw [if_pos ⟨rfl, by omega, by omega, c⟩]; rfl
        · rw [decide_eq_false c, if_neg (fun h => c h.2.2.2)]; cases atoiB s <;> rfl
  rw [e]
  have e3 : (rnE s lo hi).isSome = true → atoiN s = (rnE s lo hi).getD 0 := by
    unfold rnE
    split <;> simp
  have e4 : (rnE s lo hi).isSome = false → 0 = (rnE s lo hi).getD 0 := by
    cases rnE s lo hi <;> simp
  cases h : (rnE s lo hi).isSome
  · exact ⟨fun _ => ⟨e4 h, rfl⟩, fun h => by simp at h⟩
  · exact ⟨fun h => by simp at h, fun _ => ⟨e3 h, rfl⟩⟩
def wRts : By := [114, 111, 117, 116, 101, 115]
def rsE (l : By) : Option Int := match splE 32 l with
  | [a, b] => if a = wRts then rnE b 0 16 else none
  | _ => none
theorem splE_le (c : UInt8) : ∀ l : By, ∀ w, w ∈ splE c l → w.length ≤ l.length
  | [], w, h => by simp [splE] at h; subst h; exact Nat.le_refl _
  | b :: r, w, h => by
    unfold splE at h
    have ih := splE_le c r
    split at h
    · rcases List.mem_cons.1 h with rfl | h
      · simp
      · have := ih w h; simp; omega
    · split at h
      · simp at h; subst h; simp
      · rename_i w0 ws he
        rcases List.mem_cons.1 h with rfl | h
        · have := ih w0 (by rw [he]; simp)
          simp; omega
        · have := ih w (by rw [he]; simp [h])
          simp; omega
theorem ev_readSize (l : By) (hs : l.length ≤ 100000) : Ev Tryd.prog 67 [.sc (.string (strB l))] (.tup [.sc (.int .i64 ((rsE l).getD 0)), .sc (.bool (rsE l).isSome)]) := by
  have h1 := ev_split l 32 (by omega)
  have h2 := fun s hs => ev_readNumber s hs 0 16 (by omega)
  unfold wsV at h1
  refine ev_fn Tryd.func67 comp67 (show 1 ≤ Tryd.f67.ntmps by decide) ?_; unfold cf67 rf67; simp only [↓EVP0, EVQ0, EVQ1, EVQ2, EVQ3, EVQ4, EVA, EVK, EVF,EVFW, ↓reduceIte, Nat.reduceEqDiff, Nat.reduceAdd, Nat.reduceSub, Nat.reduceMul, Nat.reduceLT, Nat.reduceLeDiff, reduceCtorEq, Int.reduceToNat, Int.reduceLT, Int.reduceLE, Int.reduceAdd, Int.reduceSub, Int.reduceMul, Int.reduceNeg, Int.reduceEq, Nat.reduceMod, forall_eq_or_imp, forall_eq, forall_const, cond_true, cond_false, decide_true, decide_false, true_imp_iff, implies_true, Int.cast_ofNat_Int, forall_eq']
  refine callK_ro (h1) ?_ ?_
  · simp only [↓EVP0, EVQ0, EVQ1, EVQ2, EVQ3, EVQ4, EVA, EVK, EVF,EVFW, ↓reduceIte, Nat.reduceEqDiff, Nat.reduceAdd, Nat.reduceSub, Nat.reduceMul, Nat.reduceLT, Nat.reduceLeDiff, reduceCtorEq, Int.reduceToNat, Int.reduceLT, Int.reduceLE, Int.reduceAdd, Int.reduceSub, Int.reduceMul, Int.reduceNeg, Int.reduceEq, Nat.reduceMod, forall_eq_or_imp, forall_eq, forall_const, cond_true, cond_false, decide_true, decide_false, true_imp_iff, implies_true, Int.cast_ofNat_Int, forall_eq']
  simp only [↓EVP0, EVQ0, EVQ1, EVQ2, EVQ3, EVQ4, EVA, EVK, EVF,EVFW, ↓reduceIte, Nat.reduceEqDiff, Nat.reduceAdd, Nat.reduceSub, Nat.reduceMul, Nat.reduceLT, Nat.reduceLeDiff, reduceCtorEq, Int.reduceToNat, Int.reduceLT, Int.reduceLE, Int.reduceAdd, Int.reduceSub, Int.reduceMul, Int.reduceNeg, Int.reduceEq, Nat.reduceMod, forall_eq_or_imp, forall_eq, forall_const, cond_true, cond_false, decide_true, decide_false, true_imp_iff, implies_true, Int.cast_ofNat_Int, forall_eq']
  intro _
  have hw := splE_le 32 l
  unfold rsE
  generalize splE 32 l = ws at *
  match ws, hw with
  | [], _ => exact ⟨fun h => by simp at h, fun _ => ⟨rfl, rfl⟩, fun h => by simp at h⟩
  | [a], _ => exact ⟨fun h => by simp at h, fun _ => ⟨rfl, rfl⟩, fun h => by simp at h⟩
  | a :: b :: c :: r, _ =>
    have : ¬ (((a :: b :: c :: r).length : Nat) : Int) = 2 := by simp only [List.length_cons]; omega
    rw [decide_eq_false this]
    exact ⟨fun h => by simp at h, fun _ => ⟨rfl, rfl⟩, fun h => by simp at h⟩
  | [a, b], hw =>
    have hb := hw b (by simp)
    have h3 := h2 b (by omega)
    simp only [List.map_cons, List.map_nil, List.getD_cons_zero, List.getD_cons_succ, List.length_cons, List.length_nil]
    refine ⟨fun _ => by omega, fun hg => ?_, fun hg => ⟨by omega, ?_⟩⟩
    · have : ¬ a = wRts := by
        intro h
        subst h
        simp [strB, wRts] at hg
      rw [if_neg this]; exact ⟨rfl, rfl⟩
    · have : a = wRts := by
        by_cases h : strB a = ⟨#[114, 111, 117, 116, 101, 115]⟩
        · exact strB_inj (b := wRts) h
        · rw [decide_eq_false h] at hg; simp at hg
      refine callK_ro (h3) ?_ ?_
      · simp only [↓EVP0, EVQ0, EVQ1, EVQ2, EVQ3, EVQ4, EVA, EVK, EVF,EVFW, ↓reduceIte, Nat.reduceEqDiff, Nat.reduceAdd, Nat.reduceSub, Nat.reduceMul, Nat.reduceLT, Nat.reduceLeDiff, reduceCtorEq, Int.reduceToNat, Int.reduceLT, Int.reduceLE, Int.reduceAdd, Int.reduceSub, Int.reduceMul, Int.reduceNeg, Int.reduceEq, Nat.reduceMod, forall_eq_or_imp, forall_eq, forall_const, cond_true, cond_false, decide_true, decide_false, true_imp_iff, implies_true, Int.cast_ofNat_Int, forall_eq']
      simp only [↓EVP0, EVQ0, EVQ1, EVQ2, EVQ3, EVQ4, EVA, EVK, EVF,EVFW, ↓reduceIte, Nat.reduceEqDiff, Nat.reduceAdd, Nat.reduceSub, Nat.reduceMul, Nat.reduceLT, Nat.reduceLeDiff, reduceCtorEq, Int.reduceToNat, Int.reduceLT, Int.reduceLE, Int.reduceAdd, Int.reduceSub, Int.reduceMul, Int.reduceNeg, Int.reduceEq, Nat.reduceMod, forall_eq_or_imp, forall_eq, forall_const, cond_true, cond_false, decide_true, decide_false, true_imp_iff, implies_true, Int.cast_ofNat_Int, forall_eq']
      rw [if_pos this]
      exact ⟨rfl, rfl⟩
def rwE (l : By) (n : Nat) : Option (List Int) := if (splE 32 l).length = n then (splE 32 l).mapM fun w => rnE w (-2) 31 else none
theorem mapM_none {α β : Type} (d : α) {f : α → Option β} : ∀ {l : List α} {i : Nat}, i < l.length → f (l.getD i d) = none → l.mapM f = none
  | a :: r, 0, _, h => by
    rw [List.mapM_cons]
    rw [List.getD_cons_zero] at h
    rw [h]; rfl
  | a :: r, i + 1, hi, h => by
    rw [List.getD_cons_succ] at h
    rw [List.mapM_cons, mapM_none d (by simpa using hi) h]
    cases f a <;> rfl
theorem mapM_some {α β : Type} (d : α) (e : β) {f : α → Option β} : ∀ {l : List α} {xs : List β}, xs.length = l.length → (∀ j, j < l.length → f (l.getD j d) = some (xs.getD j e)) → l.mapM f = some xs
  | [], [], _, _ => rfl
  | [], _ :: _, h, _ => by simp at h
  | _ :: _, [], h, _ => by simp at h
  | a :: r, x :: xs, hl, h => by
    have h0 := h 0 (by simp)
    rw [List.getD_cons_zero, List.getD_cons_zero] at h0
    have h1 := mapM_some d e (l := r) (xs := xs) (by simpa using hl) (fun j hj => by
      have := h (j + 1) (by simp; omega)
      rw [List.getD_cons_succ, List.getD_cons_succ] at this
      exact this)
    rw [List.mapM_cons, h0, h1]; rfl
theorem map_getD_str (ws : List By) (i : Nat) : (ws.map strB).getD i ⟨#[]⟩ = strB (ws.getD i []) := by
  rw [List.getD_eq_getElem?_getD, List.getD_eq_getElem?_getD, List.getElem?_map]
  cases ws[i]? <;> rfl
theorem ev_readRow (l : By) (hs : l.length ≤ 100000) (n : Nat) (hn : n ≤ 16) : Ev Tryd.prog 68 [.sc (.string (strB l)), .sc (.int .i64 n)] (.tup [intsV ((rwE l n).getD []), .sc (.bool (rwE l n).isSome)]) := by
  have h1 := ev_split l 32 (by omega)
  have h2 := fun s hs => ev_readNumber s hs (-2) 31 (by omega)
  unfold wsV at h1
  unfold intsV
  refine ev_fn Tryd.func68 comp68 (show 2 ≤ Tryd.f68.ntmps by decide) ?_; unfold cf68 rf68; simp only [↓EVP0, EVQ0, EVQ1, EVQ2, EVQ3, EVQ4, EVA, EVK, EVF,EVFW, ↓reduceIte, Nat.reduceEqDiff, Nat.reduceAdd, Nat.reduceSub, Nat.reduceMul, Nat.reduceLT, Nat.reduceLeDiff, reduceCtorEq, Int.reduceToNat, Int.reduceLT, Int.reduceLE, Int.reduceAdd, Int.reduceSub, Int.reduceMul, Int.reduceNeg, Int.reduceEq, Nat.reduceMod, forall_eq_or_imp, forall_eq, forall_const, cond_true, cond_false, decide_true, decide_false, true_imp_iff, implies_true, Int.cast_ofNat_Int, forall_eq']
  refine callK_ro (h1) ?_ ?_
  · simp only [↓EVP0, EVQ0, EVQ1, EVQ2, EVQ3, EVQ4, EVA, EVK, EVF,EVFW, ↓reduceIte, Nat.reduceEqDiff, Nat.reduceAdd, Nat.reduceSub, Nat.reduceMul, Nat.reduceLT, Nat.reduceLeDiff, reduceCtorEq, Int.reduceToNat, Int.reduceLT, Int.reduceLE, Int.reduceAdd, Int.reduceSub, Int.reduceMul, Int.reduceNeg, Int.reduceEq, Nat.reduceMod, forall_eq_or_imp, forall_eq, forall_const, cond_true, cond_false, decide_true, decide_false, true_imp_iff, implies_true, Int.cast_ofNat_Int, forall_eq']
  simp only [↓EVP0, EVQ0, EVQ1, EVQ2, EVQ3, EVQ4, EVA, EVK, EVF,EVFW, ↓reduceIte, Nat.reduceEqDiff, Nat.reduceAdd, Nat.reduceSub, Nat.reduceMul, Nat.reduceLT, Nat.reduceLeDiff, reduceCtorEq, Int.reduceToNat, Int.reduceLT, Int.reduceLE, Int.reduceAdd, Int.reduceSub, Int.reduceMul, Int.reduceNeg, Int.reduceEq, Nat.reduceMod, forall_eq_or_imp, forall_eq, forall_const, cond_true, cond_false, decide_true, decide_false, true_imp_iff, implies_true, Int.cast_ofNat_Int, forall_eq']
  intro _
  have hw := splE_le 32 l
  have hR : rwE l n = if (splE 32 l).length = n then (splE 32 l).mapM fun w => rnE w (-2) 31 else none := rfl
  generalize splE 32 l = ws at *
  generalize rwE l n = R at *
  refine ⟨fun hg => ?_, fun hg => ?_⟩
  · have : ¬ ws.length = n := fun h => by rw [decide_eq_true (show (ws.length : Int) = n by omega)] at hg; simp at hg
    rw [hR, if_neg this]; exact ⟨rfl, rfl⟩
  have hn2 : ws.length = n := by
    by_cases h : (ws.length : Int) = n
    · omega
    · rw [decide_eq_false h] at hg; simp at hg
  subst hn2
  rw [if_pos rfl] at hR
  refine ⟨by unfold mksC; omega, fun _ => ?_⟩
  refine lwp_for (α := List Int) ws.length (fun i xs => xs.length = ws.length ∧ ∀ j, j < i → rnE (ws.getD j []) (-2) 31 = some (xs.getD j 0)) (fun i xs => [(7, .sl 0 0 1 0 ws.length), (20, .rsl 1 ws.length (txsF (ws.map strB))), (21, .sc (.int .i64 ws.length)), (22, .sc (.int .i64 i))])
    (fun _ xs => [(0, .ints xs)]) (List.replicate ws.length 0) ⟨by simp, fun j hj => by omega⟩ ?_ (fun _ _ => Nat.zero_le _) ?_
  · simp only [↓EVP0, EVQ0, EVQ1, EVQ2, EVQ3, EVQ4, EVA, EVK, EVF,EVFW, ↓reduceIte, Nat.reduceEqDiff, Nat.reduceAdd, Nat.reduceSub, Nat.reduceMul, Nat.reduceLT, Nat.reduceLeDiff, reduceCtorEq, Int.reduceToNat, Int.reduceLT, Int.reduceLE, Int.reduceAdd, Int.reduceSub, Int.reduceMul, Int.reduceNeg, Int.reduceEq, Nat.reduceMod, forall_eq_or_imp, forall_eq, forall_const, cond_true, cond_false, decide_true, decide_false, true_imp_iff, implies_true, Int.cast_ofNat_Int, forall_eq']
  rintro i xs hi ⟨hx1, hx2⟩
  unfold lb68_0
  simp only [↓EVP0, EVQ0, EVQ1, EVQ2, EVQ3, EVQ4, EVA, EVK, EVF,EVFW, ↓reduceIte, Nat.reduceEqDiff, Nat.reduceAdd, Nat.reduceSub, Nat.reduceMul, Nat.reduceLT, Nat.reduceLeDiff, reduceCtorEq, Int.reduceToNat, Int.reduceLT, Int.reduceLE, Int.reduceAdd, Int.reduceSub, Int.reduceMul, Int.reduceNeg, Int.reduceEq, Nat.reduceMod, forall_eq_or_imp, forall_eq, forall_const, cond_true, cond_false, decide_true, decide_false, true_imp_iff, implies_true, Int.cast_ofNat_Int, forall_eq']
  refine ⟨fun hg2 => ?_, fun hg2 => ?_⟩
  rotate_left
  · have hi2 : i = ws.length := by have := of_decide_eq_false hg2; omega
    have := mapM_some [] 0 (f := fun w => rnE w (-2) 31) (l := ws) (xs := xs) hx1 (fun j hj => hx2 j (by omega))
    rw [hR, this]
    exact ⟨⟨hx1, by omega, fun i _ => rfl⟩, rfl⟩
  have hi2 : i < ws.length := by have := of_decide_eq_true hg2; omega
  have h3 := h2 (ws.getD i []) (by have := hw _ (getD_mem [] hi2); omega)
  have hmn := mapM_none [] (f := fun w => rnE w (-2) 31) hi2
  rw [map_getD_str]
  generalize hrn : rnE (ws.getD i []) (-2) 31 = r at hmn h3 ⊢
  refine ⟨⟨by omega, by omega⟩, ?_⟩
  refine callK_ro (h3) ?_ ?_
  · simp only [↓EVP0, EVQ0, EVQ1, EVQ2, EVQ3, EVQ4, EVA, EVK, EVF,EVFW, ↓reduceIte, Nat.reduceEqDiff, Nat.reduceAdd, Nat.reduceSub, Nat.reduceMul, Nat.reduceLT, Nat.reduceLeDiff, reduceCtorEq, Int.reduceToNat, Int.reduceLT, Int.reduceLE, Int.reduceAdd, Int.reduceSub, Int.reduceMul, Int.reduceNeg, Int.reduceEq, Nat.reduceMod, forall_eq_or_imp, forall_eq, forall_const, cond_true, cond_false, decide_true, decide_false, true_imp_iff, implies_true, Int.cast_ofNat_Int, forall_eq']
  simp only [↓EVP0, EVQ0, EVQ1, EVQ2, EVQ3, EVQ4, EVA, EVK, EVF,EVFW, ↓reduceIte, Nat.reduceEqDiff, Nat.reduceAdd, Nat.reduceSub, Nat.reduceMul, Nat.reduceLT, Nat.reduceLeDiff, reduceCtorEq, Int.reduceToNat, Int.reduceLT, Int.reduceLE, Int.reduceAdd, Int.reduceSub, Int.reduceMul, Int.reduceNeg, Int.reduceEq, Nat.reduceMod, forall_eq_or_imp, forall_eq, forall_const, cond_true, cond_false, decide_true, decide_false, true_imp_iff, implies_true, Int.cast_ofNat_Int, forall_eq']
  cases r with
  | none =>
    rw [hR, hmn rfl]
    exact ⟨fun _ => ⟨rfl, rfl⟩, fun h => by simp at h⟩
  | some k =>
    refine ⟨fun h => by simp at h, fun _ => ⟨⟨by omega, by omega⟩, by omega, by unfold In64; omega, hi2, xs.set i k, ⟨by rw [List.length_set]; exact hx1, fun j hj => ?_⟩, rfl⟩⟩
    by_cases e : j = i
    · subst e
      have : (xs.set j k).getD j 0 = k := by rw [List.getD_eq_getElem?_getD, List.getElem?_set_self (by omega)]; rfl
      rw [hrn, this]
    · have : (xs.set i k).getD j 0 = xs.getD j 0 := by rw [List.getD_eq_getElem?_getD, List.getElem?_set_ne (fun h => e h.symm), ← List.getD_eq_getElem?_getD]
      rw [this]
      exact hx2 j (by omega)
end Go.Proofs.YtcdepkflghcjpaaDoor
namespace Go.Proofs.YtcdepkflghcjpaaDoor
set_option linter.unusedSimpArgs false
set_option linter.unusedVariables false
open Go.RowKit
set_option maxRecDepth 20000

abbrev Ls := List (List Int)
def tblE (l : Ls) : Tb := (List.range (l.length / 2)).map fun k => (l.getD (2 * k) [], l.getD (2 * k + 1) [])
theorem tblE_len (l : Ls) : (tblE l).length = l.length / 2 := by simp [tblE]
theorem tblE_get (l : Ls) {k : Nat} (h : k < l.length / 2) : (tblE l).getD k ([], []) = (l.getD (2 * k) [], l.getD (2 * k + 1) []) := by
  unfold tblE
  rw [List.getD_eq_getElem?_getD, List.getElem?_map, List.getElem?_range h]; rfl
end Go.Proofs.YtcdepkflghcjpaaDoor
namespace Go.Proofs.YtcdepkflghcjpaaDoor
set_option linter.unusedSimpArgs false
set_option linter.unusedVariables false
open Go.RowKit
set_option maxRecDepth 20000

def prsL (n : Nat) : Nat → Nat → By → List (List Int) → Tb × Int × Int
  | 0, _, rest, acc => if rest = [] then (tblE acc, 0, 0) else ([], 2 + 2 * (n : Int), 3)
  | k + 1, i, rest, acc => match rwE (cutE 10 rest).1 n with
    | none => ([], 2 + (i : Int), 3)
    | some r => if (cutE 10 rest).2.2 = true then prsL n k (i + 1) (cutE 10 rest).2.1 (acc ++ [r]) else ([], 2 + (i : Int), 3)
def prsE (s : By) : Tb × Int × Int :=
  if 65536 < s.length then ([], 0, 5) else match rsE (cutE 10 s).1 with
    | none => ([], 1, 3)
    | some n => if (cutE 10 s).2.2 = true then prsL n.toNat (2 * n.toNat) 0 (cutE 10 s).2.1 [] else ([], 1, 3)
theorem cut_le (c : UInt8) : ∀ l : By, (cutE c l).1.length ≤ l.length ∧ (cutE c l).2.1.length ≤ l.length
  | [] => ⟨Nat.le_refl _, Nat.le_refl _⟩
  | b :: r => by
    obtain ⟨h1, h2⟩ := cut_le c r
    unfold cutE
    split
    · exact ⟨Nat.zero_le _, by simp⟩
    · exact ⟨by simp; omega, by simp; omega⟩
theorem rsE_bnd {l : By} {n : Int} (h : rsE l = some n) : 0 ≤ n ∧ n ≤ 16 := by
  unfold rsE at h
  split at h
  · split at h
    · have := (rnE_some (by omega)).1 h
      omega
    · simp at h
  · simp at h
theorem rwE_len {l : By} {n : Nat} {r : List Int} (h : rwE l n = some r) : r.length = n := by
  unfold rwE at h
  split at h
  · rename_i hl
    rw [← hl]
    have : ∀ (ws : List By) (r : List Int), ws.mapM (fun w => rnE w (-2) 31) = some r → r.length = ws.length := by
      intro ws
      induction ws with
      | nil => intro r h; simp at h; subst h; rfl
      | cons a ws ih =>
        intro r h
        rw [List.mapM_cons] at h
        cases h1 : rnE a (-2) 31 with
        | none => rw [h1] at h; simp at h
        | some k =>
          rw [h1] at h
          cases h2 : ws.mapM (fun w => rnE w (-2) 31) with
          | none => rw [h2] at h; simp at h
          | some q => rw [h2] at h; simp at h; subst h; simp [ih q h2]
    exact this _ _ h
  · simp at h
def clP (acc : List (List Int)) (j : Nat) : LV := if j < acc.length then intsV (acc.getD j []) else .nsl
def rwP (acc : List (List Int)) (u : Nat) : List LV := [clP acc (2 * u), clP acc (2 * u + 1)]
theorem rwP_all {n m : Nat} {acc : List (List Int)} : ∀ i, i < m → allC n (List.take 2 (rwP acc i)) := by
  intro i _
  refine ⟨?_, ?_, trivial⟩ <;> unfold clP <;> split <;> trivial
theorem clP_old {acc : List (List Int)} {r : List Int} {j : Nat} (h : j ≠ acc.length) : clP (acc ++ [r]) j = clP acc j := by
  unfold clP
  rw [List.length_append, List.length_singleton]
  by_cases e : j < acc.length
  · rw [if_pos (by omega), if_pos e, List.getD_eq_getElem?_getD, List.getElem?_append_left e, ← List.getD_eq_getElem?_getD]
  · rw [if_neg (by omega), if_neg e]
theorem clP_new {acc : List (List Int)} {r : List Int} : clP (acc ++ [r]) acc.length = intsV r := by
  unfold clP
  rw [if_pos (by simp), List.getD_eq_getElem?_getD, List.getElem?_append_right (Nat.le_refl _), Nat.sub_self]; rfl
theorem rw_step {n : Nat} {acc : List (List Int)} {r : List Int} {i : Nat} (ha : acc.length = i) :
    (LO.row 2 n fun j => if j = i / 2 then (rwP acc (i / 2)).set (i % 2 * 1) (.rsl 1 r.length (intsF r)) else rwP acc j) = LO.row 2 n (rwP (acc ++ [r])) := by
  congr 1
  funext j
  by_cases e : j = i / 2
  · rw [if_pos e, ← e]
    unfold rwP
    rcases (show i % 2 = 0 ∨ i % 2 = 1 by omega) with h | h
    · rw [h]
      have e2 : 2 * j = acc.length := by omega
      rw [clP_old (j := 2 * j + 1) (by omega), e2, clP_new]; rfl
    · rw [h]
      have e2 : 2 * j + 1 = acc.length := by omega
      rw [clP_old (j := 2 * j) (by omega), e2, clP_new]; rfl
  · rw [if_neg e]
    unfold rwP
    rw [clP_old (by omega), clP_old (by omega)]
theorem rwP_tab {acc : List (List Int)} {n i : Nat} (ha : acc.length = 2 * n) (hi : i < n) : rwP acc i = tabF (tblE acc) i := by
  unfold rwP clP tabF
  rw [if_pos (by omega), if_pos (by omega), tblE_get acc (by omega)]
theorem strB_nil {l : By} : decide (strB l = ⟨#[]⟩) = decide (l = []) := decide_eq_decide.2 ⟨fun h => strB_inj (b := []) h, fun h => by rw [h]; rfl⟩
theorem ev_parse19 (s : By) (hs : s.length ≤ 100000) : Ev Tryd.prog 33 [.sc (.string (strB s))] (.tup [tabV (prsE s).1, .sc (.int .i64 (prsE s).2.1), .sc (.int .i64 (prsE s).2.2)]) := by
  have h1 := fun l (hl : l.length ≤ 100000) => ev_cut l 10 (by omega)
  have h2 := fun l hl => ev_readSize l hl
  have h3 := fun l hl n hn => ev_readRow l hl n hn
  have hc := cut_le 10 s
  have hE : prsE s = if 65536 < s.length then ([], 0, 5) else match rsE (cutE 10 s).1 with
    | none => ([], 1, 3)
    | some n => if (cutE 10 s).2.2 = true then prsL n.toNat (2 * n.toNat) 0 (cutE 10 s).2.1 [] else ([], 1, 3) := rfl
  have hsz := strB_size s
  unfold tabV
  unfold intsV at h3
  refine ev_fn Tryd.func33 comp33 (show 1 ≤ Tryd.f33.ntmps by decide) ?_; unfold cf33 rf33; simp only [↓EVP0, EVQ0, EVQ1, EVQ2, EVQ3, EVQ4, EVA, EVK, EVF,EVFW,EVFS, ↓reduceIte, Nat.reduceEqDiff, Nat.reduceAdd, Nat.reduceSub, Nat.reduceMul, Nat.reduceLT, Nat.reduceLeDiff, reduceCtorEq, Int.reduceToNat, Int.reduceLT, Int.reduceLE, Int.reduceAdd, Int.reduceSub, Int.reduceMul, Int.reduceNeg, Int.reduceEq, Nat.reduceMod, forall_eq_or_imp, forall_eq, forall_const, cond_true, cond_false, decide_true, decide_false, true_imp_iff, implies_true, Int.cast_ofNat_Int, forall_eq']
  rw [hsz]
  refine ⟨fun hg => ?_, fun hg => ?_⟩
  · rw [hE, if_pos (by have := of_decide_eq_true hg; omega)]; exact ⟨rfl, rfl, rfl⟩
  rw [if_neg (by have := of_decide_eq_false hg; omega)] at hE
  have h11 := h1 s hs
  refine callK_ro (h11) ?_ ?_
  · simp only [↓EVP0, EVQ0, EVQ1, EVQ2, EVQ3, EVQ4, EVA, EVK, EVF,EVFW,EVFS, ↓reduceIte, Nat.reduceEqDiff, Nat.reduceAdd, Nat.reduceSub, Nat.reduceMul, Nat.reduceLT, Nat.reduceLeDiff, reduceCtorEq, Int.reduceToNat, Int.reduceLT, Int.reduceLE, Int.reduceAdd, Int.reduceSub, Int.reduceMul, Int.reduceNeg, Int.reduceEq, Nat.reduceMod, forall_eq_or_imp, forall_eq, forall_const, cond_true, cond_false, decide_true, decide_false, true_imp_iff, implies_true, Int.cast_ofNat_Int, forall_eq']
  simp only [↓EVP0, EVQ0, EVQ1, EVQ2, EVQ3, EVQ4, EVA, EVK, EVF,EVFW,EVFS, ↓reduceIte, Nat.reduceEqDiff, Nat.reduceAdd, Nat.reduceSub, Nat.reduceMul, Nat.reduceLT, Nat.reduceLeDiff, reduceCtorEq, Int.reduceToNat, Int.reduceLT, Int.reduceLE, Int.reduceAdd, Int.reduceSub, Int.reduceMul, Int.reduceNeg, Int.reduceEq, Nat.reduceMod, forall_eq_or_imp, forall_eq, forall_const, cond_true, cond_false, decide_true, decide_false, true_imp_iff, implies_true, Int.cast_ofNat_Int, forall_eq']
  generalize cutE 10 s = c at *
  obtain ⟨line, rest, ended⟩ := c
  simp only at hc hE ⊢
  have h21 := h2 line (by omega)
  refine callK_ro (h21) ?_ ?_
  · simp only [↓EVP0, EVQ0, EVQ1, EVQ2, EVQ3, EVQ4, EVA, EVK, EVF,EVFW,EVFS, ↓reduceIte, Nat.reduceEqDiff, Nat.reduceAdd, Nat.reduceSub, Nat.reduceMul, Nat.reduceLT, Nat.reduceLeDiff, reduceCtorEq, Int.reduceToNat, Int.reduceLT, Int.reduceLE, Int.reduceAdd, Int.reduceSub, Int.reduceMul, Int.reduceNeg, Int.reduceEq, Nat.reduceMod, forall_eq_or_imp, forall_eq, forall_const, cond_true, cond_false, decide_true, decide_false, true_imp_iff, implies_true, Int.cast_ofNat_Int, forall_eq']
  simp only [↓EVP0, EVQ0, EVQ1, EVQ2, EVQ3, EVQ4, EVA, EVK, EVF,EVFW,EVFS, ↓reduceIte, Nat.reduceEqDiff, Nat.reduceAdd, Nat.reduceSub, Nat.reduceMul, Nat.reduceLT, Nat.reduceLeDiff, reduceCtorEq, Int.reduceToNat, Int.reduceLT, Int.reduceLE, Int.reduceAdd, Int.reduceSub, Int.reduceMul, Int.reduceNeg, Int.reduceEq, Nat.reduceMod, forall_eq_or_imp, forall_eq, forall_const, cond_true, cond_false, decide_true, decide_false, true_imp_iff, implies_true, Int.cast_ofNat_Int, forall_eq']
  cases hr : rsE line with
  | none =>
    rw [hr] at hE
    rw [hE]
    refine ⟨fun _ => ⟨rfl, rfl, rfl⟩, fun h => by simp at h⟩
  | some m =>
    rw [hr] at hE
    obtain ⟨m0, m16⟩ := rsE_bnd hr
    cases ended with
    | false =>
      rw [hE]
      refine ⟨fun _ => ⟨rfl, rfl, rfl⟩, fun h => by simp at h⟩
    | true =>
      refine ⟨fun h => by simp at h, fun _ => ?_⟩
      simp only [if_true] at hE
      obtain ⟨n, rfl⟩ : ∃ n : Nat, m = (n : Int) := ⟨m.toNat, by omega⟩
      rw [Int.toNat_natCast] at hE
      simp only [Option.getD_some, ↓EVP0, EVQ0, EVQ1, EVQ2, EVQ3, EVQ4, EVA, EVK, EVF,EVFW,EVFS, ↓reduceIte, Nat.reduceEqDiff, Nat.reduceAdd, Nat.reduceSub, Nat.reduceMul, Nat.reduceLT, Nat.reduceLeDiff, reduceCtorEq, Int.reduceToNat, Int.reduceLT, Int.reduceLE, Int.reduceAdd, Int.reduceSub, Int.reduceMul, Int.reduceNeg, Int.reduceEq, Nat.reduceMod, forall_eq_or_imp, forall_eq, forall_const, cond_true, cond_false, decide_true, decide_false, true_imp_iff, implies_true, Int.cast_ofNat_Int, forall_eq']
      refine ⟨by unfold mksC; omega, by unfold In64; omega, ?_⟩
      refine lwp_for (α := By × List (List Int)) (2 * n) (fun i x => x.1.length ≤ 100000 ∧ x.2.length = i ∧ prsE s = prsL n (2 * n - i) i x.1 x.2) (fun i x => [(2, .ptr 0 0 0 0 0), (6, .sc (.string (strB x.1))), (8, .sc (.int .i64 n)), (10, .ptr 2 0 0 0 0), (40, .sc (.int .i64 (2 * (n : Int)))), (41, .sc (.int .i64 i))])
        (fun i x => [(0, .box [.nsl]), (0, .row 2 n (rwP x.2)), (0, .box [.sl 1 0 2 0 n])]) (rest, []) ⟨by simp only; omega, rfl, hE⟩ ?_ (fun _ _ => Nat.zero_le _) ?_
      · simp only [↓EVP0, EVQ0, EVQ1, EVQ2, EVQ3, EVQ4, EVA, EVK, EVF,EVFW,EVFS, ↓reduceIte, Nat.reduceEqDiff, Nat.reduceAdd, Nat.reduceSub, Nat.reduceMul, Nat.reduceLT, Nat.reduceLeDiff, reduceCtorEq, Int.reduceToNat, Int.reduceLT, Int.reduceLE, Int.reduceAdd, Int.reduceSub, Int.reduceMul, Int.reduceNeg, Int.reduceEq, Nat.reduceMod, forall_eq_or_imp, forall_eq, forall_const, cond_true, cond_false, decide_true, decide_false, true_imp_iff, implies_true, Int.cast_ofNat_Int, forall_eq']
        exact ⟨rfl, rwP_all⟩
      clear h11 h21 hE hr hc
      rintro i ⟨rest, acc⟩ hi ⟨hl, ha, hE⟩
      simp only at hl ha hE ⊢
      unfold lb33_0
      simp only [↓EVP0, EVQ0, EVQ1, EVQ2, EVQ3, EVQ4, EVA, EVK, EVF,EVFW,EVFS, ↓reduceIte, Nat.reduceEqDiff, Nat.reduceAdd, Nat.reduceSub, Nat.reduceMul, Nat.reduceLT, Nat.reduceLeDiff, reduceCtorEq, Int.reduceToNat, Int.reduceLT, Int.reduceLE, Int.reduceAdd, Int.reduceSub, Int.reduceMul, Int.reduceNeg, Int.reduceEq, Nat.reduceMod, forall_eq_or_imp, forall_eq, forall_const, cond_true, cond_false, decide_true, decide_false, true_imp_iff, implies_true, Int.cast_ofNat_Int, forall_eq']
      refine ⟨fun hg2 => ?_, fun hg2 => ?_⟩
      rotate_left
      · have hi2 : i = 2 * n := by have := of_decide_eq_false hg2; omega
        rw [show 2 * n - i = 0 by omega] at hE
        unfold prsL at hE
        rw [strB_nil]
        by_cases e : rest = []
        · rw [if_pos e] at hE
          rw [decide_eq_true e, hE]
          refine ⟨fun h => by simp at h, fun _ => ⟨⟨by simp only; rw [tblE_len]; omega, ⟨Nat.le_refl _, fun i _ => rfl⟩, fun i hi => rwP_tab (by omega) hi⟩, rfl, rfl⟩⟩
        · rw [if_neg e] at hE
          rw [decide_eq_false e, hE]
          exact ⟨fun _ => ⟨by unfold In64; omega, by unfold In64; omega, rfl, rfl, rfl⟩, fun h => by simp at h⟩
      have hi2 : i < 2 * n := by have := of_decide_eq_true hg2; omega
      have hc := cut_le 10 rest
      have h11 := h1 rest hl
      rw [show 2 * n - i = (2 * n - (i + 1)) + 1 by omega] at hE
      unfold prsL at hE
      refine callK_ro (h11) ?_ ?_
      · simp only [↓EVP0, EVQ0, EVQ1, EVQ2, EVQ3, EVQ4, EVA, EVK, EVF,EVFW,EVFS, ↓reduceIte, Nat.reduceEqDiff, Nat.reduceAdd, Nat.reduceSub, Nat.reduceMul, Nat.reduceLT, Nat.reduceLeDiff, reduceCtorEq, Int.reduceToNat, Int.reduceLT, Int.reduceLE, Int.reduceAdd, Int.reduceSub, Int.reduceMul, Int.reduceNeg, Int.reduceEq, Nat.reduceMod, forall_eq_or_imp, forall_eq, forall_const, cond_true, cond_false, decide_true, decide_false, true_imp_iff, implies_true, Int.cast_ofNat_Int, forall_eq']
      simp only [↓EVP0, EVQ0, EVQ1, EVQ2, EVQ3, EVQ4, EVA, EVK, EVF,EVFW,EVFS, ↓reduceIte, Nat.reduceEqDiff, Nat.reduceAdd, Nat.reduceSub, Nat.reduceMul, Nat.reduceLT, Nat.reduceLeDiff, reduceCtorEq, Int.reduceToNat, Int.reduceLT, Int.reduceLE, Int.reduceAdd, Int.reduceSub, Int.reduceMul, Int.reduceNeg, Int.reduceEq, Nat.reduceMod, forall_eq_or_imp, forall_eq, forall_const, cond_true, cond_false, decide_true, decide_false, true_imp_iff, implies_true, Int.cast_ofNat_Int, forall_eq']
      generalize cutE 10 rest = c at *
      obtain ⟨line, rest2, ended⟩ := c
      simp only at hc hE ⊢
      have h31 := h3 line (by omega) n (by omega)
      refine callK_ro (h31) ?_ ?_
      · simp only [↓EVP0, EVQ0, EVQ1, EVQ2, EVQ3, EVQ4, EVA, EVK, EVF,EVFW,EVFS, ↓reduceIte, Nat.reduceEqDiff, Nat.reduceAdd, Nat.reduceSub, Nat.reduceMul, Nat.reduceLT, Nat.reduceLeDiff, reduceCtorEq, Int.reduceToNat, Int.reduceLT, Int.reduceLE, Int.reduceAdd, Int.reduceSub, Int.reduceMul, Int.reduceNeg, Int.reduceEq, Nat.reduceMod, forall_eq_or_imp, forall_eq, forall_const, cond_true, cond_false, decide_true, decide_false, true_imp_iff, implies_true, Int.cast_ofNat_Int, forall_eq']
      simp only [↓EVP0, EVQ0, EVQ1, EVQ2, EVQ3, EVQ4, EVA, EVK, EVF,EVFW,EVFS, ↓reduceIte, Nat.reduceEqDiff, Nat.reduceAdd, Nat.reduceSub, Nat.reduceMul, Nat.reduceLT, Nat.reduceLeDiff, reduceCtorEq, Int.reduceToNat, Int.reduceLT, Int.reduceLE, Int.reduceAdd, Int.reduceSub, Int.reduceMul, Int.reduceNeg, Int.reduceEq, Nat.reduceMod, forall_eq_or_imp, forall_eq, forall_const, cond_true, cond_false, decide_true, decide_false, true_imp_iff, implies_true, Int.cast_ofNat_Int, forall_eq']
      cases hr : rwE line n with
      | none =>
        rw [hr] at hE
        rw [hE]
        exact ⟨fun _ => ⟨by unfold In64; omega, rfl, rfl, rfl⟩, fun h => by simp at h⟩
      | some r =>
        rw [hr] at hE
        have hrl := rwE_len hr
        cases ended with
        | false =>
          rw [hE]
          exact ⟨fun _ => ⟨by unfold In64; omega, rfl, rfl, rfl⟩, fun h => by simp at h⟩
        | true =>
          simp only [if_true] at hE
          simp only [Option.getD_some, Option.isSome_some, ↓EVP0, EVQ0, EVQ1, EVQ2, EVQ3, EVQ4, EVA, EVK, EVF,EVFW,EVFS, ↓reduceIte, Nat.reduceEqDiff, Nat.reduceAdd, Nat.reduceSub, Nat.reduceMul, Nat.reduceLT, Nat.reduceLeDiff, reduceCtorEq, Int.reduceToNat, Int.reduceLT, Int.reduceLE, Int.reduceAdd, Int.reduceSub, Int.reduceMul, Int.reduceNeg, Int.reduceEq, Nat.reduceMod, forall_eq_or_imp, forall_eq, forall_const, cond_true, cond_false, decide_true, decide_false, true_imp_iff, implies_true, Int.cast_ofNat_Int, forall_eq']
          have e1 : (i : Int).tdiv 2 = ((i / 2 : Nat) : Int) := rfl
          have e2 : (i : Int).tmod 2 = ((i % 2 : Nat) : Int) := rfl
          rw [e1, e2, Int.toNat_natCast, Int.toNat_natCast]
          exact ⟨⟨by omega, by unfold In64; omega⟩, by omega, ⟨by omega, by omega⟩, ⟨by omega, by omega⟩, ⟨by omega, by omega, rfl⟩, by unfold In64; omega, hi2, (rest2, acc ++ [r]), ⟨by simp only; omega, by simp only [List.length_append, List.length_singleton]; omega, hE⟩, rfl, rw_step ha, rwP_all⟩
end Go.Proofs.YtcdepkflghcjpaaDoor
namespace Go.Proofs.YtcdepkflghcjpaaDoor
set_option linter.unusedSimpArgs false
set_option linter.unusedVariables false
open Go.RowKit
set_option maxRecDepth 20000

def rowEq (x y : List Int) : Bool := decide (x.length = y.length) && (List.range x.length).all fun k => decide (x.getD k 0 = y.getD k 0)
def sameT (a b : Tb) : Bool := decide (a.length = b.length) && (List.range a.length).all fun u => rowEq (a.getD u ([], [])).1 (b.getD u ([], [])).1 && rowEq (a.getD u ([], [])).2 (b.getD u ([], [])).2
theorem rowEq_refl (x : List Int) : rowEq x x = true := by
  unfold rowEq
  rw [decide_eq_true rfl, rng_yes19 (fun i _ => decide_eq_true rfl)]; rfl
theorem sameT_refl (a : Tb) : sameT a a = true := by
  unfold sameT
  rw [decide_eq_true rfl, rng_yes19 (fun i _ => by rw [rowEq_refl, rowEq_refl]; rfl)]; rfl
theorem ev_same (a b : Tb) : Ev Tryd.prog 15 [.rsl 2 a.length (tabF a), .rsl 2 b.length (tabF b)] (.sc (.bool (sameT a b))) := by
  refine ev_fn Tryd.func15 comp15 (show 2 ≤ Tryd.f15.ntmps by decide) ?_; unfold cf15 rf15; simp only [↓EVP0, EVQ0, EVQ1, EVQ2, EVQ3, EVQ4, EVA, EVK, EVF,EVFT, ↓reduceIte, Nat.reduceEqDiff, Nat.reduceAdd, Nat.reduceSub, Nat.reduceMul, Nat.reduceLT, Nat.reduceLeDiff, reduceCtorEq, Int.reduceToNat, Int.reduceLT, Int.reduceLE, Int.reduceAdd, Int.reduceSub, Int.reduceMul, Int.reduceNeg, Int.reduceEq, Nat.reduceMod, forall_eq_or_imp, forall_eq, forall_const, cond_true, cond_false, decide_true, decide_false, true_imp_iff, implies_true, Int.cast_ofNat_Int, forall_eq']
  intro _ _
  refine ⟨fun hg => ?_, fun hg => ?_⟩
  · unfold sameT
    rw [decide_eq_false (show ¬ a.length = b.length from fun h => by rw [decide_eq_true (show (a.length : Int) = b.length by omega)] at hg; simp at hg)]; rfl
  have hn : a.length = b.length := by
    by_cases h : (a.length : Int) = b.length
    · omega
    · rw [decide_eq_false h] at hg; simp at hg
  have hvT : sameT a b = ((List.range a.length).all fun u => rowEq (a.getD u ([], [])).1 (b.getD u ([], [])).1 && rowEq (a.getD u ([], [])).2 (b.getD u ([], [])).2) := by
    unfold sameT; rw [decide_eq_true hn]; rfl
  refine lwp_for (α := Unit) a.length (fun u _ => ∀ j, j < u → (rowEq (a.getD j ([], [])).1 (b.getD j ([], [])).1 && rowEq (a.getD j ([], [])).2 (b.getD j ([], [])).2) = true) (fun u _ => [(0, .rsl 2 a.length (tabF a)), (1, .rsl 2 b.length (tabF b)), (5, .sc (.int .i64 u))])
    (fun _ _ => []) () (fun j hj => absurd hj (Nat.not_lt_zero _)) ?_ (fun _ _ => Nat.zero_le _) ?_
  · simp only [↓EVP0, EVQ0, EVQ1, EVQ2, EVQ3, EVQ4, EVA, EVK, EVF,EVFT, ↓reduceIte, Nat.reduceEqDiff, Nat.reduceAdd, Nat.reduceSub, Nat.reduceMul, Nat.reduceLT, Nat.reduceLeDiff, reduceCtorEq, Int.reduceToNat, Int.reduceLT, Int.reduceLE, Int.reduceAdd, Int.reduceSub, Int.reduceMul, Int.reduceNeg, Int.reduceEq, Nat.reduceMod, forall_eq_or_imp, forall_eq, forall_const, cond_true, cond_false, decide_true, decide_false, true_imp_iff, implies_true, Int.cast_ofNat_Int, forall_eq']
  intro u _ hu hx
  unfold lb15_2
  simp only [↓EVP0, EVQ0, EVQ1, EVQ2, EVQ3, EVQ4, EVA, EVK, EVF,EVFT, ↓reduceIte, Nat.reduceEqDiff, Nat.reduceAdd, Nat.reduceSub, Nat.reduceMul, Nat.reduceLT, Nat.reduceLeDiff, reduceCtorEq, Int.reduceToNat, Int.reduceLT, Int.reduceLE, Int.reduceAdd, Int.reduceSub, Int.reduceMul, Int.reduceNeg, Int.reduceEq, Nat.reduceMod, forall_eq_or_imp, forall_eq, forall_const, cond_true, cond_false, decide_true, decide_false, true_imp_iff, implies_true, Int.cast_ofNat_Int, forall_eq']
  refine fun _ => ⟨fun hg2 => ?_, fun hg2 => ?_⟩
  rotate_left
  · have hu2 : u = a.length := by have := of_decide_eq_false hg2; omega
    subst hu2
    rw [hvT, rng_yes19 hx]
  have hu2 : u < a.length := by have := of_decide_eq_true hg2; omega
  have hno : (rowEq (a.getD u ([], [])).1 (b.getD u ([], [])).1 && rowEq (a.getD u ([], [])).2 (b.getD u ([], [])).2) = false → false = sameT a b := fun h => by rw [hvT, rng_no19 hu2 h]
  refine lwp_for (α := Unit) 2 (fun k _ => (0 < k → rowEq (a.getD u ([], [])).1 (b.getD u ([], [])).1 = true) ∧ (1 < k → rowEq (a.getD u ([], [])).1 (b.getD u ([], [])).1 = true ∧ rowEq (a.getD u ([], [])).2 (b.getD u ([], [])).2 = true)) (fun k _ => [(0, .rsl 2 a.length (tabF a)), (1, .rsl 2 b.length (tabF b)), (5, .sc (.int .i64 u)), (6, .sc (.int .i64 k))])
    (fun _ _ => []) () ⟨fun h => absurd h (by omega), fun h => absurd h (by omega)⟩ ?_ (fun _ _ => Nat.zero_le _) ?_
  · simp only [↓EVP0, EVQ0, EVQ1, EVQ2, EVQ3, EVQ4, EVA, EVK, EVF,EVFT, ↓reduceIte, Nat.reduceEqDiff, Nat.reduceAdd, Nat.reduceSub, Nat.reduceMul, Nat.reduceLT, Nat.reduceLeDiff, reduceCtorEq, Int.reduceToNat, Int.reduceLT, Int.reduceLE, Int.reduceAdd, Int.reduceSub, Int.reduceMul, Int.reduceNeg, Int.reduceEq, Nat.reduceMod, forall_eq_or_imp, forall_eq, forall_const, cond_true, cond_false, decide_true, decide_false, true_imp_iff, implies_true, Int.cast_ofNat_Int, forall_eq']
  intro ph _ hph hph2
  have h3c : ph = 0 ∨ ph = 1 ∨ ph = 2 := by omega
  rcases h3c with rfl | rfl | rfl
  · unfold lb15_1
    simp only [↓EVP0, EVQ0, EVQ1, EVQ2, EVQ3, EVQ4, EVA, EVK, EVF,EVFT, ↓reduceIte, Nat.reduceEqDiff, Nat.reduceAdd, Nat.reduceSub, Nat.reduceMul, Nat.reduceLT, Nat.reduceLeDiff, reduceCtorEq, Int.reduceToNat, Int.reduceLT, Int.reduceLE, Int.reduceAdd, Int.reduceSub, Int.reduceMul, Int.reduceNeg, Int.reduceEq, Nat.reduceMod, forall_eq_or_imp, forall_eq, forall_const, cond_true, cond_false, decide_true, decide_false, true_imp_iff, implies_true, Int.cast_ofNat_Int, forall_eq']
    refine ⟨⟨by omega, by omega⟩, ⟨by omega, by omega⟩, fun hg4 => ?_, fun hg4 => ?_⟩
    · refine hno ?_
      have h : rowEq (a.getD u ([], [])).1 (b.getD u ([], [])).1 = false := by
        unfold rowEq
        rw [decide_eq_false (show ¬ (a.getD u ([], [])).1.length = (b.getD u ([], [])).1.length from fun h => by rw [decide_eq_true (show ((a.getD u ([], [])).1.length : Int) = (b.getD u ([], [])).1.length by omega)] at hg4; simp at hg4), Bool.false_and]
      rw [h, Bool.false_and]
    have hrn : (a.getD u ([], [])).1.length = (b.getD u ([], [])).1.length := by
      by_cases h : ((a.getD u ([], [])).1.length : Int) = (b.getD u ([], [])).1.length
      · omega
      · rw [decide_eq_false h] at hg4; simp at hg4
    refine lwp_for (α := Unit) (a.getD u ([], [])).1.length (fun k _ => ∀ j, j < k → decide ((a.getD u ([], [])).1.getD j 0 = (b.getD u ([], [])).1.getD j 0) = true) (fun k _ => [(0, .rsl 2 a.length (tabF a)), (1, .rsl 2 b.length (tabF b)), (5, .sc (.int .i64 u)), (6, .sc (.int .i64 0)), (7, .sc (.int .i64 k))])
      (fun _ _ => []) () (fun j hj => absurd hj (Nat.not_lt_zero _)) ?_ (fun _ _ => Nat.zero_le _) ?_
    · simp only [↓EVP0, EVQ0, EVQ1, EVQ2, EVQ3, EVQ4, EVA, EVK, EVF,EVFT, ↓reduceIte, Nat.reduceEqDiff, Nat.reduceAdd, Nat.reduceSub, Nat.reduceMul, Nat.reduceLT, Nat.reduceLeDiff, reduceCtorEq, Int.reduceToNat, Int.reduceLT, Int.reduceLE, Int.reduceAdd, Int.reduceSub, Int.reduceMul, Int.reduceNeg, Int.reduceEq, Nat.reduceMod, forall_eq_or_imp, forall_eq, forall_const, cond_true, cond_false, decide_true, decide_false, true_imp_iff, implies_true, Int.cast_ofNat_Int, forall_eq']
    intro k _ hk hz
    unfold lb15_0
    simp only [↓EVP0, EVQ0, EVQ1, EVQ2, EVQ3, EVQ4, EVA, EVK, EVF,EVFT, ↓reduceIte, Nat.reduceEqDiff, Nat.reduceAdd, Nat.reduceSub, Nat.reduceMul, Nat.reduceLT, Nat.reduceLeDiff, reduceCtorEq, Int.reduceToNat, Int.reduceLT, Int.reduceLE, Int.reduceAdd, Int.reduceSub, Int.reduceMul, Int.reduceNeg, Int.reduceEq, Nat.reduceMod, forall_eq_or_imp, forall_eq, forall_const, cond_true, cond_false, decide_true, decide_false, true_imp_iff, implies_true, Int.cast_ofNat_Int, forall_eq']
    refine ⟨⟨by omega, by omega⟩, fun _ => ⟨fun hg5 => ?_, fun hg5 => ?_⟩⟩
    rotate_left
    · have hk2 : k = (a.getD u ([], [])).1.length := by have := of_decide_eq_false hg5; omega
      have hrow : rowEq (a.getD u ([], [])).1 (b.getD u ([], [])).1 = true := by
        unfold rowEq
        rw [decide_eq_true hrn, rng_yes19 (fun i hi => hz i (by omega))]; rfl
      exact ⟨by unfold In64; omega, (), hrow⟩
    have hk2 : k < (a.getD u ([], [])).1.length := by have := of_decide_eq_true hg5; omega
    refine ⟨⟨by omega, by omega⟩, ⟨by omega, by omega⟩, ⟨by omega, by omega⟩, ⟨by omega, by omega⟩, fun hg6 => ?_, fun hg6 => ?_⟩
    · refine hno ?_
      have h : rowEq (a.getD u ([], [])).1 (b.getD u ([], [])).1 = false := by
        unfold rowEq
        rw [rng_no19 hk2 (by
          cases e : decide ((a.getD u ([], [])).1.getD k 0 = (b.getD u ([], [])).1.getD k 0)
          · rfl
          · rw [e] at hg6; simp at hg6), Bool.and_false]
      rw [h, Bool.false_and]
    · refine ⟨by unfold In64; omega, hk2, (), fun j hj => ?_⟩
      by_cases e : j = k
      · rw [e]
        cases e2 : decide ((a.getD u ([], [])).1.getD k 0 = (b.getD u ([], [])).1.getD k 0)
        · rw [e2] at hg6; simp at hg6
        · rfl
      · exact hz j (by omega)
  · unfold lb15_1
    simp only [↓EVP0, EVQ0, EVQ1, EVQ2, EVQ3, EVQ4, EVA, EVK, EVF,EVFT, ↓reduceIte, Nat.reduceEqDiff, Nat.reduceAdd, Nat.reduceSub, Nat.reduceMul, Nat.reduceLT, Nat.reduceLeDiff, reduceCtorEq, Int.reduceToNat, Int.reduceLT, Int.reduceLE, Int.reduceAdd, Int.reduceSub, Int.reduceMul, Int.reduceNeg, Int.reduceEq, Nat.reduceMod, forall_eq_or_imp, forall_eq, forall_const, cond_true, cond_false, decide_true, decide_false, true_imp_iff, implies_true, Int.cast_ofNat_Int, forall_eq']
    refine ⟨⟨by omega, by omega⟩, ⟨by omega, by omega⟩, fun hg4 => ?_, fun hg4 => ?_⟩
    · refine hno ?_
      have h : rowEq (a.getD u ([], [])).2 (b.getD u ([], [])).2 = false := by
        unfold rowEq
        rw [decide_eq_false (show ¬ (a.getD u ([], [])).2.length = (b.getD u ([], [])).2.length from fun h => by rw [decide_eq_true (show ((a.getD u ([], [])).2.length : Int) = (b.getD u ([], [])).2.length by omega)] at hg4; simp at hg4), Bool.false_and]
      rw [h, Bool.and_false]
    have hrn : (a.getD u ([], [])).2.length = (b.getD u ([], [])).2.length := by
      by_cases h : ((a.getD u ([], [])).2.length : Int) = (b.getD u ([], [])).2.length
      · omega
      · rw [decide_eq_false h] at hg4; simp at hg4
    refine lwp_for (α := Unit) (a.getD u ([], [])).2.length (fun k _ => ∀ j, j < k → decide ((a.getD u ([], [])).2.getD j 0 = (b.getD u ([], [])).2.getD j 0) = true) (fun k _ => [(0, .rsl 2 a.length (tabF a)), (1, .rsl 2 b.length (tabF b)), (5, .sc (.int .i64 u)), (6, .sc (.int .i64 1)), (7, .sc (.int .i64 k))])
      (fun _ _ => []) () (fun j hj => absurd hj (Nat.not_lt_zero _)) ?_ (fun _ _ => Nat.zero_le _) ?_
    · simp only [↓EVP0, EVQ0, EVQ1, EVQ2, EVQ3, EVQ4, EVA, EVK, EVF,EVFT, ↓reduceIte, Nat.reduceEqDiff, Nat.reduceAdd, Nat.reduceSub, Nat.reduceMul, Nat.reduceLT, Nat.reduceLeDiff, reduceCtorEq, Int.reduceToNat, Int.reduceLT, Int.reduceLE, Int.reduceAdd, Int.reduceSub, Int.reduceMul, Int.reduceNeg, Int.reduceEq, Nat.reduceMod, forall_eq_or_imp, forall_eq, forall_const, cond_true, cond_false, decide_true, decide_false, true_imp_iff, implies_true, Int.cast_ofNat_Int, forall_eq']
    intro k _ hk hz
    unfold lb15_0
    simp only [↓EVP0, EVQ0, EVQ1, EVQ2, EVQ3, EVQ4, EVA, EVK, EVF,EVFT, ↓reduceIte, Nat.reduceEqDiff, Nat.reduceAdd, Nat.reduceSub, Nat.reduceMul, Nat.reduceLT, Nat.reduceLeDiff, reduceCtorEq, Int.reduceToNat, Int.reduceLT, Int.reduceLE, Int.reduceAdd, Int.reduceSub, Int.reduceMul, Int.reduceNeg, Int.reduceEq, Nat.reduceMod, forall_eq_or_imp, forall_eq, forall_const, cond_true, cond_false, decide_true, decide_false, true_imp_iff, implies_true, Int.cast_ofNat_Int, forall_eq']
    refine ⟨⟨by omega, by omega⟩, fun _ => ⟨fun hg5 => ?_, fun hg5 => ?_⟩⟩
    rotate_left
    · have hk2 : k = (a.getD u ([], [])).2.length := by have := of_decide_eq_false hg5; omega
      have hrow : rowEq (a.getD u ([], [])).2 (b.getD u ([], [])).2 = true := by
        unfold rowEq
        rw [decide_eq_true hrn, rng_yes19 (fun i hi => hz i (by omega))]; rfl
      exact ⟨by unfold In64; omega, (), hph2.1 (by omega), hph2.1 (by omega), hrow⟩
    have hk2 : k < (a.getD u ([], [])).2.length := by have := of_decide_eq_true hg5; omega
    refine ⟨⟨by omega, by omega⟩, ⟨by omega, by omega⟩, ⟨by omega, by omega⟩, ⟨by omega, by omega⟩, fun hg6 => ?_, fun hg6 => ?_⟩
    · refine hno ?_
      have h : rowEq (a.getD u ([], [])).2 (b.getD u ([], [])).2 = false := by
        unfold rowEq
        rw [rng_no19 hk2 (by
          cases e : decide ((a.getD u ([], [])).2.getD k 0 = (b.getD u ([], [])).2.getD k 0)
          · rfl
          · rw [e] at hg6; simp at hg6), Bool.and_false]
      rw [h, Bool.and_false]
    · refine ⟨by unfold In64; omega, hk2, (), fun j hj => ?_⟩
      by_cases e : j = k
      · rw [e]
        cases e2 : decide ((a.getD u ([], [])).2.getD k 0 = (b.getD u ([], [])).2.getD k 0)
        · rw [e2] at hg6; simp at hg6
        · rfl
      · exact hz j (by omega)
  · unfold lb15_1
    simp only [↓EVP0, EVQ0, EVQ1, EVQ2, EVQ3, EVQ4, EVA, EVK, EVF,EVFT, ↓reduceIte, Nat.reduceEqDiff, Nat.reduceAdd, Nat.reduceSub, Nat.reduceMul, Nat.reduceLT, Nat.reduceLeDiff, reduceCtorEq, Int.reduceToNat, Int.reduceLT, Int.reduceLE, Int.reduceAdd, Int.reduceSub, Int.reduceMul, Int.reduceNeg, Int.reduceEq, Nat.reduceMod, forall_eq_or_imp, forall_eq, forall_const, cond_true, cond_false, decide_true, decide_false, true_imp_iff, implies_true, Int.cast_ofNat_Int, forall_eq']
    obtain ⟨r1, r2⟩ := hph2.2 (by omega)
    refine ⟨by unfold In64; omega, hu2, (), fun j hj => ?_⟩
    by_cases e : j = u
    · rw [e, r1, r2]; rfl
    · exact hx j (by omega)
end Go.Proofs.YtcdepkflghcjpaaDoor
namespace Go.Proofs.YtcdepkflghcjpaaDoor
set_option linter.unusedSimpArgs false
set_option linter.unusedVariables false
open Go.RowKit
set_option maxRecDepth 20000

def rowOk (n : Nat) (r : List Int) : Bool := decide (r.length = n) && (List.range r.length).all fun k => decide (-2 ≤ r.getD k 0) && decide (r.getD k 0 < 32)
def plainT (t : Tb) : Bool := decide (t.length ≤ 16) && (List.range (2 * t.length)).all fun j => rowOk t.length ((rowsT t).getD j [])
def fmtT (t : Tb) : ByteArray × Int := if plainT t = true then (⟨(txtR t (2 * t.length)).toArray⟩, 0) else (⟨#[]⟩, 1)
def okTo (t : Tb) (m : Nat) : Prop := ∀ j, j < m → rowOk t.length ((rowsT t).getD j []) = true
theorem ok_plain {t : Tb} (h16 : t.length ≤ 16) (h : okTo t (2 * t.length)) : plainT t = true := by
  unfold plainT
  rw [decide_eq_true h16, Bool.true_and, List.all_eq_true]
  intro j hj
  exact h j (List.mem_range.1 hj)
theorem all_no19 {n i : Nat} {q : Nat → Bool} (hi : i < n) (h : q i = false) : (List.range n).all q = false := by
  rw [Bool.eq_false_iff]
  intro ha
  rw [List.all_eq_true] at ha
  have := ha i (List.mem_range.2 hi)
  rw [h] at this; simp at this
theorem no_plain {t : Tb} {j : Nat} (hj : j < 2 * t.length) (h : rowOk t.length ((rowsT t).getD j []) = false) : plainT t = false := by
  unfold plainT
  rw [all_no19 hj h, Bool.and_false]
theorem num_no {r : List Int} {k : Nat} (hk : k < r.length) (h : (decide (-2 ≤ r.getD k 0) && decide (r.getD k 0 < 32)) = false) : ((List.range r.length).all fun k => decide (-2 ≤ r.getD k 0) && decide (r.getD k 0 < 32)) = false :=
  all_no19 (q := fun k => decide (-2 ≤ r.getD k 0) && decide (r.getD k 0 < 32)) hk h
theorem row_yes {n : Nat} {r : List Int} (hn : r.length = n) (h : ∀ i, i < r.length → -2 ≤ r.getD i 0 ∧ r.getD i 0 < 32) : rowOk n r = true := by
  unfold rowOk
  rw [decide_eq_true hn, Bool.true_and, List.all_eq_true]
  intro i hi
  obtain ⟨a, b⟩ := h i (List.mem_range.1 hi)
  rw [decide_eq_true a, decide_eq_true b]; rfl
theorem row_ok {n : Nat} {r : List Int} (h : rowOk n r = true) : r.length = n ∧ ∀ i, i < r.length → -2 ≤ r.getD i 0 ∧ r.getD i 0 < 32 := by
  unfold rowOk at h
  simp only [Bool.and_eq_true, decide_eq_true_eq, List.all_eq_true, List.mem_range] at h
  exact h
theorem ok_step {t : Tb} {m : Nat} (h : okTo t m) (h2 : rowOk t.length ((rowsT t).getD m []) = true) : okTo t (m + 1) := by
  intro j hj
  by_cases e : j = m
  · rw [e]; exact h2
  · exact h j (by omega)
theorem row_lineP {n : Nat} (h16 : n ≤ 16) {r : List Int} (h : rowOk n r = true) : (lineW (wdsR r)).length ≤ 400 := by
  obtain ⟨h1, h2⟩ := row_ok h
  have := lineW_len r (fun y hy => by
    obtain ⟨j, hj, e⟩ := List.getElem_of_mem hy
    have := h2 j hj
    rw [List.getD_eq_getElem?_getD, List.getElem?_eq_getElem hj] at this
    simp only [Option.getD_some] at this
    rw [e] at this
    unfold In64; omega)
  omega
theorem flat_leP (t : Tb) (h16 : t.length ≤ 16) : ∀ m, okTo t m → (((rowsT t).take m).map fun r => lineB (wdsR r)).flatten.length ≤ m * 401
  | 0, _ => by simp
  | m + 1, h => by
    have ih := flat_leP t h16 m (fun j hj => h j (by omega))
    by_cases e : m < (rowsT t).length
    · rw [take_flat [] _ e, List.length_append, lineB_len]
      have := row_lineP h16 (h m (by omega))
      omega
    · rw [List.take_of_length_le (by omega)]
      rw [List.take_of_length_le (by omega)] at ih
      omega
theorem txtR_lenP {t : Tb} (h16 : t.length ≤ 16) {m : Nat} (h : okTo t m) (hw : (lineW [wRoutes, itS t.length]).length ≤ 100) : (txtR t m).length ≤ 101 + m * 401 := by
  unfold txtR
  rw [List.length_append, lineB_len]
  have := flat_leP t h16 m h
  omega
theorem ev_formatA (t : Tb) : Ev Tryd.prog 31 [tabV t] (.tup [.sc (.string (fmtT t).1), .sc (.int .i64 (fmtT t).2)]) := by
  have hgood : plainT t = true → fmtT t = (⟨(txtR t (2 * t.length)).toArray⟩, 0) := fun h => by unfold fmtT; rw [if_pos h]
  have hbad : plainT t = false → ⟨#[]⟩ = (fmtT t).1 ∧ 1 = (fmtT t).2 := fun h => by unfold fmtT; rw [if_neg (by rw [h]; simp)]; exact ⟨rfl, rfl⟩
  generalize fmtT t = R at *
  unfold tabV
  have hi := fun x (hx : In64 x) => ev_itoaA x hx
  refine ev_fn Tryd.func31 comp31 (show 1 ≤ Tryd.f31.ntmps by decide) ?_; unfold cf31 rf31; simp only [↓EVP0, EVQ0, EVQ1, EVQ2, EVQ3, EVQ4, EVA, EVK, EVFS, ↓reduceIte, Nat.reduceEqDiff, Nat.reduceAdd, Nat.reduceSub, Nat.reduceMul, Nat.reduceLT, Nat.reduceLeDiff, reduceCtorEq, Int.reduceToNat, Int.reduceLT, Int.reduceLE, Int.reduceAdd, Int.reduceSub, Int.reduceMul, Int.reduceNeg, Int.reduceEq, Nat.reduceMod, forall_eq_or_imp, forall_eq, forall_const, cond_true, cond_false, decide_true, decide_false, true_imp_iff, implies_true, Int.cast_ofNat_Int, forall_eq']
  intro _
  refine ⟨fun hg => ?_, fun hg => ?_⟩
  · exact hbad (by have := of_decide_eq_true hg; unfold plainT; rw [decide_eq_false (by omega)]; rfl)
  have h16 : t.length ≤ 16 := by have := of_decide_eq_false hg; omega
  have hin := hi t.length (by unfold In64; omega)
  refine callK_ro (hin) ?_ ?_
  · simp only [↓EVP0, EVQ0, EVQ1, EVQ2, EVQ3, EVQ4, EVA, EVK, EVFS, ↓reduceIte, Nat.reduceEqDiff, Nat.reduceAdd, Nat.reduceSub, Nat.reduceMul, Nat.reduceLT, Nat.reduceLeDiff, reduceCtorEq, Int.reduceToNat, Int.reduceLT, Int.reduceLE, Int.reduceAdd, Int.reduceSub, Int.reduceMul, Int.reduceNeg, Int.reduceEq, Nat.reduceMod, forall_eq_or_imp, forall_eq, forall_const, cond_true, cond_false, decide_true, decide_false, true_imp_iff, implies_true, Int.cast_ofNat_Int, forall_eq']
  simp only [↓EVP0, EVQ0, EVQ1, EVQ2, EVQ3, EVQ4, EVA, EVK, EVFS, ↓reduceIte, Nat.reduceEqDiff, Nat.reduceAdd, Nat.reduceSub, Nat.reduceMul, Nat.reduceLT, Nat.reduceLeDiff, reduceCtorEq, Int.reduceToNat, Int.reduceLT, Int.reduceLE, Int.reduceAdd, Int.reduceSub, Int.reduceMul, Int.reduceNeg, Int.reduceEq, Nat.reduceMod, forall_eq_or_imp, forall_eq, forall_const, cond_true, cond_false, decide_true, decide_false, true_imp_iff, implies_true, Int.cast_ofNat_Int, forall_eq']
  have hw0 : lineW [wRoutes, itS t.length] = wRoutes.data.toList ++ ([32] ++ (itS t.length).data.toList) := by rw [lineW_cons, lineW_one]
  have hil := itS_len (x := t.length) (by unfold In64; omega)
  have e6 : wRoutes.data.toList.length = 6 := rfl
  have hwl : 0 < (lineW [wRoutes, itS t.length]).length ∧ (lineW [wRoutes, itS t.length]).length ≤ 100 := by
    rw [hw0, List.length_append, List.length_append, e6, List.length_singleton]; omega
  refine ⟨txsF [wRoutes, itS t.length], fun i hi => ?_, by kernel_rfl, callK_mut (lc_line_new (h := mkH _) (kb := 1) (vb := 0) (by simp [mkH]) rfl [wRoutes, itS t.length] (by simp) hwl.1 (by omega)) ?_⟩
  · obtain rfl | rfl : i = 0 ∨ i = 1 := by omega
    all_goals rfl
  unfold bldS bldN
  simp only [↓EVP0, EVQ0, EVQ1, EVQ2, EVQ3, EVQ4, EVA, EVK, EVFS, ↓reduceIte, Nat.reduceEqDiff, Nat.reduceAdd, Nat.reduceSub, Nat.reduceMul, Nat.reduceLT, Nat.reduceLeDiff, reduceCtorEq, Int.reduceToNat, Int.reduceLT, Int.reduceLE, Int.reduceAdd, Int.reduceSub, Int.reduceMul, Int.reduceNeg, Int.reduceEq, Nat.reduceMod, forall_eq_or_imp, forall_eq, forall_const, cond_true, cond_false, decide_true, decide_false, true_imp_iff, implies_true, Int.cast_ofNat_Int, forall_eq']
  intro _
  refine lwp_for (α := Nat) t.length (fun u _ => okTo t (2 * u)) (fun u _ => [(4, .sc (.int .i64 t.length)), (5, .ptr 1 0 0 0 0), (6, .fn 60 [.ptr 1 0 0 0 0]), (26, .rsl 2 t.length (tabF t)), (27, .sc (.int .i64 t.length)), (28, .sc (.int .i64 u))])
    (fun u v => [(0, .box [.rsl 2 t.length (tabF t)]), (0, .tbox 113 [.ptr 1 0 0 0 0, .sl 2 v 1 0 (txtR t (2 * u)).length]), (v, .byt 5 (u8I (txtR t (2 * u))))]) 1 (fun j hj => by omega) ?_ (fun _ _ => Nat.zero_le _) ?_
  · simp only [↓EVP0, EVQ0, EVQ1, EVQ2, EVQ3, EVQ4, EVA, EVK, EVFS, ↓reduceIte, Nat.reduceEqDiff, Nat.reduceAdd, Nat.reduceSub, Nat.reduceMul, Nat.reduceLT, Nat.reduceLeDiff, reduceCtorEq, Int.reduceToNat, Int.reduceLT, Int.reduceLE, Int.reduceAdd, Int.reduceSub, Int.reduceMul, Int.reduceNeg, Int.reduceEq, Nat.reduceMod, forall_eq_or_imp, forall_eq, forall_const, cond_true, cond_false, decide_true, decide_false, true_imp_iff, implies_true, Int.cast_ofNat_Int, forall_eq']
    have e0 : txtR t 0 = lineB [wRoutes, itS t.length] := by unfold txtR; simp
    rw [e0, u8I_len]
    exact ⟨rfl, rfl⟩
  intro u v hu hO
  unfold lb31_2
  simp only [↓EVP0, EVQ0, EVQ1, EVQ2, EVQ3, EVQ4, EVA, EVK, EVFS, ↓reduceIte, Nat.reduceEqDiff, Nat.reduceAdd, Nat.reduceSub, Nat.reduceMul, Nat.reduceLT, Nat.reduceLeDiff, reduceCtorEq, Int.reduceToNat, Int.reduceLT, Int.reduceLE, Int.reduceAdd, Int.reduceSub, Int.reduceMul, Int.reduceNeg, Int.reduceEq, Nat.reduceMod, forall_eq_or_imp, forall_eq, forall_const, cond_true, cond_false, decide_true, decide_false, true_imp_iff, implies_true, Int.cast_ofNat_Int, forall_eq']
  refine ⟨fun hg2 => ?_, fun hg2 => ?_⟩
  rotate_left
  · have hu2 : u = t.length := by have := of_decide_eq_false hg2; omega
    subst hu2
    have hpl : plainT t = true := ok_plain h16 hO
    rw [hgood hpl]
    have hne : txtR t (2 * t.length) ≠ [] := by
      unfold txtR lineB
      intro h
      simp at h
    refine callK_mut (lc_str_row (h := mkH _) (kb := 1) (vb := 0) (kr := 2) (vr := v) (by simp [mkH]) rfl (by simp [mkH]) rfl hne) ?_
    simp only [↓EVP0, EVQ0, EVQ1, EVQ2, EVQ3, EVQ4, EVA, EVK, EVFS, ↓reduceIte, Nat.reduceEqDiff, Nat.reduceAdd, Nat.reduceSub, Nat.reduceMul, Nat.reduceLT, Nat.reduceLeDiff, reduceCtorEq, Int.reduceToNat, Int.reduceLT, Int.reduceLE, Int.reduceAdd, Int.reduceSub, Int.reduceMul, Int.reduceNeg, Int.reduceEq, Nat.reduceMod, forall_eq_or_imp, forall_eq, forall_const, cond_true, cond_false, decide_true, decide_false, true_imp_iff, implies_true, Int.cast_ofNat_Int, forall_eq']
  have hu2 : u < t.length := by have := of_decide_eq_true hg2; omega
  obtain ⟨g0, g1⟩ := rowsT_get t u hu2
  refine ⟨⟨by omega, by omega⟩, ?_⟩
  refine lwp_for (α := Nat) 2 (fun k _ => okTo t (2 * u + k)) (fun k _ => [(4, .sc (.int .i64 t.length)), (5, .ptr 1 0 0 0 0), (6, .fn 60 [.ptr 1 0 0 0 0]), (26, .rsl 2 t.length (tabF t)), (27, .sc (.int .i64 t.length)), (28, .sc (.int .i64 u)), (32, .agg [.rsl 1 (t.getD u ([], [])).1.length (intsF (t.getD u ([], [])).1), .rsl 1 (t.getD u ([], [])).2.length (intsF (t.getD u ([], [])).2)]), (33, .sc (.int .i64 k))])
    (fun k v => [(0, .box [.rsl 2 t.length (tabF t)]), (0, .tbox 113 [.ptr 1 0 0 0 0, .sl 2 v 1 0 (txtR t (2 * u + k)).length]), (v, .byt 5 (u8I (txtR t (2 * u + k))))]) v hO ?_ (fun _ _ => Nat.zero_le _) ?_
  · simp only [↓EVP0, EVQ0, EVQ1, EVQ2, EVQ3, EVQ4, EVA, EVK, EVFS, ↓reduceIte, Nat.reduceEqDiff, Nat.reduceAdd, Nat.reduceSub, Nat.reduceMul, Nat.reduceLT, Nat.reduceLeDiff, reduceCtorEq, Int.reduceToNat, Int.reduceLT, Int.reduceLE, Int.reduceAdd, Int.reduceSub, Int.reduceMul, Int.reduceNeg, Int.reduceEq, Nat.reduceMod, forall_eq_or_imp, forall_eq, forall_const, cond_true, cond_false, decide_true, decide_false, true_imp_iff, implies_true, Int.cast_ofNat_Int, forall_eq']
  clear hO
  intro ph v hph hO
  have h3c : ph = 0 ∨ ph = 1 ∨ ph = 2 := by omega
  rcases h3c with rfl | rfl | rfl
  · unfold lb31_1
    simp only [↓EVP0, EVQ0, EVQ1, EVQ2, EVQ3, EVQ4, EVA, EVK, EVFS, ↓reduceIte, Nat.reduceEqDiff, Nat.reduceAdd, Nat.reduceSub, Nat.reduceMul, Nat.reduceLT, Nat.reduceLeDiff, reduceCtorEq, Int.reduceToNat, Int.reduceLT, Int.reduceLE, Int.reduceAdd, Int.reduceSub, Int.reduceMul, Int.reduceNeg, Int.reduceEq, Nat.reduceMod, forall_eq_or_imp, forall_eq, forall_const, cond_true, cond_false, decide_true, decide_false, true_imp_iff, implies_true, Int.cast_ofNat_Int, forall_eq']
    have hO : okTo t (2 * u) := hO
    have hno : rowOk t.length (t.getD u ([], [])).1 = false → plainT t = false := fun h => no_plain (show 2 * u < 2 * t.length by omega) (by rw [g0]; exact h)
    intro _
    refine ⟨fun h => ?_, fun h => ⟨by unfold mksC; omega, ?_⟩⟩
    · refine hbad (hno ?_)
      unfold rowOk
      rw [decide_eq_false (show ¬ (t.getD u ([], [])).1.length = t.length from fun e => by rw [decide_eq_true (show ((t.getD u ([], [])).1.length : Int) = t.length by omega)] at h; simp at h)]; rfl
    have hrn : (t.getD u ([], [])).1.length = t.length := by
      by_cases e : ((t.getD u ([], [])).1.length : Int) = t.length
      · omega
      · rw [decide_eq_false e] at h; simp at h
    refine lwp_frzO [3] 11 (.rsl 1 (wdsR (t.getD u ([], [])).1).length (txsF (wdsR (t.getD u ([], [])).1))) ?_
    simp only [↓EVP0, EVQ0, EVQ1, EVQ2, EVQ3, EVQ4, EVA, EVK, EVFS, ↓reduceIte, Nat.reduceEqDiff, Nat.reduceAdd, Nat.reduceSub, Nat.reduceMul, Nat.reduceLT, Nat.reduceLeDiff, reduceCtorEq, Int.reduceToNat, Int.reduceLT, Int.reduceLE, Int.reduceAdd, Int.reduceSub, Int.reduceMul, Int.reduceNeg, Int.reduceEq, Nat.reduceMod, forall_eq_or_imp, forall_eq, forall_const, cond_true, cond_false, decide_true, decide_false, true_imp_iff, implies_true, Int.cast_ofNat_Int, forall_eq']
    intro _
    refine lwp_for (α := Unit) (t.getD u ([], [])).1.length (fun k _ => ∀ i, i < k → -2 ≤ (t.getD u ([], [])).1.getD i 0 ∧ (t.getD u ([], [])).1.getD i 0 < 32) (fun k _ => [(4, .sc (.int .i64 t.length)), (5, .ptr 1 0 0 0 0), (6, .fn 60 [.ptr 1 0 0 0 0]), (11, .sl 3 k 1 0 k), (26, .rsl 2 t.length (tabF t)), (27, .sc (.int .i64 t.length)), (28, .sc (.int .i64 u)), (32, .agg [.rsl 1 (t.getD u ([], [])).1.length (intsF (t.getD u ([], [])).1), .rsl 1 (t.getD u ([], [])).2.length (intsF (t.getD u ([], [])).2)]), (33, .sc (.int .i64 0)), (42, .rsl 1 (t.getD u ([], [])).1.length (intsF (t.getD u ([], [])).1)), (43, .sc (.int .i64 (t.getD u ([], [])).1.length)), (44, .sc (.int .i64 k))])
      (fun k _ => [(0, .box [.rsl 2 t.length (tabF t)]), (0, .tbox 113 [.ptr 1 0 0 0 0, .sl 2 v 1 0 (txtR t (2 * u)).length]), (v, .byt 5 (u8I (txtR t (2 * u)))), (k, .row 1 k (wF (t.getD u ([], [])).1 k))]) () (fun i hi => absurd hi (Nat.not_lt_zero _)) ?_ (fun _ _ => Nat.zero_le _) ?_
    · simp only [↓EVP0, EVQ0, EVQ1, EVQ2, EVQ3, EVQ4, EVA, EVK, EVFS, ↓reduceIte, Nat.reduceEqDiff, Nat.reduceAdd, Nat.reduceSub, Nat.reduceMul, Nat.reduceLT, Nat.reduceLeDiff, reduceCtorEq, Int.reduceToNat, Int.reduceLT, Int.reduceLE, Int.reduceAdd, Int.reduceSub, Int.reduceMul, Int.reduceNeg, Int.reduceEq, Nat.reduceMod, forall_eq_or_imp, forall_eq, forall_const, cond_true, cond_false, decide_true, decide_false, true_imp_iff, implies_true, Int.cast_ofNat_Int, forall_eq']
      exact ⟨rfl, fun i hi => absurd hi (Nat.not_lt_zero _)⟩
    intro k _ hk hK
    unfold lb31_0
    simp only [↓EVP0, EVQ0, EVQ1, EVQ2, EVQ3, EVQ4, EVA, EVK, EVFS, ↓reduceIte, Nat.reduceEqDiff, Nat.reduceAdd, Nat.reduceSub, Nat.reduceMul, Nat.reduceLT, Nat.reduceLeDiff, reduceCtorEq, Int.reduceToNat, Int.reduceLT, Int.reduceLE, Int.reduceAdd, Int.reduceSub, Int.reduceMul, Int.reduceNeg, Int.reduceEq, Nat.reduceMod, forall_eq_or_imp, forall_eq, forall_const, cond_true, cond_false, decide_true, decide_false, true_imp_iff, implies_true, Int.cast_ofNat_Int, forall_eq']
    refine ⟨fun hg5 => ?_, fun hg5 => ?_⟩
    · have hk2 : k < (t.getD u ([], [])).1.length := by have := of_decide_eq_true hg5; omega
      refine ⟨⟨by omega, by omega⟩, fun h => ?_, fun h => ?_⟩
      · refine hbad (hno ?_)
        unfold rowOk
        rw [num_no hk2 (by
          by_cases e1 : (t.getD u ([], [])).1.getD k 0 < -2
          · rw [decide_eq_false (show ¬ -2 ≤ (t.getD u ([], [])).1.getD k 0 by omega)]; rfl
          · by_cases e2 : (32 : Int) ≤ (t.getD u ([], [])).1.getD k 0
            · rw [decide_eq_false (show ¬ (t.getD u ([], [])).1.getD k 0 < 32 by omega), Bool.and_false]
            · rw [decide_eq_false e1, decide_eq_false e2] at h; simp at h), Bool.and_false]
      have hx : -2 ≤ (t.getD u ([], [])).1.getD k 0 ∧ (t.getD u ([], [])).1.getD k 0 < 32 := by
        by_cases e1 : (t.getD u ([], [])).1.getD k 0 < -2
        · rw [decide_eq_true e1] at h; simp at h
        · by_cases e2 : (32 : Int) ≤ (t.getD u ([], [])).1.getD k 0
          · rw [decide_eq_false e1, decide_eq_true e2] at h; simp at h
          · omega
      have hit := hi ((t.getD u ([], [])).1.getD k 0) (by unfold In64; omega)
      refine callK_ro (hit) ?_ ?_
      · simp only [↓EVP0, EVQ0, EVQ1, EVQ2, EVQ3, EVQ4, EVA, EVK, EVFS, ↓reduceIte, Nat.reduceEqDiff, Nat.reduceAdd, Nat.reduceSub, Nat.reduceMul, Nat.reduceLT, Nat.reduceLeDiff, reduceCtorEq, Int.reduceToNat, Int.reduceLT, Int.reduceLE, Int.reduceAdd, Int.reduceSub, Int.reduceMul, Int.reduceNeg, Int.reduceEq, Nat.reduceMod, forall_eq_or_imp, forall_eq, forall_const, cond_true, cond_false, decide_true, decide_false, true_imp_iff, implies_true, Int.cast_ofNat_Int, forall_eq']
      simp only [↓EVP0, EVQ0, EVQ1, EVQ2, EVQ3, EVQ4, EVA, EVK, EVFS, ↓reduceIte, Nat.reduceEqDiff, Nat.reduceAdd, Nat.reduceSub, Nat.reduceMul, Nat.reduceLT, Nat.reduceLeDiff, reduceCtorEq, Int.reduceToNat, Int.reduceLT, Int.reduceLE, Int.reduceAdd, Int.reduceSub, Int.reduceMul, Int.reduceNeg, Int.reduceEq, Nat.reduceMod, forall_eq_or_imp, forall_eq, forall_const, cond_true, cond_false, decide_true, decide_false, true_imp_iff, implies_true, Int.cast_ofNat_Int, forall_eq']
      refine ⟨fun _ => [.sc (.string (itS ((t.getD u ([], [])).1.getD k 0)))], fun i hi => by rw [show i = 0 by omega]; rfl, ?_⟩
      exact ⟨⟨Nat.le_refl _, fun i hi => by rw [wF_get _ hi]; rfl⟩, by unfold appRoom; omega, by unfold In64; omega, hk2, (), (fun i hi => by
        by_cases e : i = k
        · rw [e]; exact hx
        · exact hK i (by omega)), rfl, fun i hi => by rw [wF_get _ hi]; exact ⟨trivial, trivial⟩⟩
    · have hk2 : k = (t.getD u ([], [])).1.length := by have := of_decide_eq_false hg5; omega
      subst hk2
      have hrow : rowOk t.length (t.getD u ([], [])).1 = true := row_yes hrn hK
      have hO2 : okTo t (2 * u + 1) := ok_step hO (by rw [g0]; exact hrow)
      have hne : (t.getD u ([], [])).1 ≠ [] := by intro h; rw [h] at hrn; simp at hrn; omega
      have hll := lineW_len (t.getD u ([], [])).1 (fun y hy => by
        obtain ⟨j, hj, e⟩ := List.getElem_of_mem hy
        have := hK j hj
        rw [List.getD_eq_getElem?_getD, List.getElem?_eq_getElem hj] at this
        simp only [Option.getD_some] at this
        rw [e] at this
        unfold In64; omega)
      have htl := txtR_lenP h16 hO (by omega)
      have hwl : (wdsR (t.getD u ([], [])).1).length = (t.getD u ([], [])).1.length := by unfold wdsR; simp
      refine ⟨⟨hwl, ⟨Nat.le_refl _, fun i hi => by rw [wF_get _ hi]; rfl⟩, fun i hi => ?_⟩, by kernel_rfl, callK_mut (lc_line_row (h := mkH _) (kb := 1) (vb := 0) (kr := 2) (vr := v) (l := txtR t (2 * u)) (by simp [mkH]) rfl (by simp [mkH]) rfl (by omega) (wdsR (t.getD u ([], [])).1) (by rw [hwl]; omega) (lineW_pos hne) (by omega)) ?_⟩
      · rw [wF_get _ hi]
        refine ⟨?_, trivial, trivial⟩
        show [LV.sc (.string (itS ((t.getD u ([], [])).1.getD i 0)))] = [LV.sc (.string ((wdsR (t.getD u ([], [])).1).getD i ⟨#[]⟩))]
        unfold wdsR
        rw [List.getD_eq_getElem?_getD (l := (t.getD u ([], [])).1.map itS), List.getElem?_map, List.getD_eq_getElem?_getD, List.getElem?_eq_getElem hi]; rfl
      unfold bldS
      simp only [↓EVP0, EVQ0, EVQ1, EVQ2, EVQ3, EVQ4, EVA, EVK, EVFS, ↓reduceIte, Nat.reduceEqDiff, Nat.reduceAdd, Nat.reduceSub, Nat.reduceMul, Nat.reduceLT, Nat.reduceLeDiff, reduceCtorEq, Int.reduceToNat, Int.reduceLT, Int.reduceLE, Int.reduceAdd, Int.reduceSub, Int.reduceMul, Int.reduceNeg, Int.reduceEq, Nat.reduceMod, forall_eq_or_imp, forall_eq, forall_const, cond_true, cond_false, decide_true, decide_false, true_imp_iff, implies_true, Int.cast_ofNat_Int, forall_eq']
      exact ⟨by unfold In64; omega, v + 1 + 1, hO2, by rw [← txtR_0 hu2, u8I_len], rfl, by rw [txtR_0 hu2]⟩
  · unfold lb31_1
    simp only [↓EVP0, EVQ0, EVQ1, EVQ2, EVQ3, EVQ4, EVA, EVK, EVFS, ↓reduceIte, Nat.reduceEqDiff, Nat.reduceAdd, Nat.reduceSub, Nat.reduceMul, Nat.reduceLT, Nat.reduceLeDiff, reduceCtorEq, Int.reduceToNat, Int.reduceLT, Int.reduceLE, Int.reduceAdd, Int.reduceSub, Int.reduceMul, Int.reduceNeg, Int.reduceEq, Nat.reduceMod, forall_eq_or_imp, forall_eq, forall_const, cond_true, cond_false, decide_true, decide_false, true_imp_iff, implies_true, Int.cast_ofNat_Int, forall_eq']
    have hO : okTo t (2 * u + 1) := hO
    have hno : rowOk t.length (t.getD u ([], [])).2 = false → plainT t = false := fun h => no_plain (show 2 * u + 1 < 2 * t.length by omega) (by rw [g1]; exact h)
    intro _
    refine ⟨fun h => ?_, fun h => ⟨by unfold mksC; omega, ?_⟩⟩
    · refine hbad (hno ?_)
      unfold rowOk
      rw [decide_eq_false (show ¬ (t.getD u ([], [])).2.length = t.length from fun e => by rw [decide_eq_true (show ((t.getD u ([], [])).2.length : Int) = t.length by omega)] at h; simp at h)]; rfl
    have hrn : (t.getD u ([], [])).2.length = t.length := by
      by_cases e : ((t.getD u ([], [])).2.length : Int) = t.length
      · omega
      · rw [decide_eq_false e] at h; simp at h
    refine lwp_frzO [3] 11 (.rsl 1 (wdsR (t.getD u ([], [])).2).length (txsF (wdsR (t.getD u ([], [])).2))) ?_
    simp only [↓EVP0, EVQ0, EVQ1, EVQ2, EVQ3, EVQ4, EVA, EVK, EVFS, ↓reduceIte, Nat.reduceEqDiff, Nat.reduceAdd, Nat.reduceSub, Nat.reduceMul, Nat.reduceLT, Nat.reduceLeDiff, reduceCtorEq, Int.reduceToNat, Int.reduceLT, Int.reduceLE, Int.reduceAdd, Int.reduceSub, Int.reduceMul, Int.reduceNeg, Int.reduceEq, Nat.reduceMod, forall_eq_or_imp, forall_eq, forall_const, cond_true, cond_false, decide_true, decide_false, true_imp_iff, implies_true, Int.cast_ofNat_Int, forall_eq']
    intro _
    refine lwp_for (α := Unit) (t.getD u ([], [])).2.length (fun k _ => ∀ i, i < k → -2 ≤ (t.getD u ([], [])).2.getD i 0 ∧ (t.getD u ([], [])).2.getD i 0 < 32) (fun k _ => [(4, .sc (.int .i64 t.length)), (5, .ptr 1 0 0 0 0), (6, .fn 60 [.ptr 1 0 0 0 0]), (11, .sl 3 k 1 0 k), (26, .rsl 2 t.length (tabF t)), (27, .sc (.int .i64 t.length)), (28, .sc (.int .i64 u)), (32, .agg [.rsl 1 (t.getD u ([], [])).1.length (intsF (t.getD u ([], [])).1), .rsl 1 (t.getD u ([], [])).2.length (intsF (t.getD u ([], [])).2)]), (33, .sc (.int .i64 1)), (42, .rsl 1 (t.getD u ([], [])).2.length (intsF (t.getD u ([], [])).2)), (43, .sc (.int .i64 (t.getD u ([], [])).2.length)), (44, .sc (.int .i64 k))])
      (fun k _ => [(0, .box [.rsl 2 t.length (tabF t)]), (0, .tbox 113 [.ptr 1 0 0 0 0, .sl 2 v 1 0 (txtR t (2 * u + 1)).length]), (v, .byt 5 (u8I (txtR t (2 * u + 1)))), (k, .row 1 k (wF (t.getD u ([], [])).2 k))]) () (fun i hi => absurd hi (Nat.not_lt_zero _)) ?_ (fun _ _ => Nat.zero_le _) ?_
    · simp only [↓EVP0, EVQ0, EVQ1, EVQ2, EVQ3, EVQ4, EVA, EVK, EVFS, ↓reduceIte, Nat.reduceEqDiff, Nat.reduceAdd, Nat.reduceSub, Nat.reduceMul, Nat.reduceLT, Nat.reduceLeDiff, reduceCtorEq, Int.reduceToNat, Int.reduceLT, Int.reduceLE, Int.reduceAdd, Int.reduceSub, Int.reduceMul, Int.reduceNeg, Int.reduceEq, Nat.reduceMod, forall_eq_or_imp, forall_eq, forall_const, cond_true, cond_false, decide_true, decide_false, true_imp_iff, implies_true, Int.cast_ofNat_Int, forall_eq']
      exact ⟨rfl, fun i hi => absurd hi (Nat.not_lt_zero _)⟩
    intro k _ hk hK
    unfold lb31_0
    simp only [↓EVP0, EVQ0, EVQ1, EVQ2, EVQ3, EVQ4, EVA, EVK, EVFS, ↓reduceIte, Nat.reduceEqDiff, Nat.reduceAdd, Nat.reduceSub, Nat.reduceMul, Nat.reduceLT, Nat.reduceLeDiff, reduceCtorEq, Int.reduceToNat, Int.reduceLT, Int.reduceLE, Int.reduceAdd, Int.reduceSub, Int.reduceMul, Int.reduceNeg, Int.reduceEq, Nat.reduceMod, forall_eq_or_imp, forall_eq, forall_const, cond_true, cond_false, decide_true, decide_false, true_imp_iff, implies_true, Int.cast_ofNat_Int, forall_eq']
    refine ⟨fun hg5 => ?_, fun hg5 => ?_⟩
    · have hk2 : k < (t.getD u ([], [])).2.length := by have := of_decide_eq_true hg5; omega
      refine ⟨⟨by omega, by omega⟩, fun h => ?_, fun h => ?_⟩
      · refine hbad (hno ?_)
        unfold rowOk
        rw [num_no hk2 (by
          by_cases e1 : (t.getD u ([], [])).2.getD k 0 < -2
          · rw [decide_eq_false (show ¬ -2 ≤ (t.getD u ([], [])).2.getD k 0 by omega)]; rfl
          · by_cases e2 : (32 : Int) ≤ (t.getD u ([], [])).2.getD k 0
            · rw [decide_eq_false (show ¬ (t.getD u ([], [])).2.getD k 0 < 32 by omega), Bool.and_false]
            · rw [decide_eq_false e1, decide_eq_false e2] at h; simp at h), Bool.and_false]
      have hx : -2 ≤ (t.getD u ([], [])).2.getD k 0 ∧ (t.getD u ([], [])).2.getD k 0 < 32 := by
        by_cases e1 : (t.getD u ([], [])).2.getD k 0 < -2
        · rw [decide_eq_true e1] at h; simp at h
        · by_cases e2 : (32 : Int) ≤ (t.getD u ([], [])).2.getD k 0
          · rw [decide_eq_false e1, decide_eq_true e2] at h; simp at h
          · omega
      have hit := hi ((t.getD u ([], [])).2.getD k 0) (by unfold In64; omega)
      refine callK_ro (hit) ?_ ?_
      · simp only [↓EVP0, EVQ0, EVQ1, EVQ2, EVQ3, EVQ4, EVA, EVK, EVFS, ↓reduceIte, Nat.reduceEqDiff, Nat.reduceAdd, Nat.reduceSub, Nat.reduceMul, Nat.reduceLT, Nat.reduceLeDiff, reduceCtorEq, Int.reduceToNat, Int.reduceLT, Int.reduceLE, Int.reduceAdd, Int.reduceSub, Int.reduceMul, Int.reduceNeg, Int.reduceEq, Nat.reduceMod, forall_eq_or_imp, forall_eq, forall_const, cond_true, cond_false, decide_true, decide_false, true_imp_iff, implies_true, Int.cast_ofNat_Int, forall_eq']
      simp only [↓EVP0, EVQ0, EVQ1, EVQ2, EVQ3, EVQ4, EVA, EVK, EVFS, ↓reduceIte, Nat.reduceEqDiff, Nat.reduceAdd, Nat.reduceSub, Nat.reduceMul, Nat.reduceLT, Nat.reduceLeDiff, reduceCtorEq, Int.reduceToNat, Int.reduceLT, Int.reduceLE, Int.reduceAdd, Int.reduceSub, Int.reduceMul, Int.reduceNeg, Int.reduceEq, Nat.reduceMod, forall_eq_or_imp, forall_eq, forall_const, cond_true, cond_false, decide_true, decide_false, true_imp_iff, implies_true, Int.cast_ofNat_Int, forall_eq']
      refine ⟨fun _ => [.sc (.string (itS ((t.getD u ([], [])).2.getD k 0)))], fun i hi => by rw [show i = 0 by omega]; rfl, ?_⟩
      exact ⟨⟨Nat.le_refl _, fun i hi => by rw [wF_get _ hi]; rfl⟩, by unfold appRoom; omega, by unfold In64; omega, hk2, (), (fun i hi => by
        by_cases e : i = k
        · rw [e]; exact hx
        · exact hK i (by omega)), rfl, fun i hi => by rw [wF_get _ hi]; exact ⟨trivial, trivial⟩⟩
    · have hk2 : k = (t.getD u ([], [])).2.length := by have := of_decide_eq_false hg5; omega
      subst hk2
      have hrow : rowOk t.length (t.getD u ([], [])).2 = true := row_yes hrn hK
      have hO2 : okTo t (2 * u + 1 + 1) := ok_step hO (by rw [g1]; exact hrow)
      have hne : (t.getD u ([], [])).2 ≠ [] := by intro h; rw [h] at hrn; simp at hrn; omega
      have hll := lineW_len (t.getD u ([], [])).2 (fun y hy => by
        obtain ⟨j, hj, e⟩ := List.getElem_of_mem hy
        have := hK j hj
        rw [List.getD_eq_getElem?_getD, List.getElem?_eq_getElem hj] at this
        simp only [Option.getD_some] at this
        rw [e] at this
        unfold In64; omega)
      have htl := txtR_lenP h16 hO (by omega)
      have hwl : (wdsR (t.getD u ([], [])).2).length = (t.getD u ([], [])).2.length := by unfold wdsR; simp
      refine ⟨⟨hwl, ⟨Nat.le_refl _, fun i hi => by rw [wF_get _ hi]; rfl⟩, fun i hi => ?_⟩, by kernel_rfl, callK_mut (lc_line_row (h := mkH _) (kb := 1) (vb := 0) (kr := 2) (vr := v) (l := txtR t (2 * u + 1)) (by simp [mkH]) rfl (by simp [mkH]) rfl (by omega) (wdsR (t.getD u ([], [])).2) (by rw [hwl]; omega) (lineW_pos hne) (by omega)) ?_⟩
      · rw [wF_get _ hi]
        refine ⟨?_, trivial, trivial⟩
        show [LV.sc (.string (itS ((t.getD u ([], [])).2.getD i 0)))] = [LV.sc (.string ((wdsR (t.getD u ([], [])).2).getD i ⟨#[]⟩))]
        unfold wdsR
        rw [List.getD_eq_getElem?_getD (l := (t.getD u ([], [])).2.map itS), List.getElem?_map, List.getD_eq_getElem?_getD, List.getElem?_eq_getElem hi]; rfl
      unfold bldS
      simp only [↓EVP0, EVQ0, EVQ1, EVQ2, EVQ3, EVQ4, EVA, EVK, EVFS, ↓reduceIte, Nat.reduceEqDiff, Nat.reduceAdd, Nat.reduceSub, Nat.reduceMul, Nat.reduceLT, Nat.reduceLeDiff, reduceCtorEq, Int.reduceToNat, Int.reduceLT, Int.reduceLE, Int.reduceAdd, Int.reduceSub, Int.reduceMul, Int.reduceNeg, Int.reduceEq, Nat.reduceMod, forall_eq_or_imp, forall_eq, forall_const, cond_true, cond_false, decide_true, decide_false, true_imp_iff, implies_true, Int.cast_ofNat_Int, forall_eq']
      have e9 := txtR_1 hu2
      rw [show 2 * u + 1 + 1 = 2 * u + 2 by omega] at e9
      exact ⟨by unfold In64; omega, v + 1 + 1, hO2, by rw [← e9, u8I_len], rfl, by rw [e9]⟩
  · unfold lb31_1
    simp only [↓EVP0, EVQ0, EVQ1, EVQ2, EVQ3, EVQ4, EVA, EVK, EVFS, ↓reduceIte, Nat.reduceEqDiff, Nat.reduceAdd, Nat.reduceSub, Nat.reduceMul, Nat.reduceLT, Nat.reduceLeDiff, reduceCtorEq, Int.reduceToNat, Int.reduceLT, Int.reduceLE, Int.reduceAdd, Int.reduceSub, Int.reduceMul, Int.reduceNeg, Int.reduceEq, Nat.reduceMod, forall_eq_or_imp, forall_eq, forall_const, cond_true, cond_false, decide_true, decide_false, true_imp_iff, implies_true, Int.cast_ofNat_Int, forall_eq']
    exact ⟨by unfold In64; omega, hu2, v, hO, rfl, rfl, rfl⟩
end Go.Proofs.YtcdepkflghcjpaaDoor
namespace Go.Proofs.YtcdepkflghcjpaaDoor
set_option linter.unusedSimpArgs false
set_option linter.unusedVariables false
open Go.RowKit
set_option maxRecDepth 20000

theorem str_app (a b : By) : strB a ++ strB b = strB (a ++ b) := by
  apply ByteArray.ext
  simp [strB]
theorem dd_small {n : Nat} (h : n < 10) : Lib.decDigits n = [UInt8.ofNat (48 + n % 10)] := by
  rw [Lib.decDigits, dif_pos h, Nat.mod_eq_of_lt h]
theorem dd_big {n : Nat} (h : ¬ n < 10) : Lib.decDigits n = Lib.decDigits (n / 10) ++ [UInt8.ofNat (48 + n % 10)] := by
  rw [Lib.decDigits, dif_neg h]
theorem dd_len : ∀ n : Nat, (Lib.decDigits n).length ≤ n + 1 := by
  intro n
  induction n using Nat.strongRecOn with
  | ind n ih =>
    by_cases h : n < 10
    · rw [dd_small h]; simp
    · rw [dd_big h, List.length_append, List.length_singleton]
      have := ih (n / 10) (by omega)
      omega
theorem ev_decimal : ∀ (n : Nat), n ≤ 1000000 → Ev Tryd.prog 93 [.sc (.int .i64 n)] (.sc (.string (strB (Lib.decDigits n)))) := by
  intro n
  induction n using Nat.strongRecOn with
  | ind n ih =>
    intro hn
    refine ev_fn Tryd.func93 comp93 (show 1 ≤ Tryd.f93.ntmps by decide) ?_; unfold cf93 rf93; simp only [↓EVP0, EVQ0, EVQ1, EVQ2, EVQ3, EVQ4, EVA, EVK, EVF, ↓reduceIte, Nat.reduceEqDiff, Nat.reduceAdd, Nat.reduceSub, Nat.reduceMul, Nat.reduceLT, Nat.reduceLeDiff, reduceCtorEq, Int.reduceToNat, Int.reduceLT, Int.reduceLE, Int.reduceAdd, Int.reduceSub, Int.reduceMul, Int.reduceNeg, Int.reduceEq, Nat.reduceMod, forall_eq_or_imp, forall_eq, forall_const, cond_true, cond_false, decide_true, decide_false, true_imp_iff, implies_true, Int.cast_ofNat_Int, forall_eq']
    have e1 : (n : Int).tmod 10 = ((n % 10 : Nat) : Int) := rfl
    have e2 : (n : Int).tdiv 10 = ((n / 10 : Nat) : Int) := rfl
    have ew : IntKind.u8.wrap (48 + ((n % 10 : Nat) : Int)) = ((48 + n % 10 : Nat) : Int) := by
      have h : ∀ m, m < 10 → IntKind.u8.wrap (48 + ((m : Nat) : Int)) = ((48 + m : Nat) : Int) := by decide
      exact h _ (Nat.mod_lt _ (by omega))
    rw [e1, e2, ew]
    refine ⟨by omega, by unfold In64; omega, fun _ => [.sc (.int .u8 ((48 + n % 10 : Nat) : Int))], fun i hi => by rw [show i = 0 by omega]; rfl, fun _ _ => trivial, fun hg => ?_, fun hg => ⟨⟨by omega, by unfold In64; omega⟩, ?_⟩⟩
    · have hn2 : n < 10 := by have := of_decide_eq_true hg; omega
      rw [dd_small hn2]
      rfl
    · have hn2 : ¬ n < 10 := by have := of_decide_eq_false hg; omega
      have h1 := ih (n / 10) (by omega) (by omega)
      refine callK_ro (h1) ?_ ?_
      · simp only [↓EVP0, EVQ0, EVQ1, EVQ2, EVQ3, EVQ4, EVA, EVK, EVF, ↓reduceIte, Nat.reduceEqDiff, Nat.reduceAdd, Nat.reduceSub, Nat.reduceMul, Nat.reduceLT, Nat.reduceLeDiff, reduceCtorEq, Int.reduceToNat, Int.reduceLT, Int.reduceLE, Int.reduceAdd, Int.reduceSub, Int.reduceMul, Int.reduceNeg, Int.reduceEq, Nat.reduceMod, forall_eq_or_imp, forall_eq, forall_const, cond_true, cond_false, decide_true, decide_false, true_imp_iff, implies_true, Int.cast_ofNat_Int, forall_eq']
      simp only [↓EVP0, EVQ0, EVQ1, EVQ2, EVQ3, EVQ4, EVA, EVK, EVF, ↓reduceIte, Nat.reduceEqDiff, Nat.reduceAdd, Nat.reduceSub, Nat.reduceMul, Nat.reduceLT, Nat.reduceLeDiff, reduceCtorEq, Int.reduceToNat, Int.reduceLT, Int.reduceLE, Int.reduceAdd, Int.reduceSub, Int.reduceMul, Int.reduceNeg, Int.reduceEq, Nat.reduceMod, forall_eq_or_imp, forall_eq, forall_const, cond_true, cond_false, decide_true, decide_false, true_imp_iff, implies_true, Int.cast_ofNat_Int, forall_eq']
      have es : strOfNums [u8Of (.sc (.int .u8 (48 + ((n % 10 : Nat) : Int))))] = strB [UInt8.ofNat (48 + n % 10)] := rfl
      rw [es, strB_size, strB_size, dd_big hn2, ← str_app]
      have := dd_len (n / 10)
      exact ⟨by simp only [List.length_singleton]; omega, rfl⟩
theorem itoa_neg {n : Int} (h : n < 0) : Lib.itoa n = [45] ++ Lib.decDigits n.natAbs := by unfold Lib.itoa; rw [if_pos h]; rfl
theorem itoa_pos {n : Int} (h : 0 ≤ n) : Lib.itoa n = Lib.decDigits n.toNat := by unfold Lib.itoa; rw [if_neg (by omega)]
theorem ev_number19 (n : Int) (hn : -100000 ≤ n ∧ n ≤ 100000) : Ev Tryd.prog 69 [.sc (.int .i64 n)] (.sc (.string (strB (Lib.itoa n)))) := by
  have h1 := fun m hm => ev_decimal m hm
  refine ev_fn Tryd.func69 comp69 (show 1 ≤ Tryd.f69.ntmps by decide) ?_; unfold cf69 rf69; simp only [↓EVP0, EVQ0, EVQ1, EVQ2, EVQ3, EVQ4, EVA, EVK, EVF, ↓reduceIte, Nat.reduceEqDiff, Nat.reduceAdd, Nat.reduceSub, Nat.reduceMul, Nat.reduceLT, Nat.reduceLeDiff, reduceCtorEq, Int.reduceToNat, Int.reduceLT, Int.reduceLE, Int.reduceAdd, Int.reduceSub, Int.reduceMul, Int.reduceNeg, Int.reduceEq, Nat.reduceMod, forall_eq_or_imp, forall_eq, forall_const, cond_true, cond_false, decide_true, decide_false, true_imp_iff, implies_true, Int.cast_ofNat_Int, forall_eq']
  refine ⟨fun hg => ?_, fun hg => ?_⟩
  · have hn2 := of_decide_eq_true hg
    have h2 := h1 n.natAbs (by omega)
    rw [show ((n.natAbs : Nat) : Int) = 0 - n by omega] at h2
    refine ⟨by unfold In64; omega, ?_⟩
    refine callK_ro (h2) ?_ ?_
    · simp only [↓EVP0, EVQ0, EVQ1, EVQ2, EVQ3, EVQ4, EVA, EVK, EVF, ↓reduceIte, Nat.reduceEqDiff, Nat.reduceAdd, Nat.reduceSub, Nat.reduceMul, Nat.reduceLT, Nat.reduceLeDiff, reduceCtorEq, Int.reduceToNat, Int.reduceLT, Int.reduceLE, Int.reduceAdd, Int.reduceSub, Int.reduceMul, Int.reduceNeg, Int.reduceEq, Nat.reduceMod, forall_eq_or_imp, forall_eq, forall_const, cond_true, cond_false, decide_true, decide_false, true_imp_iff, implies_true, Int.cast_ofNat_Int, forall_eq']
    simp only [↓EVP0, EVQ0, EVQ1, EVQ2, EVQ3, EVQ4, EVA, EVK, EVF, ↓reduceIte, Nat.reduceEqDiff, Nat.reduceAdd, Nat.reduceSub, Nat.reduceMul, Nat.reduceLT, Nat.reduceLeDiff, reduceCtorEq, Int.reduceToNat, Int.reduceLT, Int.reduceLE, Int.reduceAdd, Int.reduceSub, Int.reduceMul, Int.reduceNeg, Int.reduceEq, Nat.reduceMod, forall_eq_or_imp, forall_eq, forall_const, cond_true, cond_false, decide_true, decide_false, true_imp_iff, implies_true, Int.cast_ofNat_Int, forall_eq']
    rw [itoa_neg hn2, ← str_app, strB_size]
    have := dd_len n.natAbs
    exact ⟨by simp [ByteArray.size]; omega, rfl⟩
  · have hn2 := of_decide_eq_false hg
    have h2 := h1 n.toNat (by omega)
    rw [show ((n.toNat : Nat) : Int) = n by omega] at h2
    refine callK_ro (h2) ?_ ?_
    · simp only [↓EVP0, EVQ0, EVQ1, EVQ2, EVQ3, EVQ4, EVA, EVK, EVF, ↓reduceIte, Nat.reduceEqDiff, Nat.reduceAdd, Nat.reduceSub, Nat.reduceMul, Nat.reduceLT, Nat.reduceLeDiff, reduceCtorEq, Int.reduceToNat, Int.reduceLT, Int.reduceLE, Int.reduceAdd, Int.reduceSub, Int.reduceMul, Int.reduceNeg, Int.reduceEq, Nat.reduceMod, forall_eq_or_imp, forall_eq, forall_const, cond_true, cond_false, decide_true, decide_false, true_imp_iff, implies_true, Int.cast_ofNat_Int, forall_eq']
    simp only [↓EVP0, EVQ0, EVQ1, EVQ2, EVQ3, EVQ4, EVA, EVK, EVF, ↓reduceIte, Nat.reduceEqDiff, Nat.reduceAdd, Nat.reduceSub, Nat.reduceMul, Nat.reduceLT, Nat.reduceLeDiff, reduceCtorEq, Int.reduceToNat, Int.reduceLT, Int.reduceLE, Int.reduceAdd, Int.reduceSub, Int.reduceMul, Int.reduceNeg, Int.reduceEq, Nat.reduceMod, forall_eq_or_imp, forall_eq, forall_const, cond_true, cond_false, decide_true, decide_false, true_imp_iff, implies_true, Int.cast_ofNat_Int, forall_eq']
    rw [itoa_pos (by omega)]
end Go.Proofs.YtcdepkflghcjpaaDoor
namespace Go.Proofs.YtcdepkflghcjpaaDoor
set_option linter.unusedSimpArgs false
set_option linter.unusedVariables false
open Go.RowKit
set_option maxRecDepth 20000

theorem itoa_len {n : Int} (h : -2 ≤ n ∧ n < 32) : (Lib.itoa n).length ≤ 40 := by
  by_cases e : n < 0
  · rw [itoa_neg e, List.length_append, List.length_singleton]
    have := dd_len n.natAbs
    omega
  · rw [itoa_pos (by omega)]
    have := dd_len n.toNat
    omega
end Go.Proofs.YtcdepkflghcjpaaDoor
namespace Go.Proofs.YtcdepkflghcjpaaDoor
set_option linter.unusedSimpArgs false
set_option linter.unusedVariables false
open Go.RowKit
set_option maxRecDepth 20000

theorem spl_one {c : UInt8} : ∀ {w : By}, (∀ x, x ∈ w → x ≠ c) → splE c w = [w]
  | [], _ => rfl
  | b :: w, h => by
    show (if b = c then _ else _) = _
    rw [if_neg (h b (by simp)), show splE c w = [w] from spl_one fun x hx => h x (by simp [hx])]
theorem spl_app {c : UInt8} {r : By} : ∀ {w : By}, (∀ x, x ∈ w → x ≠ c) → splE c (w ++ c :: r) = w :: splE c r
  | [], _ => by
    show (if c = c then _ else _) = _
    rw [if_pos rfl]
  | b :: w, h => by
    show (if b = c then _ else _) = _
    rw [if_neg (h b (by simp))]
    have ih : splE c (w.append (c :: r)) = w :: splE c r := spl_app fun x hx => h x (by simp [hx])
    rw [ih]
theorem itoa_chars : ((List.range 34).all fun k => (Lib.itoa ((k : Int) - 2)).all fun c => c != 10 && c != 32) = true := by kernel_rfl
theorem itoa_ne {k : Int} (h : -2 ≤ k ∧ k < 32) : ∀ x, x ∈ Lib.itoa k → x ≠ 10 ∧ x ≠ 32 := by
  have h1 := List.all_eq_true.1 itoa_chars (k + 2).toNat (List.mem_range.2 (by omega))
  rw [show (((k + 2).toNat : Nat) : Int) - 2 = k by omega] at h1
  intro x hx
  have h2 := List.all_eq_true.1 h1 x hx
  simp only [Bool.and_eq_true, bne_iff_ne, ne_eq] at h2
  exact h2
theorem itS_data (k : Int) : (itS k).data.toList = Lib.itoa k := by unfold itS; simp
theorem line_cons (x y : Int) (r : List Int) : lineW (wdsR (x :: y :: r)) = Lib.itoa x ++ 32 :: lineW (wdsR (y :: r)) := by
  show lineW (itS x :: itS y :: r.map itS) = _
  rw [lineW_cons, itS_data]; rfl
theorem line_one (x : Int) : lineW (wdsR [x]) = Lib.itoa x := by
  show lineW [itS x] = _
  rw [lineW_one, itS_data]
end Go.Proofs.YtcdepkflghcjpaaDoor
