/- Chapter 33: cutting a line's end, and an object that is seen as read-only from where it hangs; Chapter 33: a line is read: demand.Net.add; Chapter 33: the statement that calls yield, and the pieces of a function's code; Chapter 33: strings.Lines: the iterator, walked; Chapter 33: strings.Lines: the iterator, walked; Chapter 33: the pieces of demand.Parse, and one round of its loop; Chapter 33: one round of demand.Parse's loop; Chapter 33: how a net's text is read, in plain terms; Chapter 33: demand.Parse, walked. Conditions: none. -/
import Derived.Test.YtdfiicpikcdokaaGreatDoorMG
namespace Go.Proofs.YtdfiicpikcdokaaGreatDoor
set_option linter.unusedSimpArgs false
set_option linter.unusedVariables false
open Go.RowKit
set_option maxRecDepth 20000

theorem last_ten (l : By) (h : 1 ≤ l.length) : ((strB l).extract (l.length - 1) l.length = strB [10]) ↔ l.getLast? = some 10 := by
  have e : (strB l).extract (l.length - 1) l.length = strB (l.drop (l.length - 1)) := by
    rw [← strB_of ((strB l).extract (l.length - 1) l.length), Lib.extract_data, strB_data, List.take_of_length_le (by rw [List.length_drop]; exact Nat.le_refl _)]
  have hne : l ≠ [] := by intro e; subst e; simp at h
  rw [e]
  obtain ⟨v, c, rfl⟩ : ∃ v c, l = v ++ [c] := ⟨l.dropLast, l.getLast hne, (List.dropLast_concat_getLast hne).symm⟩
  rw [List.length_append, List.length_singleton, Nat.add_sub_cancel, List.drop_left, List.getLast?_append]
  constructor
  · intro h2; have := strB_inj h2; simpa using this
  · intro h2; have h2 : c = 10 := by simpa using h2
    rw [h2]
theorem ev_hasSufL (l : By) (hb : l.length ≤ 100000) : Ev Tryz.prog 60 [.sc (.string (strB l)), .sc (.string (strB [10]))] (.sc (.bool (decide (l.getLast? = some 10)))) := by
  have hsz : (strB [10]).size = 1 := by rw [strB_size]; rfl
  have hl := strB_size l
  refine ev_fn Tryz.func60 comp60 (show 2 ≤ Tryz.f60.ntmps by decide) ?_; unfold cf60 rf60; simp only [↓EVP0, EVQ0, EVQ1, EVQ2, EVQ3, EVQ4, EVA, EVK, EVFR, ↓reduceIte, Nat.reduceEqDiff, Nat.reduceAdd, Nat.reduceSub, Nat.reduceMul, Nat.reduceLT, Nat.reduceLeDiff, reduceCtorEq, Int.reduceToNat, Int.reduceLT, Int.reduceLE, Int.reduceAdd, Int.reduceSub, Int.reduceMul, Int.reduceNeg, Int.reduceEq, Nat.reduceMod, forall_eq_or_imp, forall_eq, forall_const, EVY, true_imp_iff, implies_true, Int.cast_ofNat_Int, forall_eq']
  rw [hsz, hl]
  refine ⟨fun h => ?_, fun h => ?_, ?_⟩
  · have := of_decide_eq_true h
    unfold In64; omega
  · have := of_decide_eq_true h
    omega
  by_cases h : 1 ≤ l.length
  · have h2 : decide (((1 : Nat) : Int) ≤ (l.length : Int)) = true := decide_eq_true (by omega)
    rw [h2, cond_true, show ((l.length : Int) - ((1 : Nat) : Int)).toNat = l.length - 1 by omega]
    exact decide_eq_decide.2 (last_ten l h)
  · have h2 : decide (((1 : Nat) : Int) ≤ (l.length : Int)) = false := decide_eq_false (by omega)
    obtain rfl : l = [] := List.length_eq_zero_iff.1 (by omega)
    rw [h2, cond_false]; rfl
def cutL10 (l : By) : By := if l.getLast? = some 10 then l.dropLast else l
theorem strB_take (l : By) (k : Nat) : (strB l).extract 0 k = strB (l.take k) := by
  rw [← strB_of ((strB l).extract 0 k), Lib.extract_data, strB_data]; rfl
theorem ev_cutSufL (l : By) (hb : l.length ≤ 100000) : Ev Tryz.prog 45 [.sc (.string (strB l)), .sc (.string (strB [10]))] (.tup [.sc (.string (strB (cutL10 l))), .sc (.bool (decide (l.getLast? = some 10)))]) := by
  have h1 := ev_hasSufL l hb
  have hsz : (strB [10]).size = 1 := by rw [strB_size]; rfl
  have hl := strB_size l
  refine ev_fn Tryz.func45 comp45 (show 2 ≤ Tryz.f45.ntmps by decide) ?_; unfold cf45 rf45; simp only [↓EVP0, EVQ0, EVQ1, EVQ2, EVQ3, EVQ4, EVA, EVK, EVFR, ↓reduceIte, Nat.reduceEqDiff, Nat.reduceAdd, Nat.reduceSub, Nat.reduceMul, Nat.reduceLT, Nat.reduceLeDiff, reduceCtorEq, Int.reduceToNat, Int.reduceLT, Int.reduceLE, Int.reduceAdd, Int.reduceSub, Int.reduceMul, Int.reduceNeg, Int.reduceEq, Nat.reduceMod, forall_eq_or_imp, forall_eq, forall_const, EVY, true_imp_iff, implies_true, Int.cast_ofNat_Int, forall_eq']
  refine callK_ro (h1) ?_ ?_
  · simp only [↓EVP0, EVQ0, EVQ1, EVQ2, EVQ3, EVQ4, EVA, EVK, EVFR, ↓reduceIte, Nat.reduceEqDiff, Nat.reduceAdd, Nat.reduceSub, Nat.reduceMul, Nat.reduceLT, Nat.reduceLeDiff, reduceCtorEq, Int.reduceToNat, Int.reduceLT, Int.reduceLE, Int.reduceAdd, Int.reduceSub, Int.reduceMul, Int.reduceNeg, Int.reduceEq, Nat.reduceMod, forall_eq_or_imp, forall_eq, forall_const, EVY, true_imp_iff, implies_true, Int.cast_ofNat_Int, forall_eq']
  simp only [↓EVP0, EVQ0, EVQ1, EVQ2, EVQ3, EVQ4, EVA, EVK, EVFR, ↓reduceIte, Nat.reduceEqDiff, Nat.reduceAdd, Nat.reduceSub, Nat.reduceMul, Nat.reduceLT, Nat.reduceLeDiff, reduceCtorEq, Int.reduceToNat, Int.reduceLT, Int.reduceLE, Int.reduceAdd, Int.reduceSub, Int.reduceMul, Int.reduceNeg, Int.reduceEq, Nat.reduceMod, forall_eq_or_imp, forall_eq, forall_const, EVY, true_imp_iff, implies_true, Int.cast_ofNat_Int, forall_eq']
  rw [hsz, hl]
  refine ⟨fun h => ?_, fun h => ?_⟩
  · have h2 : ¬ l.getLast? = some 10 := by simpa using h
    unfold cutL10
    rw [if_neg h2, decide_eq_false h2]
    exact ⟨rfl, rfl⟩
  · have h2 : l.getLast? = some 10 := by simpa using h
    have h3 : 1 ≤ l.length := by
      cases l with
      | nil => simp at h2
      | cons a r => simp
    unfold cutL10
    rw [if_pos h2, decide_eq_true h2]
    refine ⟨by unfold In64; omega, by omega, ?_⟩
    rw [show ((l.length : Int) - ((1 : Nat) : Int)).toNat = l.length - 1 by omega, strB_take, List.dropLast_eq_take]
    exact ⟨rfl, rfl⟩
theorem ev_cutSuf (l : By) (hb : l.length ≤ 100000) : Ev Tryz.prog 24 [.sc (.string (strB l)), .sc (.string (strB [10]))] (.tup [.sc (.string (strB (cutL10 l))), .sc (.bool (decide (l.getLast? = some 10)))]) := by
  have h1 := ev_cutSufL l hb
  refine ev_fn Tryz.func24 comp24 (show 2 ≤ Tryz.f24.ntmps by decide) ?_; unfold cf24 rf24; simp only [↓EVP0, EVQ0, EVQ1, EVQ2, EVQ3, EVQ4, EVA, EVK, EVFR, ↓reduceIte, Nat.reduceEqDiff, Nat.reduceAdd, Nat.reduceSub, Nat.reduceMul, Nat.reduceLT, Nat.reduceLeDiff, reduceCtorEq, Int.reduceToNat, Int.reduceLT, Int.reduceLE, Int.reduceAdd, Int.reduceSub, Int.reduceMul, Int.reduceNeg, Int.reduceEq, Nat.reduceMod, forall_eq_or_imp, forall_eq, forall_const, EVY, true_imp_iff, implies_true, Int.cast_ofNat_Int, forall_eq']
  refine callK_ro (h1) ?_ ?_
  · simp only [↓EVP0, EVQ0, EVQ1, EVQ2, EVQ3, EVQ4, EVA, EVK, EVFR, ↓reduceIte, Nat.reduceEqDiff, Nat.reduceAdd, Nat.reduceSub, Nat.reduceMul, Nat.reduceLT, Nat.reduceLeDiff, reduceCtorEq, Int.reduceToNat, Int.reduceLT, Int.reduceLE, Int.reduceAdd, Int.reduceSub, Int.reduceMul, Int.reduceNeg, Int.reduceEq, Nat.reduceMod, forall_eq_or_imp, forall_eq, forall_const, EVY, true_imp_iff, implies_true, Int.cast_ofNat_Int, forall_eq']
  simp only [↓EVP0, EVQ0, EVQ1, EVQ2, EVQ3, EVQ4, EVA, EVK, EVFR, ↓reduceIte, Nat.reduceEqDiff, Nat.reduceAdd, Nat.reduceSub, Nat.reduceMul, Nat.reduceLT, Nat.reduceLeDiff, reduceCtorEq, Int.reduceToNat, Int.reduceLT, Int.reduceLE, Int.reduceAdd, Int.reduceSub, Int.reduceMul, Int.reduceNeg, Int.reduceEq, Nat.reduceMod, forall_eq_or_imp, forall_eq, forall_const, EVY, true_imp_iff, implies_true, Int.cast_ofNat_Int, forall_eq']
theorem ixB (c : UInt8) : ∀ l : By, Lib.indexByte l c = if (cutE c l).2.2 = true then ((cutE c l).1.length : Int) else -1
  | [] => rfl
  | b :: r => by
    have ih := ixB c r
    show (if b == c then _ else _) = _
    by_cases h : b = c
    · subst h
      have e : cutE b (b :: r) = ([], r, true) := by
        show (if b = b then _ else _) = _
        rw [if_pos rfl]
      rw [e]; simp
    · have e : cutE c (b :: r) = (b :: (cutE c r).1, (cutE c r).2.1, (cutE c r).2.2) := by
        show (if b = c then _ else _) = _
        rw [if_neg h]
      have hb : (b == c) = false := by simpa using h
      rw [hb, e, ih]
      dsimp only
      by_cases q : (cutE c r).2.2 = true
      · rw [if_pos q, if_pos q]
        have : ((((cutE c r).1.length : Nat) : Int) == -1) = false := by
          rw [beq_eq_false_iff_ne]; omega
        rw [this]; simp
      · rw [if_neg q, if_neg q]; rfl
theorem ev_idxB (l : By) : Ev Tryz.prog 44 [.sc (.string (strB l)), .sc (.int .u8 10)] (.sc (.int .i64 (if (cutE 10 l).2.2 = true then ((cutE 10 l).1.length : Int) else -1))) := by
  rintro R w ⟨vs⟩ hR hgl hs2 ha
  match vs, hs2 with
  | [v, u], _ =>
    have h0 : v = .string (strB l) := sc_inv (ha 0 _ rfl)
    have h2 : u = .int .u8 10 := sc_inv (ha 1 _ rfl)
    subst h0; subst h2
    refine (Tryz.strings_IndexByte (strB l) 10 w).mono ?_
    rintro e w' ⟨rfl, rfl⟩
    refine ⟨_, R, rfl, fun _ _ h => h, fun _ _ => rfl, fun b q hb => hR b q hb, Below.refl _ _, ?_⟩
    have : Lib.indexByte (strB l).data.toList ((10 : Int).toNat.toUInt8) = if (cutE 10 l).2.2 = true then ((cutE 10 l).1.length : Int) else -1 := by
      rw [strB_data]; exact ixB 10 l
    rw [this]
    exact .sc _ rfl

def frzBC (h : LH) (D : List Nat) (j c : Nat) (v : LV) : Prop := j ∉ D ∧ j < h.n ∧ match (h.f j).2 with
  | .box cs => ∃ lv, cs[c]? = some lv ∧ roTo1 h lv v ∧ hd1 D lv
  | _ => False
def frzBH (h : LH) (D : List Nat) (j c : Nat) (v : LV) : LH := (killH h D).set j ((h.f j).1, match (h.f j).2 with
  | .box cs => .box (cs.set c v)
  | x => x)
theorem frzB_to {s : LS} {h : LH} {D : List Nat} {j c : Nat} {v : LV} (hc : frzBC h D j c v) : FrzTo s h s (frzBH h D j c v) := by
  intro B R ι w hB hr
  obtain ⟨R', hle, hfz, hT⟩ := trans_kill hB hr D
  obtain ⟨hjD, hjn, hob⟩ := hc
  cases ho : (h.f j).2 with
  | box cs =>
    rw [ho] at hob
    obtain ⟨lv, h1, h2, h3⟩ := hob
    have hfj : (killH h D).f j = h.f j := by rw [killH_f, if_neg hjD]
    have hkn : j < (killH h D).n := by rw [killH_n]; exact hjn
    have hm : (ι j).m ≠ 0 := by
      intro e
      have := hr.empty j hjn (by rw [ho]; rfl) (by rw [ho]; rfl) e
      rw [ho] at this
      have := (List.getElem?_eq_some_iff.1 h1).1
      simp only [LO.size] at *; omega
    obtain ⟨cl, el, q1, q2, q3, q4, q5⟩ := (hT.rep.cells j hkn (by rw [hfj, ho]; rfl) (by rw [hfj, ho]; rfl) hm).ex
    obtain ⟨_, _, p1, p2, p3, p4, p5⟩ := (hr.cells j hjn (by rw [ho]; rfl) (by rw [ho]; rfl) hm).ex
    rw [hfj, ho] at q3 q5
    rw [ho] at p3 p5
    have hch := hT.rep.change hB hkn (ver' := (h.f j).1) (ob' := .box (cs.set c v)) (x' := ι j) (w' := w) (by rw [hfj, ho]; rfl) (by rw [hfj]; exact Nat.le_refl _) (fun _ => rfl) rfl rfl (by rw [hfj, ho]; rfl) rfl rfl rfl (Nat.le_refl _) (fun _ _ _ => rfl) (.inl ⟨rfl, hm⟩)
      (fun mono _ => ⟨cl, el, q1, q2, by simpa [LO.size] using q3, q4, fun i c' lv' hx => ?_⟩) (fun e => absurd e hm)
    rotate_left
    · have hx : (if i = 0 then (cs.set c v)[c']? else none) = some lv' := hx
      have hi : i = 0 := by
        by_cases hi : i = 0
        · exact hi
        · rw [if_neg hi] at hx; cases hx
      subst hi
      rw [if_pos rfl] at hx
      by_cases e : c' = c
      · subst e
        rw [List.getElem?_set_self (List.getElem?_eq_some_iff.1 h1).1] at hx
        cases hx
        obtain ⟨y, y1, y2⟩ := p5 0 c' lv (show (if (0 : Nat) = 0 then cs[c']? else none) = some lv by rw [if_pos rfl]; exact h1)
        rw [p1] at q1
        cases q1
        exact ⟨y, y1, .ro (roTo1_okD hr hle hfz y2 h2 h3)⟩
      · rw [List.getElem?_set_ne (fun e2 => e e2.symm)] at hx
        obtain ⟨y, y1, y2⟩ := q5 0 c' lv' (show (if (0 : Nat) = 0 then cs[c']? else none) = some lv' by rw [if_pos rfl]; exact hx)
        exact ⟨y, y1, y2.mono mono⟩
    have he : updI ι j (ι j) = ι := by
      funext k
      unfold updI
      split
      · rename_i e; rw [e]
      · rfl
    rw [he] at hch
    have hT2 := hT.trans hch
    have hh : frzBH h D j c v = (killH h D).set j ((h.f j).1, .box (cs.set c v)) := by unfold frzBH; rw [ho]
    rw [hh]
    exact ⟨R', ι, hT2, fun t x hx => hx.mono hT2.mono⟩
  | _ => rw [ho] at hob; exact hob.elim
theorem lwp_toJ {P : Program} {s : LS} {h : LH} {nb : Nat} {a b : LC} {K : LS → LH → Prop} {E : Nat → LS → LH → Prop} {T : LS → LH → Prop} {α : Type} (I : α → Prop) (sv : α → List (Nat × LV)) (ho : α → List (Nat × LO))
    (h1 : lwp P nb a (fun s h => ∃ x, I x ∧ FrzTo s h s (mkH (ho x)) ∧ weakS (ho x).length s (sv x)) E T s h) (h3 : ∀ x, I x → lwp P nb b K E T (mkS (sv x)) (mkH (ho x))) : @lwpJ P nb a b ⟨K, E, T⟩ s h := by
  refine lwp_mono_k (c := a) h1 fun s h ⟨x, hx, h2, hs⟩ => ⟨_, _, .inr (.inr (.inl ?_)), h3 x hx⟩
  intro B R ι w hB hr
  obtain ⟨R', ι', hT, hv⟩ := h2 B R ι w hB hr
  refine ⟨R', ι', hT, fun t y hy => ?_⟩
  have : ∀ sv : List (Nat × LV), weakS (ho x).length s sv → mkS sv t = s t ∨ mkS sv t = .any := by
    intro sv
    induction sv with
    | nil => intro _; exact .inr rfl
    | cons p r ih =>
      obtain ⟨i, v⟩ := p
      intro hw
      show (if t = i then v else mkS r t) = s t ∨ (if t = i then v else mkS r t) = .any
      by_cases e : t = i
      · rw [if_pos e, e]; exact .inl hw.1.symm
      · rw [if_neg e]; exact ih hw.2.2
  rcases this (sv x) hs with e | e
  · rw [e]; exact hv t y hy
  · rw [e]; exact .any _
def phO : LO → Prop
  | .ints xs => xs = []
  | .row _ n _ => n = 0
  | _ => False
theorem Rep.phantom {R : RO} {ι : IM} {h : LH} {B : Nat} {w : World} (hr : Rep R ι h B w) (hB : B ≤ w.heap.size) {ob : LO} (ho : phO ob) : Trans B R ι h w R (updI ι h.n ⟨0, 0, 0⟩) (h.push ob) w := by
  have hmono : Mono R ι h R (updI ι h.n ⟨0, 0, 0⟩) (h.push ob) := by
    refine ⟨fun _ _ hx => hx, by simp [LH.push], fun k hk => ?_, fun k hk _ => ?_⟩
    · simp [LH.push, Nat.ne_of_lt hk]
    · simp [updI, Nat.ne_of_lt hk]
  have hfn : (h.push ob).f h.n = (0, ob) := by simp [LH.push]
  have hin : updI ι h.n ⟨0, 0, 0⟩ h.n = ⟨0, 0, 0⟩ := by simp [updI]
  have hnm : ob.isMap = false := by cases ob <;> first | rfl | exact ho.elim
  have hold : ∀ k, k < (h.push ob).n → k ≠ h.n → k < h.n ∧ (h.push ob).f k = h.f k ∧ updI ι h.n ⟨0, 0, 0⟩ k = ι k := fun k hk hne => by
    have : k < h.n + 1 := hk
    exact ⟨by omega, by simp [LH.push, hne], by simp [updI, hne]⟩
  have hnew : ∀ k, ((updI ι h.n ⟨0, 0, 0⟩ k).m ≠ 0 ∨ ((h.push ob).f k).2.isMap = true) → k ≠ h.n := by
    intro k hk e
    subst e
    rw [hin, hfn, hnm] at hk
    rcases hk with hk | hk
    · exact hk rfl
    · cases hk
  refine ⟨⟨hr.ro, ?_, ?_, ?_, ?_, ?_, ?_, hr.gl⟩, hmono, Below.refl _ _, fun _ _ => rfl, hB⟩
  · intro k hk h1 h2 h3
    obtain ⟨e1, e2, e3⟩ := hold k hk (hnew k (.inl h3))
    rw [e2] at h1 h2 ⊢
    rw [e3] at h3 ⊢
    obtain ⟨cl, el, q1, q2, q3, q4, q5⟩ := (hr.cells k e1 h1 h2 h3).ex
    exact ⟨cl, el, q1, q2, q3, q4, fun i c lv hx => let ⟨v, a1, a2⟩ := q5 i c lv hx; ⟨v, a1, a2.mono hmono⟩⟩
  · intro k hk h1 h2 h3
    by_cases e : k = h.n
    · subst e
      rw [hfn]
      cases ob with
      | ints xs => have : xs = [] := ho; rw [this]; rfl
      | row z n f => have : n = 0 := ho; rw [this]; simp [LO.size]
      | _ => exact ho.elim
    · obtain ⟨e1, e2, e3⟩ := hold k hk e
      rw [e2] at h1 h2 ⊢
      rw [e3] at h3
      exact hr.empty k e1 h1 h2 h3
  · intro k hk h1 h2
    obtain ⟨e1, e2, e3⟩ := hold k hk (hnew k h2)
    rw [e2] at h1 h2
    rw [e3] at h2 ⊢
    exact hr.base k e1 h1 h2
  · intro k k' hk hk' h1 h2 h3 h4
    obtain ⟨e1, e2, e3⟩ := hold k hk (hnew k h3)
    obtain ⟨d1, d2, d3⟩ := hold k' hk' (hnew k' h4)
    rw [e2] at h1 h3
    rw [e3] at h3
    rw [d2] at h2 h4
    rw [d3] at h4
    rw [e3, d3]
    exact hr.apart k k' e1 d1 h1 h2 h3 h4
  · intro k es hk he
    have hne : k ≠ h.n := hnew k (.inr (by rw [he]; rfl))
    obtain ⟨e1, e2, e3⟩ := hold k hk hne
    rw [e2] at he
    rw [e3]
    obtain ⟨ents, clock, q1, q2, q3, q4⟩ := hr.maps k es e1 he
    exact ⟨ents, clock, q1, q2, q3, fun i kv hkv => let ⟨en, a1, a2, a3⟩ := q4 i kv hkv; ⟨en, a1, a2, a3.mono hmono⟩⟩
  · intro k hk
    by_cases e : k = h.n
    · subst e
      rw [hfn]
      cases ob <;> first | trivial | exact ho.elim
    · obtain ⟨e1, e2, e3⟩ := hold k hk e
      rw [e2, e3]; exact hr.ty k e1
def phC (h : LH) (j c : Nat) (ob : LO) : Prop := phO ob ∧ j < h.n ∧ match (h.f j).2 with
  | .box cs => cs[c]? = some .nsl
  | _ => False
def phH (h : LH) (j c sz : Nat) (ob : LO) : LH := (h.push ob).set j ((h.f j).1, match (h.f j).2 with
  | .box cs => .box (cs.set c (.sl h.n 0 sz 0 0))
  | x => x)
theorem ph_trans {h : LH} {j c sz : Nat} {ob : LO} (hc : phC h j c ob) {B : Nat} {R : RO} {ι : IM} {w : World} (hB : B ≤ w.heap.size) (hr : Rep R ι h B w) : ∃ ι', Trans B R ι h w R ι' (phH h j c sz ob) w := by
  obtain ⟨ho, hjn, hob⟩ := hc
  have hT := hr.phantom hB ho
  cases hob2 : (h.f j).2 with
  | box cs =>
    rw [hob2] at hob
    have hne : j ≠ h.n := by omega
    have hfj : (h.push ob).f j = h.f j := by simp [LH.push, hne]
    have hij : updI ι h.n ⟨0, 0, 0⟩ j = ι j := by simp [updI, hne]
    have hkn : j < (h.push ob).n := by show j < h.n + 1; omega
    have hm : (ι j).m ≠ 0 := by
      intro e
      have := hr.empty j hjn (by rw [hob2]; rfl) (by rw [hob2]; rfl) e
      rw [hob2] at this
      have := (List.getElem?_eq_some_iff.1 hob).1
      simp only [LO.size] at *; omega
    obtain ⟨cl, el, q1, q2, q3, q4, q5⟩ := (hT.rep.cells j hkn (by rw [hfj, hob2]; rfl) (by rw [hfj, hob2]; rfl) (by rw [hij]; exact hm)).ex
    rw [hfj, hob2] at q3 q5
    have hch := hT.rep.change hB hkn (ver' := (h.f j).1) (ob' := .box (cs.set c (.sl h.n 0 sz 0 0))) (x' := updI ι h.n ⟨0, 0, 0⟩ j) (w' := w) (by rw [hfj, hob2]; rfl) (by rw [hfj]; exact Nat.le_refl _) (fun _ => rfl) rfl rfl (by rw [hfj, hob2]; rfl) rfl rfl rfl (Nat.le_refl _) (fun _ _ _ => rfl) (.inl ⟨rfl, by rw [hij]; exact hm⟩)
      (fun mono _ => ⟨cl, el, q1, q2, by simpa [LO.size] using q3, q4, fun i c' lv' hx => ?_⟩) (fun e => absurd e (by rw [hij]; exact hm))
    rotate_left
    · have hx : (if i = 0 then (cs.set c (.sl h.n 0 sz 0 0))[c']? else none) = some lv' := hx
      have hi : i = 0 := by
        by_cases hi : i = 0
        · exact hi
        · rw [if_neg hi] at hx; cases hx
      subst hi
      rw [if_pos rfl] at hx
      by_cases e : c' = c
      · subst e
        rw [List.getElem?_set_self (List.getElem?_eq_some_iff.1 hob).1] at hx
        cases hx
        obtain ⟨y, y1, y2⟩ := q5 0 c' .nsl (show (if (0 : Nat) = 0 then cs[c']? else none) = some .nsl by rw [if_pos rfl]; exact hob)
        obtain rfl := y2.nsl_inv
        exact ⟨_, y1, .sl h.n 0 sz 0 0 none 0 (show h.n < h.n + 1 by omega) (Nat.zero_le _) (Nat.le_refl _) (by unfold maxLen; omega) (.inl rfl)⟩
      · rw [List.getElem?_set_ne (fun e2 => e e2.symm)] at hx
        obtain ⟨y, y1, y2⟩ := q5 0 c' lv' (show (if (0 : Nat) = 0 then cs[c']? else none) = some lv' by rw [if_pos rfl]; exact hx)
        exact ⟨y, y1, y2.mono mono⟩
    have hh : phH h j c sz ob = (h.push ob).set j ((h.f j).1, .box (cs.set c (.sl h.n 0 sz 0 0))) := by unfold phH; rw [hob2]
    rw [hh]
    exact ⟨_, hT.trans hch⟩
  | _ => rw [hob2] at hob; exact hob.elim
theorem ph_to {s : LS} {h : LH} {j c sz : Nat} {ob : LO} (hc : phC h j c ob) : FrzTo s h s (phH h j c sz ob) := by
  intro B R ι w hB hr
  obtain ⟨ι', hT⟩ := ph_trans (sz := sz) hc hB hr
  exact ⟨R, ι', hT, fun t x hx => hx.mono hT.mono⟩
end Go.Proofs.YtdfiicpikcdokaaGreatDoor
namespace Go.Proofs.YtdfiicpikcdokaaGreatDoor
set_option linter.unusedSimpArgs false
set_option linter.unusedVariables false
open Go.RowKit
set_option maxRecDepth 20000

theorem EVFT : (∀ (l : List ByteArray) (i : Nat), txsF l i = [.sc (.string (l.getD i ⟨#[]⟩))]) ∧ True := ⟨fun _ _ => rfl, trivial⟩
def wLnk : By := [108, 105, 110, 107]
def wFlw : By := [102, 108, 111, 119]
def wMx : By := [109, 97, 120]
def lnkE : List By → List Int → Option (List Int × List By)
  | [], acc => some (acc, [])
  | w :: r, acc => if w = wMx then some (acc, w :: r) else match nm3 w with
    | none => none
    | some u => lnkE r (acc ++ [(u : Int)])
def addN (n : Nt) (ws : List By) : Nt × Bool :=
  if ws.getD 0 [] = wLnk then
    (if ws.length = 2 ∧ n.fls = [] then (⟨n.caps ++ [(prsQ (ws.getD 1 [])).1], n.fls⟩, decide ((prsQ (ws.getD 1 [])).2 = 0)) else (n, false))
  else if ws.getD 0 [] = wFlw then
    match lnkE (ws.drop 1) [] with
    | none => (n, false)
    | some (l, r) =>
      if r = [] then (⟨n.caps, n.fls ++ [⟨l, false, ⟨0, 0⟩⟩]⟩, decide (l ≠ []))
      else if r.length = 2 ∧ (prsQ (r.getD 1 [])).2 = 0 then (⟨n.caps, n.fls ++ [⟨l, true, (prsQ (r.getD 1 [])).1⟩]⟩, decide (l ≠ []))
      else (n, false)
  else (n, false)
def caO (l : List Rt) : Nat × LO := (l.length, .row 2 l.length (apF 2 (rtsF l) l.length))
def flO (l : List Fl) : Nat × LO := (l.length, .row 4 l.length (apF 4 (flsF l) l.length))
def ntB (n : Nt) : LO := .box [.sl 6 n.caps.length 2 0 n.caps.length, .sl 7 n.fls.length 4 0 n.fls.length]
def nhO (n : Nt) (i : Int) (s : By) : List (Nat × LO) :=
  [(0, .box [.nsl, .nsl]), (0, .box [.sc (.int .i64 0)]), (0, .box [.sc (.int .i64 0)]), (0, ntB n), (0, .box [.sc (.int .i64 i)]), (0, .box [.sc (.string (strB s))]), caO n.caps, flO n.fls]
def lkO (acc : List Int) : List (Nat × LO) := [(0, .box [.sl 9 acc.length 1 0 acc.length, .sc (.bool false), .sc (.int .i64 0), .sc (.int .i64 0)]), (acc.length, .ints acc)]
def lkF (acc : List Int) : List (Nat × LO) := [(0, .box [.rsl 1 acc.length (intsF acc), .sc (.bool false), .sc (.int .i64 0), .sc (.int .i64 0)]), (acc.length, .dead)]
theorem phH_mk {l : List (Nat × LO)} {j c sz v : Nat} {ob : LO} {cs : List LV} (hj : j < l.length) (hb : (mkH l).f j = (v, .box cs)) : phH (mkH l) j c sz ob = mkH ((l ++ [(0, ob)]).set j (v, .box (cs.set c (.sl l.length 0 sz 0 0)))) := by
  unfold phH
  rw [hb]
  rw [mkH_push, mkH_set _ _ _ (by simp; omega)]
  rfl
theorem frzBH_mk {l : List (Nat × LO)} {k j c v : Nat} {x : LV} {cs : List LV} (hk : k < l.length) (hj : j < l.length) (hb : (mkH l).f j = (v, .box cs)) : frzBH (mkH l) [k] j c x = mkH ((l.set k (((mkH l).f k).1, .dead)).set j (v, .box (cs.set c x))) := by
  unfold frzBH
  rw [hb]
  show ((mkH l).set k (((mkH l).f k).1, .dead)).set j _ = _
  rw [mkH_set _ _ _ hk, mkH_set _ _ _ (by simp; omega)]
theorem decV (a b : By) : decide (strB a = strB b) = decide (a = b) := decide_eq_decide.2 ⟨fun h => strB_inj h, fun h => by rw [h]⟩
theorem map_getV (ws : List By) (i : Nat) : (ws.map strB).getD i ⟨#[]⟩ = strB (ws.getD i []) := by
  rw [List.getD_eq_getElem?_getD, List.getD_eq_getElem?_getD, List.getElem?_map]
  cases ws[i]? <;> rfl
theorem apF_congr {z : Nat} {g g' : Nat → List LV} : ∀ {m : Nat}, (∀ j, j < m → g j = g' j) → apF z g m = apF z g' m
  | 0, _ => rfl
  | m + 1, h => by
    unfold apF
    rw [apF_congr (m := m) fun j hj => h j (by omega), h m (by omega)]
theorem rts_old {l : List Rt} {c : Rt} {j : Nat} (h : j < l.length) : rtsF (l ++ [c]) j = rtsF l j := by
  unfold rtsF
  rw [List.getD_eq_getElem?_getD, List.getElem?_append_left h, List.getD_eq_getElem?_getD]
theorem fls_old {l : List Fl} {c : Fl} {j : Nat} (h : j < l.length) : flsF (l ++ [c]) j = flsF l j := by
  unfold flsF
  rw [List.getD_eq_getElem?_getD, List.getElem?_append_left h, List.getD_eq_getElem?_getD]
theorem rts_new (l : List Rt) (c : Rt) : rtsF (l ++ [c]) l.length = rtL c := by
  unfold rtsF
  rw [List.getD_eq_getElem?_getD, List.getElem?_concat_length]; rfl
theorem fls_new (l : List Fl) (c : Fl) : flsF (l ++ [c]) l.length = flL c := by
  unfold flsF
  rw [List.getD_eq_getElem?_getD, List.getElem?_concat_length]; rfl
theorem app_caps (l : List Rt) (c : Rt) : (fun i => if i < l.length then apF 2 (rtsF l) l.length i else List.take 2 (List.drop ((i - l.length) * 2) (rtL c))) = apF 2 (rtsF (l ++ [c])) (l.length + 1) := by
  show _ = fun i => if i < l.length then apF 2 (rtsF (l ++ [c])) l.length i else List.take 2 (List.drop ((i - l.length) * 2) (rtsF (l ++ [c]) l.length))
  rw [rts_new, apF_congr (m := l.length) (g := rtsF (l ++ [c])) (g' := rtsF l) fun j hj => rts_old hj]
theorem app_fls (l : List Fl) (c : Fl) : (fun i => if i < l.length then apF 4 (flsF l) l.length i else List.take 4 (List.drop ((i - l.length) * 4) (flL c))) = apF 4 (flsF (l ++ [c])) (l.length + 1) := by
  show _ = fun i => if i < l.length then apF 4 (flsF (l ++ [c])) l.length i else List.take 4 (List.drop ((i - l.length) * 4) (flsF (l ++ [c]) l.length))
  rw [fls_new, apF_congr (m := l.length) (g := flsF (l ++ [c])) (g' := flsF l) fun j hj => fls_old hj]
theorem lnk_step {ws : List By} {acc : List Int} {j : Nat} (h : j < ws.length) : lnkE (ws.drop j) acc = if ws.getD j [] = wMx then some (acc, ws.drop j) else match nm3 (ws.getD j []) with
    | none => none
    | some u => lnkE (ws.drop (j + 1)) (acc ++ [(u : Int)]) := by
  rw [List.drop_eq_getElem_cons h, List.getD_eq_getElem?_getD, List.getElem?_eq_getElem h]
  rfl
theorem lk_ro {h : LH} {k : Nat} {acc : List Int} (hk : h.f k = (acc.length, .ints acc)) (hn : k < h.n) : roTo1 h (.sl k acc.length 1 0 acc.length) (.rsl 1 acc.length (intsF acc)) := by
  show 1 = 1 ∧ acc.length = acc.length ∧ k < h.n ∧ (h.f k).1 = acc.length ∧ rngC (h.f k).2 1 0 acc.length ∧ ∀ i, i < acc.length → elO (h.f k).2 (0 + i) = intsF acc i ∧ roishL (intsF acc i)
  rw [hk]
  refine ⟨rfl, rfl, hn, rfl, ⟨rfl, by simp⟩, fun i hi => ⟨by rw [Nat.zero_add]; rfl, ?_⟩⟩
  exact ⟨trivial, trivial⟩
theorem dec_ne (acc : List Int) : decide (0 < (acc.length : Int)) = decide (acc ≠ []) := by
  cases acc with
  | nil => rfl
  | cons a r => exact decide_eq_decide.2 ⟨fun _ => by simp, fun _ => by simp only [List.length_cons]; omega⟩
theorem lc_add (n : Nt) (i : Int) (s : By) (ws : List By) (h1 : 1 ≤ ws.length) (hw : ws.length ≤ 100000) (hl : ∀ w, w ∈ ws → w.length ≤ 100000) (hc : n.caps.length ≤ 100000) (hf : n.fls.length ≤ 100000) :
    LCall Tryz.prog 25 [.ptr 3 0 0 0 0, wsV ws] (mkH (nhO n i s)) (.sc (.bool (addN n ws).2)) (mkH (nhO (addN n ws).1 i s)) := by
  obtain ⟨cp, fl⟩ := n
  simp only at hc hf
  have hA : addN ⟨cp, fl⟩ ws = addN ⟨cp, fl⟩ ws := rfl
  have hp := ev_parseQ (ws.getD 1 []) (by
    rcases Nat.lt_or_ge 1 ws.length with h | h
    · exact hl _ (getD_mem [] h)
    · rw [List.getD_eq_getElem?_getD, List.getElem?_eq_none h]; simp)
  generalize hA2 : addN ⟨cp, fl⟩ ws = A at hA ⊢
  clear hA
  obtain ⟨⟨c2, f2⟩, b2⟩ := A
  unfold addN at hA2
  unfold wsV nhO ntB caO flO
  refine lcall_of_lwp Tryz.func25 comp25 (show 2 ≤ Tryz.f25.ntmps by decide) (by simp [mkH]) ?_
  unfold cf25 rf25
  simp only [↓EVP0, EVQ0, EVQ1, EVQ2, EVQ3, EVQ4, EVA, EVK, EVFD,EVFT, ↓reduceIte, Nat.reduceEqDiff, Nat.reduceAdd, Nat.reduceSub, Nat.reduceMul, Nat.reduceLT, Nat.reduceLeDiff, reduceCtorEq, Int.reduceToNat, Int.reduceLT, Int.reduceLE, Int.reduceAdd, Int.reduceSub, Int.reduceMul, Int.reduceNeg, Int.reduceEq, Nat.reduceMod, forall_eq_or_imp, forall_eq, forall_const, EVY, true_imp_iff, implies_true, Int.cast_ofNat_Int, forall_eq']
  rw [map_getV, map_getV, show ({ data := #[108, 105, 110, 107] } : ByteArray) = strB wLnk from rfl, show ({ data := #[102, 108, 111, 119] } : ByteArray) = strB wFlw from rfl, decV, decV]
  refine ⟨by omega, fun h3 => ?_, fun h3 => ⟨fun h4 => ?_, fun h4 => ?_⟩⟩
  · rw [if_pos (of_decide_eq_true h3)] at hA2
    intro _
    refine ⟨fun h5 => ?_, fun h5 => ?_⟩
    · rw [if_neg (fun h6 => by obtain ⟨e1, e2⟩ := h6; simp only at e2; rw [e1, e2] at h5; simp at h5)] at hA2
      cases hA2
      unfold fin2
      simp only [↓EVP0, EVQ0, EVQ1, EVQ2, EVQ3, EVQ4, EVA, EVK, EVFD,EVFT, ↓reduceIte, Nat.reduceEqDiff, Nat.reduceAdd, Nat.reduceSub, Nat.reduceMul, Nat.reduceLT, Nat.reduceLeDiff, reduceCtorEq, Int.reduceToNat, Int.reduceLT, Int.reduceLE, Int.reduceAdd, Int.reduceSub, Int.reduceMul, Int.reduceNeg, Int.reduceEq, Nat.reduceMod, forall_eq_or_imp, forall_eq, forall_const, EVY, true_imp_iff, implies_true, Int.cast_ofNat_Int, forall_eq']
      exact ⟨ap_allR, ap_allF⟩
    · have h6 : ws.length = 2 ∧ fl = [] := by
        by_cases e1 : ws.length = 2
        · refine ⟨e1, ?_⟩
          rw [e1] at h5
          cases fl with
          | nil => rfl
          | cons a b => simp at h5
        · rw [decide_eq_false (show ¬ (ws.length : Int) = 2 by omega)] at h5; simp at h5
      rw [if_pos h6] at hA2
      obtain ⟨h6, rfl⟩ := h6
      refine ⟨by omega, ?_⟩
      generalize prsQ (ws.getD 1 []) = q at *
      unfold ratV at hp
      refine callK_ro (hp) ?_ ?_
      · simp only [↓EVP0, EVQ0, EVQ1, EVQ2, EVQ3, EVQ4, EVA, EVK, EVFD,EVFT, ↓reduceIte, Nat.reduceEqDiff, Nat.reduceAdd, Nat.reduceSub, Nat.reduceMul, Nat.reduceLT, Nat.reduceLeDiff, reduceCtorEq, Int.reduceToNat, Int.reduceLT, Int.reduceLE, Int.reduceAdd, Int.reduceSub, Int.reduceMul, Int.reduceNeg, Int.reduceEq, Nat.reduceMod, forall_eq_or_imp, forall_eq, forall_const, EVY, true_imp_iff, implies_true, Int.cast_ofNat_Int, forall_eq']
      simp only [↓EVP0, EVQ0, EVQ1, EVQ2, EVQ3, EVQ4, EVA, EVK, EVFD,EVFT, ↓reduceIte, Nat.reduceEqDiff, Nat.reduceAdd, Nat.reduceSub, Nat.reduceMul, Nat.reduceLT, Nat.reduceLeDiff, reduceCtorEq, Int.reduceToNat, Int.reduceLT, Int.reduceLE, Int.reduceAdd, Int.reduceSub, Int.reduceMul, Int.reduceNeg, Int.reduceEq, Nat.reduceMod, forall_eq_or_imp, forall_eq, forall_const, EVY, true_imp_iff, implies_true, Int.cast_ofNat_Int, forall_eq']
      refine ⟨_, fun _ _ => rfl, ⟨Nat.le_refl _, fun k hk => by rw [apF_rt hk]; rfl⟩, by unfold appRoom; omega, ?_⟩
      cases hA2
      rw [List.length_append, List.length_singleton]
      unfold fin2
      simp only [↓EVP0, EVQ0, EVQ1, EVQ2, EVQ3, EVQ4, EVA, EVK, EVFD,EVFT, ↓reduceIte, Nat.reduceEqDiff, Nat.reduceAdd, Nat.reduceSub, Nat.reduceMul, Nat.reduceLT, Nat.reduceLeDiff, reduceCtorEq, Int.reduceToNat, Int.reduceLT, Int.reduceLE, Int.reduceAdd, Int.reduceSub, Int.reduceMul, Int.reduceNeg, Int.reduceEq, Nat.reduceMod, forall_eq_or_imp, forall_eq, forall_const, EVY, true_imp_iff, implies_true, Int.cast_ofNat_Int, forall_eq']
      exact ⟨congrArg (LO.row 2 (cp.length + 1)) (app_caps cp q.1), ap_allR, fun i hi => absurd hi (Nat.not_lt_zero _)⟩
  · rw [if_neg (of_decide_eq_false h3), if_pos (of_decide_eq_true h4)] at hA2
    have hln : ∀ w, w ∈ ws → w.length ≤ 100000 := hl
    generalize hR : lnkE (ws.drop 1) [] = R at hA2
    refine lwp_toJ (α := Unit) (fun _ => True) (fun _ => [(0, .ptr 3 0 0 0 0), (1, .rsl 1 (ws.length - 1) (fun i => [.sc (.string (strB (ws.getD (1 + i) [])))])), (7, .ptr 8 0 0 0 0)]) (fun _ => nhO ⟨cp, fl⟩ i s ++ lkO []) ?_ ?_
    · simp only [↓EVP0, EVQ0, EVQ1, EVQ2, EVQ3, EVQ4, EVA, EVK, EVFD,EVFT, ↓reduceIte, Nat.reduceEqDiff, Nat.reduceAdd, Nat.reduceSub, Nat.reduceMul, Nat.reduceLT, Nat.reduceLeDiff, reduceCtorEq, Int.reduceToNat, Int.reduceLT, Int.reduceLE, Int.reduceAdd, Int.reduceSub, Int.reduceMul, Int.reduceNeg, Int.reduceEq, Nat.reduceMod, forall_eq_or_imp, forall_eq, forall_const, EVY, true_imp_iff, implies_true, Int.cast_ofNat_Int, forall_eq']
      refine ⟨⟨by omega, by omega⟩, (), ?_, ?_⟩
      · have h9 := fun st => ph_to (s := st) (h := mkH (nhO ⟨cp, fl⟩ i s ++ [(0, .box [.nsl, .sc (.bool false), .sc (.int .i64 0), .sc (.int .i64 0)])])) (j := 8) (c := 0) (sz := 1) (ob := .ints []) ⟨rfl, by simp [mkH, nhO], rfl⟩
        rw [phH_mk (v := 0) (by simp [nhO]) rfl] at h9
        exact h9 _
      · refine ⟨by simp [nhO], ?_, by simp [nhO, lkO]⟩
        congr 1
        funext k
        rw [map_getV]
    intro _ _
    refine lwp_toJ (α := Nat × List Int) (fun x => R = some (x.2, ws.drop x.1) ∧ 1 ≤ x.1 ∧ x.1 ≤ ws.length ∧ x.2.length ≤ 100000) (fun x => [(0, .ptr 3 0 0 0 0), (1, .rsl 1 (ws.length - x.1) (fun i => [.sc (.string (strB (ws.getD (x.1 + i) [])))])), (7, .ptr 8 0 0 0 0)])
      (fun x => nhO ⟨cp, fl⟩ i s ++ lkF x.2) ?_ ?_
    · simp only [↓EVP0, EVQ0, EVQ1, EVQ2, EVQ3, EVQ4, EVA, EVK, EVFD,EVFT, ↓reduceIte, Nat.reduceEqDiff, Nat.reduceAdd, Nat.reduceSub, Nat.reduceMul, Nat.reduceLT, Nat.reduceLeDiff, reduceCtorEq, Int.reduceToNat, Int.reduceLT, Int.reduceLE, Int.reduceAdd, Int.reduceSub, Int.reduceMul, Int.reduceNeg, Int.reduceEq, Nat.reduceMod, forall_eq_or_imp, forall_eq, forall_const, EVY, true_imp_iff, implies_true, Int.cast_ofNat_Int, forall_eq']
      refine lwp_loop (α := Nat × List Int) (fun x => lnkE (ws.drop x.1) x.2 = R ∧ 1 ≤ x.1 ∧ x.1 ≤ ws.length ∧ x.2.length + 1 = x.1) (fun x => [(0, .ptr 3 0 0 0 0), (1, .rsl 1 (ws.length - x.1) (fun i => [.sc (.string (strB (ws.getD (x.1 + i) [])))])), (7, .ptr 8 0 0 0 0)])
        (fun x => nhO ⟨cp, fl⟩ i s ++ lkO x.2) (fun x => ws.length - x.1) (1, []) ⟨hR, by simp, h1, rfl⟩ ?_ (fun x => by simp [mkH, nhO]) ?_
      · unfold nhO ntB caO flO lkO
        simp only [↓EVP0, EVQ0, EVQ1, EVQ2, EVQ3, EVQ4, EVA, EVK, EVFD,EVFT, ↓reduceIte, Nat.reduceEqDiff, Nat.reduceAdd, Nat.reduceSub, Nat.reduceMul, Nat.reduceLT, Nat.reduceLeDiff, reduceCtorEq, Int.reduceToNat, Int.reduceLT, Int.reduceLE, Int.reduceAdd, Int.reduceSub, Int.reduceMul, Int.reduceNeg, Int.reduceEq, Nat.reduceMod, forall_eq_or_imp, forall_eq, forall_const, EVY, true_imp_iff, implies_true, Int.cast_ofNat_Int, forall_eq']
        exact ⟨ap_allR, ap_allF⟩
      rintro ⟨j, acc⟩ ⟨hr, hj1, hj2, hacc⟩
      simp only at hr hj1 hj2 hacc ⊢
      unfold lb25_0
      have hpn := ev_number33 (ws.getD j []) (by
        rcases Nat.lt_or_ge j ws.length with h | h
        · exact hl _ (getD_mem [] h)
        · rw [List.getD_eq_getElem?_getD, List.getElem?_eq_none h]; simp)
      generalize hnm : nm3 (ws.getD j []) = u at hpn
      unfold nhO ntB caO flO lkO
      simp only [↓EVP0, EVQ0, EVQ1, EVQ2, EVQ3, EVQ4, EVA, EVK, EVFD,EVFT, ↓reduceIte, Nat.reduceEqDiff, Nat.reduceAdd, Nat.reduceSub, Nat.reduceMul, Nat.reduceLT, Nat.reduceLeDiff, reduceCtorEq, Int.reduceToNat, Int.reduceLT, Int.reduceLE, Int.reduceAdd, Int.reduceSub, Int.reduceMul, Int.reduceNeg, Int.reduceEq, Nat.reduceMod, forall_eq_or_imp, forall_eq, forall_const, EVY, true_imp_iff, implies_true, Int.cast_ofNat_Int, forall_eq']
      rw [show ({ data := #[109, 97, 120] } : ByteArray) = strB wMx from rfl, decV]
      intro _
      refine ⟨fun h => by have := of_decide_eq_true h; exact this, fun h5 => ⟨?_, ?_⟩, fun h5 => ?_⟩
      · by_cases e : 0 < ((ws.length - j : Nat) : Int)
        · exact e
        · rw [decide_eq_false e] at h5; simp at h5
      · have hjl : j < ws.length ∧ ¬ ws.getD j [] = wMx := by
          by_cases e : 0 < ((ws.length - j : Nat) : Int)
          · rw [decide_eq_true e] at h5
            exact ⟨by omega, by simpa using h5⟩
          · rw [decide_eq_false e] at h5; simp at h5
        rw [lnk_step hjl.1, if_neg hjl.2, hnm] at hr
        refine callK_ro (hpn) ?_ ?_
        · simp only [↓EVP0, EVQ0, EVQ1, EVQ2, EVQ3, EVQ4, EVA, EVK, EVFD,EVFT, ↓reduceIte, Nat.reduceEqDiff, Nat.reduceAdd, Nat.reduceSub, Nat.reduceMul, Nat.reduceLT, Nat.reduceLeDiff, reduceCtorEq, Int.reduceToNat, Int.reduceLT, Int.reduceLE, Int.reduceAdd, Int.reduceSub, Int.reduceMul, Int.reduceNeg, Int.reduceEq, Nat.reduceMod, forall_eq_or_imp, forall_eq, forall_const, EVY, true_imp_iff, implies_true, Int.cast_ofNat_Int, forall_eq']
        simp only [↓EVP0, EVQ0, EVQ1, EVQ2, EVQ3, EVQ4, EVA, EVK, EVFD,EVFT, ↓reduceIte, Nat.reduceEqDiff, Nat.reduceAdd, Nat.reduceSub, Nat.reduceMul, Nat.reduceLT, Nat.reduceLeDiff, reduceCtorEq, Int.reduceToNat, Int.reduceLT, Int.reduceLE, Int.reduceAdd, Int.reduceSub, Int.reduceMul, Int.reduceNeg, Int.reduceEq, Nat.reduceMod, forall_eq_or_imp, forall_eq, forall_const, EVY, true_imp_iff, implies_true, Int.cast_ofNat_Int, forall_eq']
        refine ⟨fun h6 => ?_, fun h6 => ?_⟩
        · cases u with
          | some u => simp at h6
          | none =>
            simp only at hr
            subst hr
            cases hA2
            exact ⟨rfl, rfl, ⟨rfl, rfl⟩, ap_allR, ⟨rfl, rfl⟩, ap_allF⟩
        · cases u with
          | none => simp at h6
          | some u =>
            simp only at hr
            refine ⟨Nat.le_refl _, by unfold appRoom; omega, ⟨by omega, by omega⟩, (j + 1, acc ++ [(u : Int)]), ⟨hr, by simp only; omega, by simp only; omega, by simp; omega⟩, ⟨?_, ap_allR, ap_allF, by simp, by simp, by simp⟩, by simp only; omega⟩
            rw [show ws.length - j - 1 = ws.length - (j + 1) by omega]
            congr 1
            funext k
            rw [Nat.add_assoc]
      · have hex : R = some (acc, ws.drop j) := by
          rw [← hr]
          by_cases e : j < ws.length
          · rw [lnk_step e]
            have e2 : ws.getD j [] = wMx := by
              rw [decide_eq_true (show 0 < ((ws.length - j : Nat) : Int) by omega)] at h5
              simpa using h5
            rw [if_pos e2]
          · rw [List.drop_eq_nil_of_le (by omega)]; rfl
        refine ⟨(j, acc), ⟨hex, hj1, hj2, by simp only; omega⟩, ?_, by simp [lkF], rfl, by simp [lkF]⟩
        have h9 := fun st => frzB_to (s := st) (h := mkH (nhO ⟨cp, fl⟩ i s ++ lkO acc)) (D := [9]) (j := 8) (c := 0) (v := .rsl 1 acc.length (intsF acc)) ⟨by decide, by simp [mkH, nhO, lkO], _, rfl, lk_ro rfl (by simp [mkH, nhO, lkO]), by simp [hd1]⟩
        rw [frzBH_mk (v := 0) (by simp [nhO, lkO]) (by simp [nhO, lkO]) rfl] at h9
        exact h9 _
    · rintro ⟨j, acc⟩ ⟨hr, hj1, hj2, hacc⟩
      simp only at hr hj1 hj2 hacc ⊢
      rw [hr] at hA2
      simp only at hA2
      have hp2 := ev_parseQ (ws.getD (j + 1) []) (by
        rcases Nat.lt_or_ge (j + 1) ws.length with h | h
        · exact hl _ (getD_mem [] h)
        · rw [List.getD_eq_getElem?_getD, List.getElem?_eq_none h]; simp)
      have hd1' : (ws.drop j).getD 1 [] = ws.getD (j + 1) [] := by
        rw [List.getD_eq_getElem?_getD, List.getElem?_drop, List.getD_eq_getElem?_getD]
      rw [hd1', List.length_drop] at hA2
      generalize prsQ (ws.getD (j + 1) []) = q at hp2 hA2
      unfold ratV at hp2
      unfold nhO ntB caO flO lkF
      simp only [↓EVP0, EVQ0, EVQ1, EVQ2, EVQ3, EVQ4, EVA, EVK, EVFD,EVFT, ↓reduceIte, Nat.reduceEqDiff, Nat.reduceAdd, Nat.reduceSub, Nat.reduceMul, Nat.reduceLT, Nat.reduceLeDiff, reduceCtorEq, Int.reduceToNat, Int.reduceLT, Int.reduceLE, Int.reduceAdd, Int.reduceSub, Int.reduceMul, Int.reduceNeg, Int.reduceEq, Nat.reduceMod, forall_eq_or_imp, forall_eq, forall_const, EVY, true_imp_iff, implies_true, Int.cast_ofNat_Int, forall_eq']
      intro _
      refine ⟨fun h5 => ?_, fun h5 => ?_⟩
      · have hne : ¬ ws.drop j = [] := by
          have := of_decide_eq_true h5
          intro e
          have := congrArg List.length e
          rw [List.length_drop] at this
          simp at this; omega
        rw [if_neg hne] at hA2
        intro _
        refine ⟨fun h6 => ?_, fun h6 => ⟨?_, ?_⟩⟩
        · have h7 : ¬ ws.length - j = 2 := by
            have : ¬ ((ws.length - j : Nat) : Int) = 2 := by simpa using h6
            omega
          rw [if_neg (fun h => h7 h.1)] at hA2
          cases hA2
          exact ⟨rfl, rfl, ⟨rfl, rfl⟩, ap_allR, ⟨rfl, rfl⟩, ap_allF⟩
        · have : ((ws.length - j : Nat) : Int) = 2 := by simpa using h6
          omega
        · have h7 : ws.length - j = 2 := by
            have : ((ws.length - j : Nat) : Int) = 2 := by simpa using h6
            omega
          refine callK_ro (hp2) ?_ ?_
          · simp only [↓EVP0, EVQ0, EVQ1, EVQ2, EVQ3, EVQ4, EVA, EVK, EVFD,EVFT, ↓reduceIte, Nat.reduceEqDiff, Nat.reduceAdd, Nat.reduceSub, Nat.reduceMul, Nat.reduceLT, Nat.reduceLeDiff, reduceCtorEq, Int.reduceToNat, Int.reduceLT, Int.reduceLE, Int.reduceAdd, Int.reduceSub, Int.reduceMul, Int.reduceNeg, Int.reduceEq, Nat.reduceMod, forall_eq_or_imp, forall_eq, forall_const, EVY, true_imp_iff, implies_true, Int.cast_ofNat_Int, forall_eq']
          simp only [↓EVP0, EVQ0, EVQ1, EVQ2, EVQ3, EVQ4, EVA, EVK, EVFD,EVFT, ↓reduceIte, Nat.reduceEqDiff, Nat.reduceAdd, Nat.reduceSub, Nat.reduceMul, Nat.reduceLT, Nat.reduceLeDiff, reduceCtorEq, Int.reduceToNat, Int.reduceLT, Int.reduceLE, Int.reduceAdd, Int.reduceSub, Int.reduceMul, Int.reduceNeg, Int.reduceEq, Nat.reduceMod, forall_eq_or_imp, forall_eq, forall_const, EVY, true_imp_iff, implies_true, Int.cast_ofNat_Int, forall_eq']
          refine ⟨fun h8 => ?_, fun h8 => ⟨_, fun _ _ => rfl, ⟨Nat.le_refl _, fun k hk => by rw [apF_fl hk]; rfl⟩, by unfold appRoom; omega, fun _ => ?_⟩⟩
          · have h9 : ¬ q.2 = 0 := by simpa using h8
            rw [if_neg (fun h => h9 h.2)] at hA2
            cases hA2
            exact ⟨rfl, rfl, ⟨rfl, rfl⟩, ap_allR, ⟨rfl, rfl⟩, ap_allF⟩
          · have h9 : q.2 = 0 := by simpa using h8
            rw [if_pos ⟨h7, h9⟩] at hA2
            cases hA2
            rw [List.length_append, List.length_singleton]
            exact ⟨dec_ne acc, rfl, ⟨rfl, rfl⟩, ap_allR, ⟨rfl, congrArg (LO.row 4 (fl.length + 1)) (app_fls fl ⟨acc, true, q.1⟩)⟩, ap_allF⟩
      · have hne : ws.drop j = [] := by
          have := of_decide_eq_false h5
          exact List.drop_eq_nil_of_le (by omega)
        rw [if_pos hne] at hA2
        refine ⟨_, fun _ _ => rfl, ⟨Nat.le_refl _, fun k hk => by rw [apF_fl hk]; rfl⟩, by unfold appRoom; omega, ?_⟩
        cases hA2
        rw [List.length_append, List.length_singleton]
        intro _
        exact ⟨dec_ne acc, rfl, ⟨rfl, rfl⟩, ap_allR, ⟨rfl, congrArg (LO.row 4 (fl.length + 1)) (app_fls fl ⟨acc, false, ⟨0, 0⟩⟩)⟩, ap_allF⟩
  · rw [if_neg (of_decide_eq_false h3), if_neg (of_decide_eq_false h4)] at hA2
    cases hA2
    unfold fin2
    simp only [↓EVP0, EVQ0, EVQ1, EVQ2, EVQ3, EVQ4, EVA, EVK, EVFD,EVFT, ↓reduceIte, Nat.reduceEqDiff, Nat.reduceAdd, Nat.reduceSub, Nat.reduceMul, Nat.reduceLT, Nat.reduceLeDiff, reduceCtorEq, Int.reduceToNat, Int.reduceLT, Int.reduceLE, Int.reduceAdd, Int.reduceSub, Int.reduceMul, Int.reduceNeg, Int.reduceEq, Nat.reduceMod, forall_eq_or_imp, forall_eq, forall_const, EVY, true_imp_iff, implies_true, Int.cast_ofNat_Int, forall_eq']
    exact ⟨ap_allR, ap_allF⟩
end Go.Proofs.YtdfiicpikcdokaaGreatDoor
namespace Go.Proofs.YtdfiicpikcdokaaGreatDoor
set_option linter.unusedSimpArgs false
set_option linter.unusedVariables false
open Go.RowKit
set_option maxRecDepth 20000

def opIs (ops : Array Oper) (i : Nat) (d : Option Tmp) (op : Op) : Prop := ∃ o, ops[i]? = some o ∧ o.dst = d ∧ o.op = op ∧ o.guard = none
theorem wpOpsIn_step {F : Fence} {n : Nat} {P : Program} {ops : Array Oper} {Q : Exit → Act → World → Prop} {i : Nat} {rest : List Nat} {a : Act} {w : World} {o : Oper} (ho : ops[i]? = some o) (hg : o.guard = none) (h : o.wpIn F n P a w (wpOpsIn F n P ops Q rest) Q) : wpOpsIn F n P ops Q (i :: rest) a w := by
  unfold wpOpsIn
  rw [ho]
  simp only
  rw [if_pos (by simp [Region.wanted, hg])]
  exact h
theorem wpIn_move {n : Nat} {P : Program} {ro : Option Nat} {ops : Array Oper} {Q : Exit → Act → World → Prop} {i : Nat} {rest : List Nat} {a : Act} {w : World} {d : Option Tmp} {x : Operand} (ho : opIs ops i d (.move x)) (h : wpOpsIn (FW ro) n P ops Q rest (a.put d (a.eval x)) w) : wpOpsIn (FW ro) n P ops Q (i :: rest) a w := by
  obtain ⟨o, h1, h2, h3, h4⟩ := ho
  refine wpOpsIn_step h1 h4 ⟨fun _ _ => trivial, ?_⟩
  rw [Oper.semAt_eq _ _ _ (fun c e => by rw [h3] at e; cases e)]
  have : (execOp a.eval o).run P w = .ok (.value (a.eval x)) w := by simp [execOp, h3]
  rw [this]
  show wpOpsIn (FW ro) n P ops Q rest (a.put o.dst (a.eval x)) w
  rw [h2]; exact h
theorem wpIn_not {n : Nat} {P : Program} {ro : Option Nat} {ops : Array Oper} {Q : Exit → Act → World → Prop} {i : Nat} {rest : List Nat} {a : Act} {w : World} {d : Option Tmp} {x : Operand} {t : TypeId} {b : Bool} (ho : opIs ops i d (.unOp .not t x)) (hb : a.eval x = .bool b) (h : wpOpsIn (FW ro) n P ops Q rest (a.put d (.bool !b)) w) : wpOpsIn (FW ro) n P ops Q (i :: rest) a w := by
  obtain ⟨o, h1, h2, h3, h4⟩ := ho
  refine wpOpsIn_step h1 h4 ⟨fun _ _ => trivial, ?_⟩
  rw [Oper.semAt_eq _ _ _ (fun c e => by rw [h3] at e; cases e)]
  have gen : ∀ ρ : Operand → Value, ρ x = .bool b → (execOp ρ o).run P w = .ok (.value (.bool !b)) w := fun ρ hρ => by simp [execOp, h3, hρ, go_sem]
  rw [gen _ hb]
  show wpOpsIn (FW ro) n P ops Q rest (a.put o.dst (.bool !b)) w
  rw [h2]; exact h
theorem wpIn_yield {n : Nat} {P : Program} {ro : Option Nat} {ops : Array Oper} {Q : Exit → Act → World → Prop} {i : Nat} {rest : List Nat} {a : Act} {w : World} {d : Option Tmp} {x y : Operand} {t : TypeId} {l : Nat} {v : Value} {R : Ending → World → Prop} (ho : opIs ops i d (.call { callee := .value x, args := #[y], argTypes := #[t] }))
    (hx : a.eval x = .func (.yield l) #[] #[]) (hy : a.eval y = v) (hY : YieldAt (FW none) (n - 1) P l #[v] w R) (hr : ∀ e w', R e w' → ∃ b, e = .returned (.bool b) ∧ wpOpsIn (FW ro) n P ops Q rest (a.put d (.bool b)) w') : wpOpsIn (FW ro) n P ops Q (i :: rest) a w := by
  obtain ⟨o, h1, h2, h3, h4⟩ := ho
  refine wpOpsIn_step h1 h4 ⟨fun _ _ => trivial, ?_⟩
  rw [Oper.semAt_eq _ _ _ (fun c e => by rw [h3] at e; cases e)]
  obtain ⟨fn, tmps, assign, body, hrun, hR⟩ := hY
  have gen : ∀ ρ : Operand → Value, ρ x = .func (.yield l) #[] #[] → ρ y = v → (execOp ρ o).run P w = .ok (.round l fn tmps assign body) w := fun ρ e1 e2 => by
    simp [execOp, h3, resolve, e1, e2, invoke, go_sem, hrun]
  rw [gen _ hx hy]
  refine ⟨fun hd => by simp [Fence.wide] at hd, RoundIn.mono (R := R) hR ?_⟩
  intro e w' he
  obtain ⟨b, rfl, hb⟩ := hr e w' he
  show wpOpsIn (FW ro) n P ops Q rest (a.put o.dst (.bool b)) w'
  rw [h2]; exact hb

def sq1 : Code → Code
  | .seq a _ => a
  | c => c
def sq2 : Code → Code
  | .seq _ b => b
  | c => c
def inB : Code → Code
  | .block _ a => a
  | .loop a => a
  | c => c
def rfA : Code → Code
  | .rangeFunc _ _ a _ => a
  | c => c
def rfB : Code → Code
  | .rangeFunc _ _ _ b => b
  | c => c
def rgO : Code → Array Oper
  | .region _ ops _ => ops
  | _ => #[]
def rgI : Code → Nat
  | .region i _ _ => i
  | _ => 0
end Go.Proofs.YtdfiicpikcdokaaGreatDoor
namespace Go.Proofs.YtdfiicpikcdokaaGreatDoor
set_option linter.unusedSimpArgs false
set_option linter.unusedVariables false
open Go.RowKit
set_option maxRecDepth 20000

theorem opIs_of {ops : Array Oper} {i : Nat} {d : Option Tmp} {op : Op} (h : (ops[i]?).map (fun o => (o.dst, o.op, o.guard)) = some (d, op, none)) : opIs ops i d op := by
  obtain ⟨o, h1, h2⟩ := Option.map_eq_some_iff.1 h
  simp only [Prod.mk.injEq] at h2
  exact ⟨o, h1, h2.1, h2.2.1, h2.2.2⟩
theorem wpIn_loop_gh {F : Fence} {n : Nat} {P : Program} {c : Code} {Q : Exit → Act → World → Prop} {a : Act} {w : World} {α : Type} (I : α → Act → World → Prop) (μ : α → Nat) (x0 : α) (h0 : I x0 a w)
    (hround : ∀ x a w, I x a w → c.wpIn F n P (Exit.then (fun a' w' => ∃ y, I y a' w' ∧ μ y < μ x) Q) a w) : (Code.loop c).wpIn F n P Q a w := by
  have hch : ∀ (p : Act × World), ∃ m : Nat, (∃ x, I x p.1 p.2) → (∃ x, I x p.1 p.2 ∧ μ x = m) ∧ ∀ x, I x p.1 p.2 → m ≤ μ x := by
    intro p
    by_cases hex : ∃ x, I x p.1 p.2
    · have : ∀ m, (∃ x, I x p.1 p.2 ∧ μ x = m) → ∃ m, (∃ x, I x p.1 p.2 ∧ μ x = m) ∧ ∀ x, I x p.1 p.2 → m ≤ μ x := by
        intro m
        induction m using Nat.strongRecOn with
        | _ m ih =>
          intro hm
          by_cases hlow : ∃ x, I x p.1 p.2 ∧ μ x < m
          · obtain ⟨x, h1, h2⟩ := hlow
            exact ih (μ x) h2 ⟨x, h1, rfl⟩
          · refine ⟨m, hm, fun x hx => ?_⟩
            rcases Nat.lt_or_ge (μ x) m with hlt | hge
            · exact absurd ⟨x, hx, hlt⟩ hlow
            · exact hge
      obtain ⟨x, hx⟩ := hex
      obtain ⟨m, h1, h2⟩ := this (μ x) ⟨x, hx, rfl⟩
      exact ⟨m, fun _ => ⟨h1, h2⟩⟩
    · exact ⟨0, fun h => absurd h hex⟩
  obtain ⟨ν, hν⟩ := Classical.axiomOfChoice hch
  refine wpIn_loop (fun a w => ∃ x, I x a w) (fun a w => ν (a, w)) ⟨x0, h0⟩ ?_
  intro a w hI
  obtain ⟨⟨x, hx, hm⟩, _⟩ := hν (a, w) hI
  refine wpIn_mono (hround x a w hx) ?_
  rintro e a' w' hq
  cases e with
  | normal =>
    obtain ⟨y, hy, hlt⟩ := hq
    refine ⟨⟨y, hy⟩, ?_⟩
    have := (hν (a', w') ⟨y, hy⟩).2 y hy
    show ν (a', w') < ν (a, w)
    omega
  | _ => exact hq

section
variable {N B D : Nat} {rec : Loop} {R0 : RO} {ι0 : IM} {h0 : LH} {w0 : World} {ds : List Deferred} {s : LS} {h : LH} {a : Act} {w : World}
theorem GoodL.slots {s' : LS} (hg : GoodL N B D rec R0 ι0 h0 w0 ds s h a w) (hs : ∀ t, s' t = s t ∨ s' t = .any) : GoodL N B D rec R0 ι0 h0 w0 ds s' h a w := by
  obtain ⟨hd, R, ι, hT, hA, hb⟩ := hg
  refine ⟨hd, R, ι, hT, ⟨hA.defers, hA.size, fun t => ?_⟩, hb⟩
  rcases hs t with e | e
  · rw [e]; exact hA.slots t
  · rw [e]; exact .any _
theorem GoodL.mov (hg : GoodL N B D rec R0 ι0 h0 w0 ds s h a w) {d : Tmp} (t : Tmp) (hd : d < N) : GoodL N B D rec R0 ι0 h0 w0 ds (upd s d (s t)) h (a.put (some d) (a.eval (.tmp t))) w := by
  obtain ⟨hd', R, ι, hT, hA, hb⟩ := hg
  exact ⟨hd', R, ι, hT, ActOk.put (a := unD a) hA (d := some d) (by simpa using hd) (hA.slots t), hb⟩
theorem GoodL.putB (hg : GoodL N B D rec R0 ι0 h0 w0 ds s h a w) {d : Tmp} (b : Bool) (hd : d < N) : GoodL N B D rec R0 ι0 h0 w0 ds (upd s d (.sc (.bool b))) h (a.put (some d) (.bool b)) w := by
  obtain ⟨hd', R, ι, hT, hA, hb⟩ := hg
  exact ⟨hd', R, ι, hT, ActOk.put (a := unD a) hA (d := some d) (by simpa using hd) (.ro (.sc _ rfl)), hb⟩
theorem GoodL.sc (hg : GoodL N B D rec R0 ι0 h0 w0 ds s h a w) {t : Tmp} {v : Value} (hs : s t = .sc v) : a.eval (.tmp t) = v := by
  obtain ⟨_, R, ι, hT, hA, hb⟩ := hg
  have := hA.slots t
  rw [hs] at this
  exact this.sc_inv.1
end

noncomputable def lnC : Code := Tryz.f43.body.getD .skip
noncomputable def lnA : Code := sq1 (inB (inB lnC))
noncomputable def lnK : Code := inB (sq2 (inB (inB lnC)))
def lcLA : LC := .seq (.reg [⟨some 5, none, .p (.ld none (.tmp 1))⟩, ⟨some 6, none, .p (.len 0 (.tmp 5))⟩, ⟨some 7, none, .p (.bin .gtr (.tmp 6) (.const (.int .i64 0)))⟩]) (.cond (.tmp 7) .skip (.exit 0))
def lcLB : LC := .reg [⟨some 3, none, .p (.mov (.const (.string ⟨#[]⟩)))⟩]
def lcLC : LC := .seq (.reg [⟨some 8, none, .p (.ld none (.tmp 1))⟩, ⟨some 9, none, .e (.call 44 [.tmp 8, .const (.int .u8 10)])⟩, ⟨some 4, none, .p (.mov (.tmp 9))⟩])
  (.seq (.reg [⟨some 10, none, .p (.mov (.tmp 4))⟩, ⟨some 11, none, .p (.bin .geq (.tmp 10) (.const (.int .i64 0)))⟩])
  (.cond (.tmp 11) (.dreg [⟨some 12, none, .p (.ld none (.tmp 1))⟩, ⟨some 13, none, .p (.mov (.tmp 4))⟩, ⟨some 14, none, .p (.bin .add (.tmp 13) (.const (.int .i64 1)))⟩, ⟨some 15, none, .p (.slcs (.tmp 12) none (some (.tmp 14)))⟩, ⟨some 16, none, .p (.ld none (.tmp 1))⟩, ⟨some 17, none, .p (.mov (.tmp 4))⟩, ⟨some 18, none, .p (.bin .add (.tmp 17) (.const (.int .i64 1)))⟩, ⟨some 19, none, .p (.slcs (.tmp 16) (some (.tmp 18)) none)⟩, ⟨some 3, none, .p (.mov (.tmp 15))⟩] [[⟨none, none, .e (.st 1 (.tmp 1) (.tmp 19))⟩]])
    (.reg [⟨some 20, none, .p (.ld none (.tmp 1))⟩, ⟨some 3, none, .p (.mov (.tmp 20))⟩, ⟨none, none, .e (.st 1 (.tmp 1) (.const (.string ⟨#[]⟩)))⟩])))
theorem ln_body : Tryz.f43.body = some (.block 0 (.loop (.seq lnA (.block 1 (.seq (sq1 lnK) (.seq (sq1 (sq2 lnK)) (.seq (.region (rgI (sq1 (sq2 (sq2 lnK)))) (rgO (sq1 (sq2 (sq2 lnK)))) false) (.cond (.tmp 24) .ret .skip)))))))) := by kernel_rfl
set_option maxRecDepth 100000 in
theorem ln_cA : cCode Tryz.prog 25 lnA = some (erase lcLA) := by kernel_rfl
set_option maxRecDepth 100000 in
theorem ln_cB : cCode Tryz.prog 25 (sq1 lnK) = some (erase lcLB) := by kernel_rfl
set_option maxRecDepth 100000 in
theorem ln_cC : cCode Tryz.prog 25 (sq1 (sq2 lnK)) = some (erase lcLC) := by kernel_rfl
theorem ln_nA : ndCode lnA = true := by kernel_rfl
theorem ln_nB : ndCode (sq1 lnK) = true := by kernel_rfl
theorem ln_nC : ndCode (sq1 (sq2 lnK)) = true := by kernel_rfl
theorem ln_sz : (rgO (sq1 (sq2 (sq2 lnK)))).size = 4 := by kernel_rfl
theorem ln_o0 : opIs (rgO (sq1 (sq2 (sq2 lnK)))) 0 (some 21) (.move (.tmp 0)) := opIs_of (by kernel_rfl)
theorem ln_o1 : opIs (rgO (sq1 (sq2 (sq2 lnK)))) 1 (some 22) (.move (.tmp 3)) := opIs_of (by kernel_rfl)
theorem ln_o2 : opIs (rgO (sq1 (sq2 (sq2 lnK)))) 2 (some 23) (.call { callee := .value (.tmp 21), args := #[.tmp 22], argTypes := #[9] }) := opIs_of (by kernel_rfl)
theorem ln_o3 : opIs (rgO (sq1 (sq2 (sq2 lnK)))) 3 (some 24) (.unOp .not 4 (.tmp 23)) := opIs_of (by kernel_rfl)
def lineE (s : By) : By := if (cutE 10 s).2.2 = true then (cutE 10 s).1 ++ [10] else (cutE 10 s).1
def restE (s : By) : By := (cutE 10 s).2.1
end Go.Proofs.YtdfiicpikcdokaaGreatDoor
namespace Go.Proofs.YtdfiicpikcdokaaGreatDoor
set_option linter.unusedSimpArgs false
set_option linter.unusedVariables false
open Go.RowKit
set_option maxRecDepth 20000

def itL (yl : Value) : LS := mkS [(0, .sc yl), (1, .ptr 5 0 0 0 0)]
theorem strB_drop (l : By) (k : Nat) : (strB l).extract k l.length = strB (l.drop k) := by
  rw [← strB_of ((strB l).extract k l.length), Lib.extract_data, strB_data, List.take_of_length_le (by rw [List.length_drop]; exact Nat.le_refl _)]
theorem cut_len {s : By} (h : (cutE 10 s).2.2 = true) : (cutE 10 s).1.length + 1 ≤ s.length ∧ lineE s = s.take ((cutE 10 s).1.length + 1) ∧ restE s = s.drop ((cutE 10 s).1.length + 1) := by
  have hj := cutJ 10 s h
  unfold lineE restE
  rw [if_pos h]
  generalize cutE 10 s = c at *
  obtain ⟨a, b, t⟩ := c
  simp only at hj ⊢
  subst hj
  refine ⟨by simp, ?_, ?_⟩
  · rw [show a ++ 10 :: b = (a ++ [10]) ++ b by simp, List.take_append_of_le_length (by simp), List.take_of_length_le (by simp)]
  · rw [show a ++ 10 :: b = (a ++ [10]) ++ b by simp, List.drop_append_of_le_length (by simp), List.drop_of_length_le (by simp), List.nil_append]
theorem cut_no {s : By} (h : ¬ (cutE 10 s).2.2 = true) : lineE s = s ∧ restE s = [] := by
  unfold lineE restE
  rw [if_neg h]
  rcases idx_cut 10 s with ⟨h1, h2, h3, h4⟩ | ⟨i, h1, _⟩
  · exact ⟨h3, h4⟩
  · exact absurd h1 h
theorem rest_lt {s : By} (h : s ≠ []) : (restE s).length < s.length := by
  by_cases e : (cutE 10 s).2.2 = true
  · obtain ⟨h1, h2, h3⟩ := cut_len e
    rw [h3, List.length_drop]; omega
  · rw [(cut_no e).2]
    cases s with
    | nil => exact absurd rfl h
    | cons a b => simp
theorem lines_A (n : Nt) (i : Int) (s : By) (hs : s.length ≤ 100000) (yl : Value) : lwp Tryz.prog (mkH (nhO n i s)).n lcLA (fun s' h' => s ≠ [] ∧ s' 0 = .sc yl ∧ s' 1 = .ptr 5 0 0 0 0 ∧ h' = mkH (nhO n i s)) (fun j s' h' => j = 0 ∧ s = [] ∧ h' = mkH (nhO n i s)) (fun _ _ => False) (itL yl) (mkH (nhO n i s)) := by
  unfold lcLA itL nhO ntB caO flO
  simp only [↓EVP0, EVQ0, EVQ1, EVQ2, EVQ3, EVQ4, EVA, EVK, EVFD,EVFT, ↓reduceIte, Nat.reduceEqDiff, Nat.reduceAdd, Nat.reduceSub, Nat.reduceMul, Nat.reduceLT, Nat.reduceLeDiff, reduceCtorEq, Int.reduceToNat, Int.reduceLT, Int.reduceLE, Int.reduceAdd, Int.reduceSub, Int.reduceMul, Int.reduceNeg, Int.reduceEq, Nat.reduceMod, forall_eq_or_imp, forall_eq, forall_const, EVY, true_imp_iff, implies_true, Int.cast_ofNat_Int, forall_eq']
  rw [strB_size]
  refine ⟨fun h e => ?_, fun h => ?_⟩
  · rw [e] at h; simp at h
  · have := of_decide_eq_false h
    exact List.length_eq_zero_iff.1 (by omega)
theorem lines_B (n : Nt) (i : Int) (s : By) (yl : Value) {st : LS} (h0 : st 0 = .sc yl) (h1 : st 1 = .ptr 5 0 0 0 0) : lwp Tryz.prog (mkH (nhO n i s)).n lcLB (fun s' h' => s' 0 = .sc yl ∧ s' 1 = .ptr 5 0 0 0 0 ∧ h' = mkH (nhO n i s)) (fun _ _ _ => False) (fun _ _ => False) st (mkH (nhO n i s)) := by
  unfold lcLB
  simp only [↓EVP0, EVQ0, EVQ1, EVQ2, EVQ3, EVQ4, EVA, EVK, EVFD,EVFT, ↓reduceIte, Nat.reduceEqDiff, Nat.reduceAdd, Nat.reduceSub, Nat.reduceMul, Nat.reduceLT, Nat.reduceLeDiff, reduceCtorEq, Int.reduceToNat, Int.reduceLT, Int.reduceLE, Int.reduceAdd, Int.reduceSub, Int.reduceMul, Int.reduceNeg, Int.reduceEq, Nat.reduceMod, forall_eq_or_imp, forall_eq, forall_const, EVY, true_imp_iff, implies_true, Int.cast_ofNat_Int, forall_eq']
  exact ⟨h0, h1⟩
theorem lines_C (n : Nt) (i : Int) (s : By) (hs : s.length ≤ 100000) (yl : Value) : lwp Tryz.prog (mkH (nhO n i s)).n lcLC (fun s' h' => s' 0 = .sc yl ∧ s' 1 = .ptr 5 0 0 0 0 ∧ s' 3 = .sc (.string (strB (lineE s))) ∧ h' = mkH (nhO n i (restE s))) (fun _ _ _ => False) (fun _ _ => False) (itL yl) (mkH (nhO n i s)) := by
  have hx := ev_idxB s
  unfold lcLC itL nhO ntB caO flO
  simp only [↓EVP0, EVQ0, EVQ1, EVQ2, EVQ3, EVQ4, EVA, EVK, EVFD,EVFT, ↓reduceIte, Nat.reduceEqDiff, Nat.reduceAdd, Nat.reduceSub, Nat.reduceMul, Nat.reduceLT, Nat.reduceLeDiff, reduceCtorEq, Int.reduceToNat, Int.reduceLT, Int.reduceLE, Int.reduceAdd, Int.reduceSub, Int.reduceMul, Int.reduceNeg, Int.reduceEq, Nat.reduceMod, forall_eq_or_imp, forall_eq, forall_const, EVY, true_imp_iff, implies_true, Int.cast_ofNat_Int, forall_eq']
  refine callK_ro (hx) ?_ ?_
  · simp only [↓EVP0, EVQ0, EVQ1, EVQ2, EVQ3, EVQ4, EVA, EVK, EVFD,EVFT, ↓reduceIte, Nat.reduceEqDiff, Nat.reduceAdd, Nat.reduceSub, Nat.reduceMul, Nat.reduceLT, Nat.reduceLeDiff, reduceCtorEq, Int.reduceToNat, Int.reduceLT, Int.reduceLE, Int.reduceAdd, Int.reduceSub, Int.reduceMul, Int.reduceNeg, Int.reduceEq, Nat.reduceMod, forall_eq_or_imp, forall_eq, forall_const, EVY, true_imp_iff, implies_true, Int.cast_ofNat_Int, forall_eq']
  simp only [↓EVP0, EVQ0, EVQ1, EVQ2, EVQ3, EVQ4, EVA, EVK, EVFD,EVFT, ↓reduceIte, Nat.reduceEqDiff, Nat.reduceAdd, Nat.reduceSub, Nat.reduceMul, Nat.reduceLT, Nat.reduceLeDiff, reduceCtorEq, Int.reduceToNat, Int.reduceLT, Int.reduceLE, Int.reduceAdd, Int.reduceSub, Int.reduceMul, Int.reduceNeg, Int.reduceEq, Nat.reduceMod, forall_eq_or_imp, forall_eq, forall_const, EVY, true_imp_iff, implies_true, Int.cast_ofNat_Int, forall_eq']
  have hl := strB_size s
  by_cases hc : (cutE 10 s).2.2 = true
  · obtain ⟨h1, h2, h3⟩ := cut_len hc
    rw [if_pos hc, hl]
    refine ⟨fun _ => ?_, fun h => ?_⟩
    · refine ⟨by unfold In64; omega, ⟨by omega, by unfold In64; omega, ⟨by omega, by omega, by omega⟩, ?_⟩⟩
      rw [show (((cutE 10 s).1.length : Int) + 1).toNat = (cutE 10 s).1.length + 1 by omega, strB_take, strB_drop, ← h2, ← h3]
      exact ⟨rfl, rfl⟩
    · have := of_decide_eq_false h
      omega
  · obtain ⟨h1, h2⟩ := cut_no hc
    rw [if_neg hc]
    refine ⟨fun h => by simp at h, fun _ => ?_⟩
    rw [h1, h2]
    exact ⟨rfl, rfl⟩
theorem lines_iter {n B D : Nat} {rec : Loop} {R : RO} {ι : IM} {w1 : World} {s0 : By} {n0 : Nt} {i0 : Int} (hrep : Rep R ι (mkH (nhO n0 i0 s0)) B w1) (hB : B ≤ w1.heap.size) (hb : Besides B D rec R w1) (hst : rec.state = .ready) (hpe : rec.pending = none)
    (J : By → Nt → Int → Prop) (T : LH → Prop) (hJ0 : J s0 n0 i0) (hJl : ∀ s n i, J s n i → s.length ≤ 100000) {vs : Array Value} (hvs : vs.size = 1) (hv : Rv R ι (mkH (nhO n0 i0 s0)) (.ptr 5 0 0 0 0) (vs.getD 0 undef))
    (hround : ∀ s n' i, J s n' i → s ≠ [] → ∀ (R' : RO) (ι' : IM) (w' : World) (v : Value), Trans B R ι (mkH (nhO n0 i0 s0)) w1 R' ι' (mkH (nhO n' i (restE s))) w' → Besides B D rec R' w' → v = .string (strB (lineE s)) →
      YieldAt (FW none) (n - 1) Tryz.prog (D + 1) #[v] w' (RoundEnd B D rec R' ι' (mkH (nhO n' i (restE s))) w' (fun h' => ∃ n2 i2, h' = mkH (nhO n2 i2 (restE s)) ∧ J (restE s) n2 i2) T)) :
    CallsIn (FW none) n Tryz.prog 43 (#[.func (.yield (D + 1)) #[] #[]] ++ vs) w1 (IterEnd B D rec R ι (mkH (nhO n0 i0 s0)) w1 (fun h' => ∃ n2 i2, h' = mkH (nhO n2 i2 []) ∧ J [] n2 i2) T) := by
  refine callsIn_of_wp Tryz.func43 ln_body trivial ?_
  have hrec : ({ rec with state := .ready, pending := none } : Loop) = rec := by cases rec; simp only at hst hpe; subst hst; subst hpe; rfl
  have hact := args_act (N := 25) (R := R) (ι := ι) (h := mkH (nhO n0 i0 s0)) (args := [.sc (.func (.yield (D + 1)) #[] #[]), .ptr 5 0 0 0 0]) (vs := #[.func (.yield (D + 1)) #[] #[]] ++ vs) (by simp [hvs]) (by simp) (fun i a hi => by
    match i, hi with
    | 0, hi =>
      simp only [List.getElem?_cons_zero, Option.some.injEq] at hi; subst hi
      have : (#[Value.func (.yield (D + 1)) #[] #[]] ++ vs).getD 0 undef = Value.func (.yield (D + 1)) #[] #[] := by
        simp [Array.getD_eq_getD_getElem?, Array.getElem?_append]
      rw [this]; exact .ro (.sc _ rfl)
    | 1, hi =>
      simp only [List.getElem?_cons_succ, List.getElem?_cons_zero, Option.some.injEq] at hi; subst hi
      have : (#[Value.func (.yield (D + 1)) #[] #[]] ++ vs).getD 1 undef = vs.getD 0 undef := by
        simp [Array.getD_eq_getD_getElem?, Array.getElem?_append]
      rw [this]; exact hv
    | i + 2, hi => simp at hi)
  have hg0 : GoodL 25 B D rec R ι (mkH (nhO n0 i0 s0)) w1 [] (itL (.func (.yield (D + 1)) #[] #[])) (mkH (nhO n0 i0 s0)) { tmps := (#[Value.func (.yield (D + 1)) #[] #[]] ++ vs) ++ Array.replicate (25 - (#[Value.func (.yield (D + 1)) #[] #[]] ++ vs).size) undef, defers := [] } w1 :=
    ⟨rfl, R, ι, Trans.refl hrep hB, hact, hb⟩
  generalize hyl : Value.func (.yield (D + 1)) #[] #[] = yl at *
  refine wpIn_block (wpIn_loop_gh (α := By × Nt × Int) (fun x a w => J x.1 x.2.1 x.2.2 ∧ GoodL 25 B D rec R ι (mkH (nhO n0 i0 s0)) w1 [] (itL yl) (mkH (nhO x.2.1 x.2.2 x.1)) a w) (fun x => x.1.length) (s0, n0, i0) ⟨hJ0, hg0⟩ ?_)
  rintro ⟨s, n', i⟩ a w ⟨hJ, hg⟩
  simp only at hJ hg
  have hsl := hJl _ _ _ hJ
  refine wpIn_seq (lwpL_ok ln_cA ln_nA (fun s1 h1 a1 w1' hg1 hk => ?_) (fun j s1 h1 a1 w1' hg1 hk => ?_) (fun _ _ _ _ _ hk => hk.elim) hg (lines_A n' i s hsl yl))
  rotate_left
  · obtain ⟨rfl, rfl, rfl⟩ := hk
    obtain ⟨hd, R1, ι1, hT1, hA1, hb1⟩ := hg1
    simp only [Exit.then, Exit.inBlock, if_true]
    refine bodyPost_end (results_none rfl _ _ _) hd ?_
    exact ⟨⟨_, rfl⟩, R1, ι1, _, hT1, .inl ⟨by rw [hrec]; exact hb1, n', i, rfl, hJ⟩⟩
  obtain ⟨hne, e0, e1, rfl⟩ := hk
  show (Code.block 1 _).wpIn _ _ _ _ _ _
  refine wpIn_block (wpIn_seq (lwpL_ok ln_cB ln_nB (fun s2 h2 a2 w2 hg2 hk2 => ?_) (fun _ _ _ _ _ _ hk => hk.elim) (fun _ _ _ _ _ hk => hk.elim) hg1 (lines_B n' i s yl e0 e1)))
  obtain ⟨e0, e1, rfl⟩ := hk2
  have hg2' := hg2.slots (s' := itL yl) (fun t => by
    show (if t = 0 then LV.sc yl else if t = 1 then .ptr 5 0 0 0 0 else .any) = s2 t ∨ (if t = 0 then LV.sc yl else if t = 1 then .ptr 5 0 0 0 0 else .any) = .any
    by_cases c0 : t = 0
    · rw [if_pos c0, c0, e0]; exact .inl rfl
    · rw [if_neg c0]
      by_cases c1 : t = 1
      · rw [if_pos c1, c1, e1]; exact .inl rfl
      · rw [if_neg c1]; exact .inr rfl)
  show (Code.seq _ _).wpIn _ _ _ _ _ _
  refine wpIn_seq (lwpL_ok ln_cC ln_nC (fun s3 h3 a3 w3 hg3 hk3 => ?_) (fun _ _ _ _ _ _ hk => hk.elim) (fun _ _ _ _ _ hk => hk.elim) hg2' (lines_C n' i s hsl yl))
  obtain ⟨e0, e1, e3, rfl⟩ := hk3
  show (Code.seq _ _).wpIn _ _ _ _ _ _
  refine wpIn_seq (wpIn_region ?_)
  rw [ln_sz, show List.range 4 = [0, 1, 2, 3] from rfl]
  have g4 := hg3.mov (d := 21) 0 (by decide)
  have g5 := g4.mov (d := 22) 3 (by decide)
  have hx : ((a3.put (some 21) (a3.eval (.tmp 0))).put (some 22) ((a3.put (some 21) (a3.eval (.tmp 0))).eval (.tmp 3))).eval (.tmp 21) = yl := g5.sc (t := 21) (by
    show (if (21 : Nat) = 22 then _ else if (21 : Nat) = 21 then s3 0 else _) = _
    rw [if_neg (by decide), if_pos rfl]; exact e0)
  have hy : ((a3.put (some 21) (a3.eval (.tmp 0))).put (some 22) ((a3.put (some 21) (a3.eval (.tmp 0))).eval (.tmp 3))).eval (.tmp 22) = .string (strB (lineE s)) := g5.sc (t := 22) (by
    show (if (22 : Nat) = 22 then (if (3 : Nat) = 21 then _ else s3 3) else _) = _
    rw [if_pos rfl, if_neg (by decide)]; exact e3)
  have e0' : upd (upd s3 21 (s3 0)) 22 (upd s3 21 (s3 0) 3) 0 = .sc yl := by
    show (if (0 : Nat) = 22 then _ else if (0 : Nat) = 21 then _ else s3 0) = _
    rw [if_neg (by decide), if_neg (by decide)]; exact e0
  have e1' : upd (upd s3 21 (s3 0)) 22 (upd s3 21 (s3 0) 3) 1 = .ptr 5 0 0 0 0 := by
    show (if (1 : Nat) = 22 then _ else if (1 : Nat) = 21 then _ else s3 1) = _
    rw [if_neg (by decide), if_neg (by decide)]; exact e1
  refine wpIn_move ln_o0 (wpIn_move ln_o1 ?_)
  generalize (a3.put (some 21) (a3.eval (.tmp 0))).put (some 22) ((a3.put (some 21) (a3.eval (.tmp 0))).eval (.tmp 3)) = a5 at *
  generalize upd (upd s3 21 (s3 0)) 22 (upd s3 21 (s3 0) 3) = s5 at *
  obtain ⟨hd5, R5, ι5, hT5, hA5, hb5⟩ := g5
  refine wpIn_yield ln_o2 (by rw [hx, ← hyl]) hy (hround s n' i hJ hne R5 ι5 w3 _ hT5 hb5 rfl) ?_
  rintro e w6 ⟨R6, ι6, h6, hT6, hk6⟩
  rcases hk6 with ⟨rfl, hb6, n2, i2, rfl, hJ2⟩ | ⟨rfl, hb6, hTT⟩
  all_goals have g6 : ∀ (rec' : Loop) (h6 : LH), Trans B R5 ι5 (mkH (nhO n' i (restE s))) w3 R6 ι6 h6 w6 → Besides B D rec' R6 w6 → GoodL 25 B D rec' R ι (mkH (nhO n0 i0 s0)) w1 [] s5 h6 a5 w6 := fun rec' h6 hT hb => ⟨hd5, R6, ι6, hT5.trans hT, hA5.mono hT.mono, hb⟩
  · have g7 := (g6 _ _ hT6 hb6).putB (d := 23) true (by decide)
    have g8 := g7.putB (d := 24) (!true) (by decide)
    refine ⟨true, rfl, wpIn_not (b := true) ln_o3 (g7.sc (t := 23) (if_pos rfl)) ?_⟩
    show (Code.cond (.tmp 24) .ret .skip).wpIn _ _ _ _ _ _
    refine wpIn_cond_false (g8.sc (t := 24) (if_pos rfl)) (wpIn_skip ?_)
    simp only [Exit.then, Exit.inBlock]
    refine ⟨(restE s, n2, i2), ⟨hJ2, ?_⟩, rest_lt hne⟩
    rw [hrec] at g8
    refine g8.slots fun t => ?_
    show (if t = 0 then LV.sc yl else if t = 1 then .ptr 5 0 0 0 0 else .any) = (if t = 24 then _ else if t = 23 then _ else s5 t) ∨ (if t = 0 then LV.sc yl else if t = 1 then .ptr 5 0 0 0 0 else .any) = .any
    by_cases c0 : t = 0
    · rw [if_pos c0, c0, if_neg (by decide), if_neg (by decide), e0']; exact .inl rfl
    · rw [if_neg c0]
      by_cases c1 : t = 1
      · rw [if_pos c1, c1, if_neg (by decide), if_neg (by decide), e1']; exact .inl rfl
      · rw [if_neg c1]; exact .inr rfl
  · have g7 := (g6 _ _ hT6 hb6).putB (d := 23) false (by decide)
    have g8 := g7.putB (d := 24) (!false) (by decide)
    refine ⟨false, rfl, wpIn_not (b := false) ln_o3 (g7.sc (t := 23) (if_pos rfl)) ?_⟩
    show (Code.cond (.tmp 24) .ret .skip).wpIn _ _ _ _ _ _
    refine wpIn_cond_true (g8.sc (t := 24) (if_pos rfl)) (wpIn_ret ?_)
    simp only [Exit.then, Exit.inBlock]
    obtain ⟨hd8, R8, ι8, hT8, hA8, hb8⟩ := g8
    refine bodyPost_ret (results_none rfl _ _ _) hd8 ?_
    exact ⟨⟨_, rfl⟩, R8, ι8, _, hT8, .inr ⟨hb8, hTT⟩⟩
end Go.Proofs.YtdfiicpikcdokaaGreatDoor
namespace Go.Proofs.YtdfiicpikcdokaaGreatDoor
set_option linter.unusedSimpArgs false
set_option linter.unusedVariables false
open Go.RowKit
set_option maxRecDepth 20000

def lcP0 : LC := (.reg [⟨(some 2), none, .e (.alc [(.slice none 0 0), (.slice none 0 0)])⟩, ⟨(some 3), none, .e (.alc [(.int .i64 0)])⟩, ⟨(some 4), none, .e (.alc [(.int .i64 0)])⟩])
def lcP1 : LC := (.seq (.reg [⟨(some 10), none, .p (.mov (.tmp 0))⟩, ⟨(some 11), none, .p (.len 0 (.tmp 10))⟩, ⟨(some 12), none, .p (.bin .gtr (.tmp 11) (.const (.int .i64 65536)))⟩])
  (.cond (.tmp 12) (.seq (.reg [⟨(some 13), none, .p (.bld [(.slice none 0 0), (.slice none 0 0)] [])⟩, ⟨none, none, .e (.st 2 (.tmp 2) (.tmp 13))⟩, ⟨none, none, .e (.st 1 (.tmp 3) (.const (.int .i64 0)))⟩, ⟨none, none, .e (.st 1 (.tmp 4) (.const (.int .i64 5)))⟩])
  .ret) .skip))
def lcP2 : LC := (.reg [⟨(some 5), none, .e (.alc [(.slice none 0 0), (.slice none 0 0)])⟩])
def lcP3 : LC := (.reg [⟨(some 6), none, .e (.alc [(.int .i64 0)])⟩, ⟨none, none, .e (.st 1 (.tmp 6) (.const (.int .i64 0)))⟩])
def lcP4 : LC := (.reg [⟨(some 14), none, .p (.mov (.tmp 0))⟩, ⟨(some 15), none, .e (.call 23 [(.tmp 14)])⟩])
def lcP5 : LC := (.reg [⟨(some 7), none, .p (.mov (.tmp 16))⟩])
def lcP6 : LC := (.block 1
  (.seq (.reg [⟨(some 17), none, .p (.ld none (.tmp 6))⟩, ⟨(some 18), none, .p (.bin .add (.tmp 17) (.const (.int .i64 1)))⟩, ⟨none, none, .e (.st 1 (.tmp 6) (.tmp 18))⟩])
  (.seq (.reg [⟨(some 20), none, .p (.mov (.tmp 7))⟩, ⟨(some 21), none, .e (.call 24 [(.tmp 20), (.const (.string ⟨#[10]⟩))])⟩, ⟨(some 19), none, .p (.mov (.tmp 21))⟩, ⟨(some 22), none, .p (.ext (.tmp 19) 0)⟩, ⟨(some 23), none, .p (.ext (.tmp 19) 1)⟩, ⟨(some 8), none, .p (.mov (.tmp 22))⟩, ⟨(some 9), none, .p (.mov (.tmp 23))⟩])
  (.seq (.reg [⟨(some 24), none, .p (.mov (.tmp 9))⟩, ⟨(some 25), none, .p (.un .not (.tmp 24))⟩, ⟨(some 26), none, .p (.mov (.tmp 25))⟩, ⟨(some 27), (some (26, false)), .p (.mov (.tmp 8))⟩, ⟨(some 28), (some (26, false)), .e (.call 26 [(.tmp 27), (.const (.string ⟨#[32]⟩))])⟩, ⟨(some 29), (some (26, false)), .e (.call 25 [(.tmp 5), (.tmp 28)])⟩, ⟨(some 30), (some (26, false)), .p (.un .not (.tmp 29))⟩, ⟨(some 31), none, .p (.pick (.tmp 26) (.const (.bool true)) (.tmp 30))⟩])
  (.cond (.tmp 31) (.seq (.dreg [⟨(some 32), none, .p (.bld [(.slice none 0 0), (.slice none 0 0)] [])⟩] [[⟨(some 33), none, .p (.ld none (.tmp 6))⟩, ⟨none, none, .e (.st 2 (.tmp 2) (.tmp 32))⟩, ⟨none, none, .e (.st 1 (.tmp 3) (.tmp 33))⟩, ⟨none, none, .e (.st 1 (.tmp 4) (.const (.int .i64 3)))⟩], [⟨none, none, .e (.st 2 (.tmp 2) (.tmp 32))⟩, ⟨(some 33), none, .p (.ld none (.tmp 6))⟩, ⟨none, none, .e (.st 1 (.tmp 3) (.tmp 33))⟩, ⟨none, none, .e (.st 1 (.tmp 4) (.const (.int .i64 3)))⟩]])
  .ret) .skip)))))
def lcP7 : LC := (.seq (.seq (.reg [⟨(some 34), none, .p (.ld (some 2) (.tmp 5))⟩, ⟨(some 35), none, .e (.call 8 [(.tmp 34)])⟩, ⟨(some 36), none, .p (.un .not (.tmp 35))⟩])
  (.cond (.tmp 36) (.seq (.reg [⟨(some 37), none, .p (.bld [(.slice none 0 0), (.slice none 0 0)] [])⟩, ⟨none, none, .e (.st 2 (.tmp 2) (.tmp 37))⟩, ⟨none, none, .e (.st 1 (.tmp 3) (.const (.int .i64 0)))⟩, ⟨none, none, .e (.st 1 (.tmp 4) (.const (.int .i64 1)))⟩])
  .ret) .skip))
  (.seq (.reg [⟨(some 38), none, .p (.ld (some 2) (.tmp 5))⟩, ⟨none, none, .e (.st 2 (.tmp 2) (.tmp 38))⟩, ⟨none, none, .e (.st 1 (.tmp 3) (.const (.int .i64 0)))⟩, ⟨none, none, .e (.st 1 (.tmp 4) (.const (.int .i64 0)))⟩])
  .ret))
noncomputable def prC : Code := Tryz.f9.body.getD .skip
noncomputable def prL : Code := sq1 (sq2 (sq2 (sq2 (sq2 prC))))
theorem pr_body : Tryz.f9.body = some (.seq (sq1 prC) (.seq (sq1 (sq2 prC)) (.seq (sq1 (sq2 (sq2 prC))) (.seq (sq1 (sq2 (sq2 (sq2 prC)))) (.seq (.seq (sq1 prL) (.block 0 (.rangeFunc (.tmp 15) #[16] (rfA (inB (sq2 prL))) (rfB (inB (sq2 prL)))))) (sq2 (sq2 (sq2 (sq2 (sq2 prC)))))))))) := by kernel_rfl
set_option maxRecDepth 100000 in
theorem pr_c0 : cCode Tryz.prog 39 (sq1 prC) = some (erase lcP0) := by kernel_rfl
set_option maxRecDepth 100000 in
theorem pr_c1 : cCode Tryz.prog 39 (sq1 (sq2 prC)) = some (erase lcP1) := by kernel_rfl
set_option maxRecDepth 100000 in
theorem pr_c2 : cCode Tryz.prog 39 (sq1 (sq2 (sq2 prC))) = some (erase lcP2) := by kernel_rfl
set_option maxRecDepth 100000 in
theorem pr_c3 : cCode Tryz.prog 39 (sq1 (sq2 (sq2 (sq2 prC)))) = some (erase lcP3) := by kernel_rfl
set_option maxRecDepth 100000 in
theorem pr_c4 : cCode Tryz.prog 39 (sq1 prL) = some (erase lcP4) := by kernel_rfl
set_option maxRecDepth 100000 in
theorem pr_c5 : cCode Tryz.prog 39 (rfA (inB (sq2 prL))) = some (erase lcP5) := by kernel_rfl
set_option maxRecDepth 100000 in
theorem pr_c6 : cCode Tryz.prog 39 (rfB (inB (sq2 prL))) = some (erase lcP6) := by kernel_rfl
set_option maxRecDepth 100000 in
theorem pr_c7 : cCode Tryz.prog 39 (sq2 (sq2 (sq2 (sq2 (sq2 prC))))) = some (erase lcP7) := by kernel_rfl
theorem pr_n0 : ndCode (sq1 prC) = true := by kernel_rfl
theorem pr_n1 : ndCode (sq1 (sq2 prC)) = true := by kernel_rfl
theorem pr_n2 : ndCode (sq1 (sq2 (sq2 prC))) = true := by kernel_rfl
theorem pr_n3 : ndCode (sq1 (sq2 (sq2 (sq2 prC)))) = true := by kernel_rfl
theorem pr_n4 : ndCode (sq1 prL) = true := by kernel_rfl
theorem pr_n5 : ndCode (rfA (inB (sq2 prL))) = true := by kernel_rfl
theorem pr_n6 : ndCode (rfB (inB (sq2 prL))) = true := by kernel_rfl
theorem pr_n7 : ndCode (sq2 (sq2 (sq2 (sq2 (sq2 prC))))) = true := by kernel_rfl
end Go.Proofs.YtdfiicpikcdokaaGreatDoor
namespace Go.Proofs.YtdfiicpikcdokaaGreatDoor
set_option linter.unusedSimpArgs false
set_option linter.unusedVariables false
open Go.RowKit
set_option maxRecDepth 20000

theorem lopsG_on {P : Program} {d : Option Nat} {t : Nat} {b : Bool} {f : FuncId} {al : List Operand} {r : List LX} {K : LS → LH → Prop} {s : LS} {h h' : LH} {rv : LV} (hg : gOk (s t)) (hg2 : gOf b (s t) = true) (ha : ∀ x, x ∈ al → opC true s x) (hc : LCall P f (al.map (op1 s)) h rv h') (hk : lops P r K (updO s d rv) h') : @lopsG P d t b (.call f al) r ⟨K⟩ s h :=
  ⟨rv, h', ⟨hg, .inl ⟨hg2, ha, hc⟩⟩, fun _ => hk⟩
theorem lopsG_off {P : Program} {d : Option Nat} {t : Nat} {b : Bool} {q : LEf} {r : List LX} {K : LS → LH → Prop} {s : LS} {h : LH} (hg : gOk (s t)) (rv : LV) (hg2 : gOf b (s t) = false) (hk : lops P r K (updO s d (.cnd false rv)) h) : @lopsG P d t b q r ⟨K⟩ s h :=
  ⟨.cnd false rv, h, ⟨hg, .inr (.inr ⟨rv, by rw [hg2], rfl, fun e => by rw [hg2] at e; cases e⟩)⟩, fun _ => hk⟩
def sO : LS := mkS [(2, .ptr 0 0 0 0 0), (3, .ptr 1 0 0 0 0), (4, .ptr 2 0 0 0 0), (5, .ptr 3 0 0 0 0), (6, .ptr 4 0 0 0 0), (15, .fn 43 [.ptr 5 0 0 0 0])]
theorem splE_len (c : UInt8) : ∀ l : By, 1 ≤ (splE c l).length ∧ (splE c l).length ≤ l.length + 1
  | [] => ⟨Nat.le_refl 1, Nat.le_refl 1⟩
  | b :: r => by
    have ih := splE_len c r
    show 1 ≤ (if b = c then [] :: splE c r else match splE c r with
      | [] => [[b]]
      | w :: ws => (b :: w) :: ws).length ∧ (if b = c then [] :: splE c r else match splE c r with
      | [] => [[b]]
      | w :: ws => (b :: w) :: ws).length ≤ (b :: r).length + 1
    by_cases h : b = c
    · rw [if_pos h]; simp only [List.length_cons]; omega
    · rw [if_neg h]
      revert ih
      cases splE c r with
      | nil => intro ih; simp
      | cons w ws => intro ih; simp only [List.length_cons] at *; omega
theorem round_body (n : Nt) (i : Int) (rs l : By) (hi : 0 ≤ i ∧ i ≤ 100000) (hl : l.length ≤ 100000) (hc : n.caps.length ≤ 100000) (hf : n.fls.length ≤ 100000) (hw : ∀ w, w ∈ splE 32 (cutL10 l) → w.length ≤ 100000) (hcl : (cutL10 l).length ≤ 99999) :
    lwp Tryz.prog (mkH (nhO n i rs)).n lcP5 (fun s1 h1 => lwp Tryz.prog h1.n lcP6 (fun _ h' => (l.getLast? = some 10 ∧ (addN n (splE 32 (cutL10 l))).2 = true) ∧ h' = mkH (nhO (addN n (splE 32 (cutL10 l))).1 (i + 1) rs)) (fun _ _ _ => False)
      (fun _ h' => ¬ (l.getLast? = some 10 ∧ (addN n (splE 32 (cutL10 l))).2 = true) ∧ ∃ tl, h' = mkH ((0, .box [.nsl, .nsl]) :: (0, .box [.sc (.int .i64 (i + 1))]) :: (0, .box [.sc (.int .i64 3)]) :: tl)) s1 h1) (fun _ _ _ => False) (fun _ _ => False)
      (upd sO 16 (.sc (.string (strB l)))) (mkH (nhO n i rs)) := by
  have h1 := ev_cutSuf l hl
  have hsl := splE_len 32 (cutL10 l)
  have h2 := ev_split (cutL10 l) 32 (by omega)
  have h3 := lc_add n (i + 1) rs (splE 32 (cutL10 l)) hsl.1 (by omega) hw hc hf
  generalize splE 32 (cutL10 l) = ws at *
  generalize addN n ws = A at *
  obtain ⟨n2, b2⟩ := A
  unfold lcP5 sO
  simp only [↓EVP0, EVQ0, EVQ1, EVQ2, EVQ3, EVQ4, EVA, EVK, EVFD,EVFT, ↓reduceIte, Nat.reduceEqDiff, Nat.reduceAdd, Nat.reduceSub, Nat.reduceMul, Nat.reduceLT, Nat.reduceLeDiff, reduceCtorEq, Int.reduceToNat, Int.reduceLT, Int.reduceLE, Int.reduceAdd, Int.reduceSub, Int.reduceMul, Int.reduceNeg, Int.reduceEq, Nat.reduceMod, forall_eq_or_imp, forall_eq, forall_const, EVY, true_imp_iff, implies_true, Int.cast_ofNat_Int, forall_eq']
  unfold lcP6
  unfold nhO ntB caO flO at *
  unfold wsV at h2 h3
  simp only [↓EVP0, EVQ0, EVQ1, EVQ2, EVQ3, EVQ4, EVA, EVK, EVFD,EVFT, ↓reduceIte, Nat.reduceEqDiff, Nat.reduceAdd, Nat.reduceSub, Nat.reduceMul, Nat.reduceLT, Nat.reduceLeDiff, reduceCtorEq, Int.reduceToNat, Int.reduceLT, Int.reduceLE, Int.reduceAdd, Int.reduceSub, Int.reduceMul, Int.reduceNeg, Int.reduceEq, Nat.reduceMod, forall_eq_or_imp, forall_eq, forall_const, EVY, true_imp_iff, implies_true, Int.cast_ofNat_Int, forall_eq']
  refine ⟨by unfold In64; omega, ?_⟩
  rw [show ({ data := #[10] } : ByteArray) = strB [10] from rfl]
  refine callK_ro (h1) ?_ ?_
  · simp only [↓EVP0, EVQ0, EVQ1, EVQ2, EVQ3, EVQ4, EVA, EVK, EVFD,EVFT, ↓reduceIte, Nat.reduceEqDiff, Nat.reduceAdd, Nat.reduceSub, Nat.reduceMul, Nat.reduceLT, Nat.reduceLeDiff, reduceCtorEq, Int.reduceToNat, Int.reduceLT, Int.reduceLE, Int.reduceAdd, Int.reduceSub, Int.reduceMul, Int.reduceNeg, Int.reduceEq, Nat.reduceMod, forall_eq_or_imp, forall_eq, forall_const, EVY, true_imp_iff, implies_true, Int.cast_ofNat_Int, forall_eq']
  simp only [↓EVP0, EVQ0, EVQ1, EVQ2, EVQ3, EVQ4, EVA, EVK, EVFD,EVFT, ↓reduceIte, Nat.reduceEqDiff, Nat.reduceAdd, Nat.reduceSub, Nat.reduceMul, Nat.reduceLT, Nat.reduceLeDiff, reduceCtorEq, Int.reduceToNat, Int.reduceLT, Int.reduceLE, Int.reduceAdd, Int.reduceSub, Int.reduceMul, Int.reduceNeg, Int.reduceEq, Nat.reduceMod, forall_eq_or_imp, forall_eq, forall_const, EVY, true_imp_iff, implies_true, Int.cast_ofNat_Int, forall_eq']
  by_cases he : l.getLast? = some 10
  · rw [decide_eq_true he]
    simp only [↓EVP0, EVQ0, EVQ1, EVQ2, EVQ3, EVQ4, EVA, EVK, EVFD,EVFT, ↓reduceIte, Nat.reduceEqDiff, Nat.reduceAdd, Nat.reduceSub, Nat.reduceMul, Nat.reduceLT, Nat.reduceLeDiff, reduceCtorEq, Int.reduceToNat, Int.reduceLT, Int.reduceLE, Int.reduceAdd, Int.reduceSub, Int.reduceMul, Int.reduceNeg, Int.reduceEq, Nat.reduceMod, forall_eq_or_imp, forall_eq, forall_const, EVY, true_imp_iff, implies_true, Int.cast_ofNat_Int, forall_eq']
    rw [show ({ data := #[32] } : ByteArray) = strB [32] from rfl]
    refine lopsG_on (rv := .rsl 1 ws.length (txsF (List.map strB ws))) ?_ ?_ ?_ (lcall_ro h2 ?_) ?_
    · simp only [↓EVP0, EVQ0, EVQ1, EVQ2, EVQ3, EVQ4, EVA, EVK, EVFD,EVFT, ↓reduceIte, Nat.reduceEqDiff, Nat.reduceAdd, Nat.reduceSub, Nat.reduceMul, Nat.reduceLT, Nat.reduceLeDiff, reduceCtorEq, Int.reduceToNat, Int.reduceLT, Int.reduceLE, Int.reduceAdd, Int.reduceSub, Int.reduceMul, Int.reduceNeg, Int.reduceEq, Nat.reduceMod, forall_eq_or_imp, forall_eq, forall_const, EVY, true_imp_iff, implies_true, Int.cast_ofNat_Int, forall_eq']
    · simp only [↓EVP0, EVQ0, EVQ1, EVQ2, EVQ3, EVQ4, EVA, EVK, EVFD,EVFT, ↓reduceIte, Nat.reduceEqDiff, Nat.reduceAdd, Nat.reduceSub, Nat.reduceMul, Nat.reduceLT, Nat.reduceLeDiff, reduceCtorEq, Int.reduceToNat, Int.reduceLT, Int.reduceLE, Int.reduceAdd, Int.reduceSub, Int.reduceMul, Int.reduceNeg, Int.reduceEq, Nat.reduceMod, forall_eq_or_imp, forall_eq, forall_const, EVY, true_imp_iff, implies_true, Int.cast_ofNat_Int, forall_eq']
    · simp only [↓EVP0, EVQ0, EVQ1, EVQ2, EVQ3, EVQ4, EVA, EVK, EVFD,EVFT, ↓reduceIte, Nat.reduceEqDiff, Nat.reduceAdd, Nat.reduceSub, Nat.reduceMul, Nat.reduceLT, Nat.reduceLeDiff, reduceCtorEq, Int.reduceToNat, Int.reduceLT, Int.reduceLE, Int.reduceAdd, Int.reduceSub, Int.reduceMul, Int.reduceNeg, Int.reduceEq, Nat.reduceMod, forall_eq_or_imp, forall_eq, forall_const, EVY, true_imp_iff, implies_true, Int.cast_ofNat_Int, forall_eq']
    · simp only [↓EVP0, EVQ0, EVQ1, EVQ2, EVQ3, EVQ4, EVA, EVK, EVFD,EVFT, ↓reduceIte, Nat.reduceEqDiff, Nat.reduceAdd, Nat.reduceSub, Nat.reduceMul, Nat.reduceLT, Nat.reduceLeDiff, reduceCtorEq, Int.reduceToNat, Int.reduceLT, Int.reduceLE, Int.reduceAdd, Int.reduceSub, Int.reduceMul, Int.reduceNeg, Int.reduceEq, Nat.reduceMod, forall_eq_or_imp, forall_eq, forall_const, EVY, true_imp_iff, implies_true, Int.cast_ofNat_Int, forall_eq']
    simp only [↓EVP0, EVQ0, EVQ1, EVQ2, EVQ3, EVQ4, EVA, EVK, EVFD,EVFT, ↓reduceIte, Nat.reduceEqDiff, Nat.reduceAdd, Nat.reduceSub, Nat.reduceMul, Nat.reduceLT, Nat.reduceLeDiff, reduceCtorEq, Int.reduceToNat, Int.reduceLT, Int.reduceLE, Int.reduceAdd, Int.reduceSub, Int.reduceMul, Int.reduceNeg, Int.reduceEq, Nat.reduceMod, forall_eq_or_imp, forall_eq, forall_const, EVY, true_imp_iff, implies_true, Int.cast_ofNat_Int, forall_eq']
    refine lopsG_on ?_ ?_ ?_ h3 ?_
    · simp only [↓EVP0, EVQ0, EVQ1, EVQ2, EVQ3, EVQ4, EVA, EVK, EVFD,EVFT, ↓reduceIte, Nat.reduceEqDiff, Nat.reduceAdd, Nat.reduceSub, Nat.reduceMul, Nat.reduceLT, Nat.reduceLeDiff, reduceCtorEq, Int.reduceToNat, Int.reduceLT, Int.reduceLE, Int.reduceAdd, Int.reduceSub, Int.reduceMul, Int.reduceNeg, Int.reduceEq, Nat.reduceMod, forall_eq_or_imp, forall_eq, forall_const, EVY, true_imp_iff, implies_true, Int.cast_ofNat_Int, forall_eq']
    · simp only [↓EVP0, EVQ0, EVQ1, EVQ2, EVQ3, EVQ4, EVA, EVK, EVFD,EVFT, ↓reduceIte, Nat.reduceEqDiff, Nat.reduceAdd, Nat.reduceSub, Nat.reduceMul, Nat.reduceLT, Nat.reduceLeDiff, reduceCtorEq, Int.reduceToNat, Int.reduceLT, Int.reduceLE, Int.reduceAdd, Int.reduceSub, Int.reduceMul, Int.reduceNeg, Int.reduceEq, Nat.reduceMod, forall_eq_or_imp, forall_eq, forall_const, EVY, true_imp_iff, implies_true, Int.cast_ofNat_Int, forall_eq']
    · simp only [↓EVP0, EVQ0, EVQ1, EVQ2, EVQ3, EVQ4, EVA, EVK, EVFD,EVFT, ↓reduceIte, Nat.reduceEqDiff, Nat.reduceAdd, Nat.reduceSub, Nat.reduceMul, Nat.reduceLT, Nat.reduceLeDiff, reduceCtorEq, Int.reduceToNat, Int.reduceLT, Int.reduceLE, Int.reduceAdd, Int.reduceSub, Int.reduceMul, Int.reduceNeg, Int.reduceEq, Nat.reduceMod, forall_eq_or_imp, forall_eq, forall_const, EVY, true_imp_iff, implies_true, Int.cast_ofNat_Int, forall_eq']
    simp only [↓EVP0, EVQ0, EVQ1, EVQ2, EVQ3, EVQ4, EVA, EVK, EVFD,EVFT, ↓reduceIte, Nat.reduceEqDiff, Nat.reduceAdd, Nat.reduceSub, Nat.reduceMul, Nat.reduceLT, Nat.reduceLeDiff, reduceCtorEq, Int.reduceToNat, Int.reduceLT, Int.reduceLE, Int.reduceAdd, Int.reduceSub, Int.reduceMul, Int.reduceNeg, Int.reduceEq, Nat.reduceMod, forall_eq_or_imp, forall_eq, forall_const, EVY, true_imp_iff, implies_true, Int.cast_ofNat_Int, forall_eq']
    refine ⟨fun hb => ⟨fun hh => ?_, _, rfl⟩, fun hb => ⟨he, ?_⟩⟩
    · rw [hh.2] at hb; cases hb
    · cases b2
      · cases hb
      · rfl
  · rw [decide_eq_false he]
    simp only [↓EVP0, EVQ0, EVQ1, EVQ2, EVQ3, EVQ4, EVA, EVK, EVFD,EVFT, ↓reduceIte, Nat.reduceEqDiff, Nat.reduceAdd, Nat.reduceSub, Nat.reduceMul, Nat.reduceLT, Nat.reduceLeDiff, reduceCtorEq, Int.reduceToNat, Int.reduceLT, Int.reduceLE, Int.reduceAdd, Int.reduceSub, Int.reduceMul, Int.reduceNeg, Int.reduceEq, Nat.reduceMod, forall_eq_or_imp, forall_eq, forall_const, EVY, true_imp_iff, implies_true, Int.cast_ofNat_Int, forall_eq']
    refine lopsG_off ?_ .nsl ?_ ?_
    · simp only [↓EVP0, EVQ0, EVQ1, EVQ2, EVQ3, EVQ4, EVA, EVK, EVFD,EVFT, ↓reduceIte, Nat.reduceEqDiff, Nat.reduceAdd, Nat.reduceSub, Nat.reduceMul, Nat.reduceLT, Nat.reduceLeDiff, reduceCtorEq, Int.reduceToNat, Int.reduceLT, Int.reduceLE, Int.reduceAdd, Int.reduceSub, Int.reduceMul, Int.reduceNeg, Int.reduceEq, Nat.reduceMod, forall_eq_or_imp, forall_eq, forall_const, EVY, true_imp_iff, implies_true, Int.cast_ofNat_Int, forall_eq']
    · simp only [↓EVP0, EVQ0, EVQ1, EVQ2, EVQ3, EVQ4, EVA, EVK, EVFD,EVFT, ↓reduceIte, Nat.reduceEqDiff, Nat.reduceAdd, Nat.reduceSub, Nat.reduceMul, Nat.reduceLT, Nat.reduceLeDiff, reduceCtorEq, Int.reduceToNat, Int.reduceLT, Int.reduceLE, Int.reduceAdd, Int.reduceSub, Int.reduceMul, Int.reduceNeg, Int.reduceEq, Nat.reduceMod, forall_eq_or_imp, forall_eq, forall_const, EVY, true_imp_iff, implies_true, Int.cast_ofNat_Int, forall_eq']
    simp only [↓EVP0, EVQ0, EVQ1, EVQ2, EVQ3, EVQ4, EVA, EVK, EVFD,EVFT, ↓reduceIte, Nat.reduceEqDiff, Nat.reduceAdd, Nat.reduceSub, Nat.reduceMul, Nat.reduceLT, Nat.reduceLeDiff, reduceCtorEq, Int.reduceToNat, Int.reduceLT, Int.reduceLE, Int.reduceAdd, Int.reduceSub, Int.reduceMul, Int.reduceNeg, Int.reduceEq, Nat.reduceMod, forall_eq_or_imp, forall_eq, forall_const, EVY, true_imp_iff, implies_true, Int.cast_ofNat_Int, forall_eq']
    refine lopsG_off ?_ (.sc (.bool false)) ?_ ?_
    · simp only [↓EVP0, EVQ0, EVQ1, EVQ2, EVQ3, EVQ4, EVA, EVK, EVFD,EVFT, ↓reduceIte, Nat.reduceEqDiff, Nat.reduceAdd, Nat.reduceSub, Nat.reduceMul, Nat.reduceLT, Nat.reduceLeDiff, reduceCtorEq, Int.reduceToNat, Int.reduceLT, Int.reduceLE, Int.reduceAdd, Int.reduceSub, Int.reduceMul, Int.reduceNeg, Int.reduceEq, Nat.reduceMod, forall_eq_or_imp, forall_eq, forall_const, EVY, true_imp_iff, implies_true, Int.cast_ofNat_Int, forall_eq']
    · simp only [↓EVP0, EVQ0, EVQ1, EVQ2, EVQ3, EVQ4, EVA, EVK, EVFD,EVFT, ↓reduceIte, Nat.reduceEqDiff, Nat.reduceAdd, Nat.reduceSub, Nat.reduceMul, Nat.reduceLT, Nat.reduceLeDiff, reduceCtorEq, Int.reduceToNat, Int.reduceLT, Int.reduceLE, Int.reduceAdd, Int.reduceSub, Int.reduceMul, Int.reduceNeg, Int.reduceEq, Nat.reduceMod, forall_eq_or_imp, forall_eq, forall_const, EVY, true_imp_iff, implies_true, Int.cast_ofNat_Int, forall_eq']
    simp only [↓EVP0, EVQ0, EVQ1, EVQ2, EVQ3, EVQ4, EVA, EVK, EVFD,EVFT, ↓reduceIte, Nat.reduceEqDiff, Nat.reduceAdd, Nat.reduceSub, Nat.reduceMul, Nat.reduceLT, Nat.reduceLeDiff, reduceCtorEq, Int.reduceToNat, Int.reduceLT, Int.reduceLE, Int.reduceAdd, Int.reduceSub, Int.reduceMul, Int.reduceNeg, Int.reduceEq, Nat.reduceMod, forall_eq_or_imp, forall_eq, forall_const, EVY, true_imp_iff, implies_true, Int.cast_ofNat_Int, forall_eq']
    exact ⟨fun hh => he hh.1, _, rfl⟩
end Go.Proofs.YtdfiicpikcdokaaGreatDoor
namespace Go.Proofs.YtdfiicpikcdokaaGreatDoor
set_option linter.unusedSimpArgs false
set_option linter.unusedVariables false
open Go.RowKit
set_option maxRecDepth 20000

def emN : Nt := ⟨[], []⟩
def prs33 (s : By) (n : Nt) (i : Int) : Nt × Int × Int :=
  if h : s = [] then (if vldN n = true then (n, 0, 0) else (emN, 0, 1))
  else if (lineE s).getLast? = some 10 ∧ (addN n (splE 32 (cutL10 (lineE s)))).2 = true then prs33 (restE s) (addN n (splE 32 (cutL10 (lineE s)))).1 (i + 1)
  else (emN, i + 1, 3)
termination_by s.length
decreasing_by exact rest_lt h
def parse33 (s : By) : Nt × Int × Int := if 65536 < s.length then (emN, 0, 5) else prs33 s emN 0
theorem rt0_ok : RtOk ⟨0, 0⟩ := ⟨show In64 0 by unfold In64; omega, show In64 0 by unfold In64; omega⟩
theorem prsQ_ok (s : By) : RtOk (prsQ s).1 := by
  rcases prs_cases s with ⟨r, h1, h2, _⟩ | h
  · rw [h1]; exact vld_rtok h2
  · rw [h]; exact rt0_ok
theorem lnkE_ok : ∀ {ws : List By} {acc l : List Int} {r : List By}, (∀ x, x ∈ acc → 0 ≤ x ∧ x < 1000) → lnkE ws acc = some (l, r) → ∀ x, x ∈ l → 0 ≤ x ∧ x < 1000
  | [], acc, l, r, ha, h => by
    have h : some (acc, ([] : List By)) = some (l, r) := h
    cases h; exact ha
  | w :: ws, acc, l, r, ha, h => by
    have h : (if w = wMx then some (acc, w :: ws) else match nm3 w with
      | none => none
      | some u => lnkE ws (acc ++ [(u : Int)])) = some (l, r) := h
    split at h
    · cases h; exact ha
    · split at h
      · cases h
      · rename_i u hu
        refine lnkE_ok (fun x hx => ?_) h
        rcases List.mem_append.1 hx with h1 | h1
        · exact ha x h1
        · have := (nm3_inv hu).2.1
          simp only [List.mem_singleton] at h1
          subst h1; omega
theorem addN_len (n : Nt) (ws : List By) : (addN n ws).1.caps.length + (addN n ws).1.fls.length ≤ n.caps.length + n.fls.length + 1 := by
  unfold addN
  split
  · split
    · simp only [List.length_append, List.length_singleton]; omega
    · simp only; omega
  · split
    · split
      · simp only; omega
      · split
        · simp only [List.length_append, List.length_singleton]; omega
        · split
          · simp only [List.length_append, List.length_singleton]; omega
          · simp only; omega
    · simp only; omega
theorem fl_app {n : Nt} (hn : NtOk n) {f : Fl} (hl : ∀ x, x ∈ f.links → 0 ≤ x ∧ x < 1000) (hd : RtOk f.dem) : NtOk ⟨n.caps, n.fls ++ [f]⟩ := by
  refine ⟨hn.caps, fun g hg x hx => ?_, fun g hg => ?_⟩
  · rcases List.mem_append.1 hg with h | h
    · exact hn.links g h x hx
    · simp only [List.mem_singleton] at h
      subst h
      have := hl x hx
      unfold In64; omega
  · rcases List.mem_append.1 hg with h | h
    · exact hn.dem g h
    · simp only [List.mem_singleton] at h
      subst h; exact hd
theorem addN_ok {n : Nt} (hn : NtOk n) (ws : List By) : NtOk (addN n ws).1 := by
  unfold addN
  split
  · split
    · refine ⟨fun r hr => ?_, hn.links, hn.dem⟩
      rcases List.mem_append.1 hr with h | h
      · exact hn.caps r h
      · simp only [List.mem_singleton] at h
        subst h; exact prsQ_ok _
    · exact hn
  · split
    · split
      · exact hn
      · rename_i l r hlr
        have hl := lnkE_ok (acc := []) (fun x hx => by cases hx) hlr
        split
        · exact fl_app hn hl rt0_ok
        · split
          · exact fl_app hn hl (prsQ_ok _)
          · exact hn
    · exact hn
theorem emN_ok : NtOk emN := by
  refine ⟨?_, ?_, ?_⟩
  · intro r (h : r ∈ ([] : List Rt)); cases h
  · intro f (h : f ∈ ([] : List Fl)); cases h
  · intro f (h : f ∈ ([] : List Fl)); cases h
theorem line_rest (s : By) : (lineE s).length + (restE s).length = s.length := by
  by_cases e : (cutE 10 s).2.2 = true
  · obtain ⟨h1, h2, h3⟩ := cut_len e
    rw [h2, h3, List.length_take, List.length_drop]; omega
  · rw [(cut_no e).1, (cut_no e).2]; simp
theorem cutL10_le (l : By) : (cutL10 l).length ≤ l.length := by
  unfold cutL10
  split
  · rw [List.length_dropLast]; omega
  · exact Nat.le_refl _
theorem splE_le (c : UInt8) : ∀ l : By, ∀ w, w ∈ splE c l → w.length ≤ l.length
  | [], w, h => by
    have h : w ∈ [([] : By)] := h
    simp only [List.mem_singleton] at h
    subst h; simp
  | b :: r, w, h => by
    have ih := splE_le c r
    have h : w ∈ (if b = c then [] :: splE c r else match splE c r with
      | [] => [[b]]
      | w :: ws => (b :: w) :: ws) := h
    by_cases e : b = c
    · rw [if_pos e] at h
      rcases List.mem_cons.1 h with h | h
      · subst h; simp
      · have := ih w h; simp only [List.length_cons]; omega
    · rw [if_neg e] at h
      revert ih h
      cases splE c r with
      | nil => intro ih h; simp only [List.mem_singleton] at h; subst h; simp
      | cons v vs =>
        intro ih h
        rcases List.mem_cons.1 h with h | h
        · subst h
          have := ih v (by simp)
          simp only [List.length_cons]; omega
        · have := ih w (by simp [h]); simp only [List.length_cons]; omega
end Go.Proofs.YtdfiicpikcdokaaGreatDoor
namespace Go.Proofs.YtdfiicpikcdokaaGreatDoor
set_option linter.unusedSimpArgs false
set_option linter.unusedVariables false
open Go.RowKit
set_option maxRecDepth 20000

structure JI (RES : Nt × Int × Int) (L : Nat) (s : By) (n : Nt) (i : Int) : Prop where
  r : prs33 s n i = RES
  ok : NtOk n
  l : n.caps.length + n.fls.length + s.length ≤ L
  i : 0 ≤ i ∧ i + s.length ≤ L
theorem ji_step {RES : Nt × Int × Int} {L : Nat} {s : By} {n : Nt} {i : Int} (hJ : JI RES L s n i) (hs : s ≠ []) (h : (lineE s).getLast? = some 10 ∧ (addN n (splE 32 (cutL10 (lineE s)))).2 = true) : JI RES L (restE s) (addN n (splE 32 (cutL10 (lineE s)))).1 (i + 1) := by
  have h1 := hJ.r
  rw [prs33, dif_neg hs, if_pos h] at h1
  have h2 := addN_len n (splE 32 (cutL10 (lineE s)))
  have h3 := rest_lt hs
  have h4 := hJ.l
  have h5 := hJ.i
  exact ⟨h1, addN_ok hJ.ok _, by omega, by omega, by omega⟩
def TE (RES : Nt × Int × Int) (h' : LH) : Prop := ∃ i tl, RES = (emN, i, 3) ∧ h' = mkH ((0, .box [.nsl, .nsl]) :: (0, .box [.sc (.int .i64 i)]) :: (0, .box [.sc (.int .i64 3)]) :: tl)
theorem parse_round {n B D : Nat} {rec : Loop} {R Rs : RO} {ι ιs : IM} {hs : LH} {w : World} {RES : Nt × Int × Int} {L : Nat} (hL : L ≤ 65536) {s : By} {n' : Nt} {i : Int} (hJ : JI RES L s n' i) (hne : s ≠ [])
    (hst : rec.state = .ready) (hps : rec.params = #[16]) (hA0 : ActOk 39 { tmps := rec.tmps, defers := [] } sO Rs ιs hs) (hm : Mono Rs ιs hs R ι (mkH (nhO n' i (restE s)))) (hrep : Rep R ι (mkH (nhO n' i (restE s))) B w) (hB : B ≤ w.heap.size) (hb : Besides B D rec R w)
    (hra : rec.assign = rfA (inB (sq2 prL))) (hrb : rec.body = rfB (inB (sq2 prL))) :
    YieldAt (FW none) n Tryz.prog (D + 1) #[.string (strB (lineE s))] w (RoundEnd B D rec R ι (mkH (nhO n' i (restE s))) w (fun h' => ∃ n2 i2, h' = mkH (nhO n2 i2 (restE s)) ∧ JI RES L (restE s) n2 i2) (TE RES)) := by
  have h1 := line_rest s
  have h2 := hJ.l
  have h3 := hJ.i
  have h4 := cutL10_le (lineE s)
  have hlw := round_body n' i (restE s) (lineE s) ⟨h3.1, by omega⟩ (by omega) (by omega) (by omega) (fun w hw => by have := splE_le 32 _ w hw; omega) (by omega)
  have := round_ok (n := n) (P := Tryz.prog) hst hps (by decide) hA0 hm hrep hB hb (v := .string (strB (lineE s))) (.ro (.sc _ rfl)) (by rw [hra]; exact pr_c5) (by rw [hra]; exact pr_n5) (by rw [hrb]; exact pr_c6) (by rw [hrb]; exact pr_n6) hlw
  obtain ⟨f, t, x, y, q1, q2⟩ := this
  refine ⟨f, t, x, y, q1, q2.mono ?_⟩
  rintro e w' ⟨R', ι', h', hT, hk⟩
  refine ⟨R', ι', h', hT, ?_⟩
  rcases hk with ⟨e1, e2, _, e3, e4⟩ | ⟨e1, e2, _, e3, tl, e4⟩
  · exact .inl ⟨e1, e2, _, _, e4, ji_step hJ hne e3⟩
  · refine .inr ⟨e1, e2, i + 1, tl, ?_, e4⟩
    have hr := hJ.r
    rw [prs33, dif_neg hne, if_neg e3] at hr
    exact hr.symm
end Go.Proofs.YtdfiicpikcdokaaGreatDoor
