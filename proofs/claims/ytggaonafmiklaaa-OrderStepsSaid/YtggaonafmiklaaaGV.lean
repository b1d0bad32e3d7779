/- The levels of the ends of a cable differ by at most one. Conditions: none. -/
import Derived.Test.YtggaonafmiklaaaGU
namespace Go.Proofs.Ytggaonafmiklaaa
set_option linter.unusedSimpArgs false
set_option linter.unusedVariables false
open Go.RowKit
set_option maxRecDepth 20000

/-- Over a cable that is up the distance grows by at most one. -/
theorem distX_near {n : Nat} {U : List Cb} {r : Int} (hU : CabN n U) (hr : inN n r) {x y : Int} (hn : nbr U x y) : (0 ≤ distX n U r x → 0 ≤ distX n U r y ∧ distX n U r y ≤ distX n U r x + 1) := by
  intro h
  rcases distX_cases hU hr x with ⟨h1, _⟩ | ⟨k, h1, _, h3, _⟩
  · omega
  · have hw : W U r (k + 1) y = true := W_succ.2 (.inr ⟨x, hn, h3⟩)
    rcases distX_cases hU hr y with ⟨_, h4⟩ | ⟨m, h4, _, _, h5⟩
    · rw [h4] at hw; simp at hw
    · have : m ≤ k + 1 := by
        rcases Nat.lt_or_ge (k + 1) m with hlt | hge
        · rw [h5 _ hlt] at hw; simp at hw
        · exact hge
      omega
/-- What the law keeps: which nodes have an upward step over a cable that is up. -/
def risS (l : List Int) (c : Cb) (on : Bool) (m : List Bool) : List Bool :=
  bif decide (lvl l c.a < 0) || decide (lvl l c.b < 0) then m
  else bif on then bif aboveB l c.b c.a then m.set c.a.toNat true else m.set c.b.toNat true else m
def risF (p : Pl) (l : List Int) (up : List Bool) : Nat → List Bool
  | 0 => List.replicate p.ns.length false
  | k + 1 => risS l (p.cs.getD k default) (up.getD k false) (risF p l up k)
theorem risF_len (p : Pl) (l : List Int) (up : List Bool) (k : Nat) : (risF p l up k).length = p.ns.length := by
  induction k with
  | zero => simp [risF]
  | succ k ih =>
    simp only [risF, risS]
    cases decide (lvl l (p.cs.getD k default).a < 0) || decide (lvl l (p.cs.getD k default).b < 0) <;> cases up.getD k false <;> cases aboveB l (p.cs.getD k default).b (p.cs.getD k default).a <;> simp [ih]
theorem risF_iff {p : Pl} {l : List Int} {up : List Bool} (hC : ∀ c, c ∈ p.cs → inN p.ns.length c.a ∧ inN p.ns.length c.b) (hl : l.length = p.ns.length) (hS : ∀ c, c ∈ p.cs → c.a ≠ c.b) (i k : Nat) (hk : k ≤ p.cs.length) :
    (risF p l up k).getD i false = true ↔ ∃ j, j < k ∧ up.getD j false = true ∧ ((aboveB l (p.cs.getD j default).b (p.cs.getD j default).a = true ∧ (p.cs.getD j default).a = i) ∨ (aboveB l (p.cs.getD j default).a (p.cs.getD j default).b = true ∧ (p.cs.getD j default).b = i)) := by
  induction k with
  | zero =>
    simp only [risF, List.getD_eq_getElem?_getD, List.getElem?_replicate]
    constructor
    · intro h; split at h <;> simp at h
    · rintro ⟨j, hj, _⟩; omega
  | succ k ih =>
    have ih := ih (by omega)
    have hm := risF_len p l up k
    have hcm : (p.cs.getD k default) ∈ p.cs := by rw [List.getD_eq_getElem?_getD, List.getElem?_eq_getElem (by omega)]; exact List.getElem_mem _
    obtain ⟨ha, hb⟩ := hC _ hcm
    have hs := hS _ hcm
    unfold inN at ha hb
    have A := aboveB_iff l (p.cs.getD k default).a (p.cs.getD k default).b
    have B := aboveB_iff l (p.cs.getD k default).b (p.cs.getD k default).a
    rw [hl] at A B
    have key : (risF p l up (k + 1)).getD i false = true ↔ (up.getD k false = true ∧ ((aboveB l (p.cs.getD k default).b (p.cs.getD k default).a = true ∧ (p.cs.getD k default).a = i) ∨ (aboveB l (p.cs.getD k default).a (p.cs.getD k default).b = true ∧ (p.cs.getD k default).b = i))) ∨ (risF p l up k).getD i false = true := by
      simp only [risF, risS]
      generalize p.cs.getD k default = c at *
      cases h0 : decide (lvl l c.a < 0) || decide (lvl l c.b < 0)
      · rw [cond_false]
        simp at h0
        cases up.getD k false
        · simp
        · rw [cond_true]
          cases h1 : aboveB l c.b c.a
          · rw [cond_false, getD_setT (by omega)]
            have h2 : aboveB l c.a c.b = true := by
              rw [h1] at B
              rw [A]
              simp only [Bool.false_eq_true, false_iff] at B
              omega
            simp only [h2, Bool.false_eq_true, false_and, true_and, false_or]
            constructor
            · rintro (h | h)
              · exact .inl (by omega)
              · exact .inr h
            · rintro (h | h)
              · exact .inl (by omega)
              · exact .inr h
          · rw [cond_true, getD_setT (by omega)]
            have h2 : aboveB l c.a c.b = false := by
              have hb := B.1 h1
              rw [Bool.eq_false_iff]
              intro h
              have := A.1 h
              omega
            simp only [h2, Bool.false_eq_true, false_and, true_and, or_false]
            constructor
            · rintro (h | h)
              · exact .inl (by omega)
              · exact .inr h
            · rintro (h | h)
              · exact .inl (by omega)
              · exact .inr h
      · rw [cond_true]
        simp at h0
        constructor
        · exact .inr
        · rintro (⟨_, ⟨h, _⟩ | ⟨h, _⟩⟩ | h)
          · have := B.1 h; omega
          · have := A.1 h; omega
          · exact h
    rw [key, ih]
    constructor
    · rintro (h | ⟨j, hj, h⟩)
      · exact ⟨k, by omega, h⟩
      · exact ⟨j, by omega, h⟩
    · rintro ⟨j, hj, h⟩
      by_cases e : j = k
      · subst e; exact .inl h
      · exact .inr ⟨j, by omega, h⟩
theorem rises_dist {p : Pl} {up : List Bool} {r : Int} (hv : validE p = 0) (hr : inN p.ns.length r) (i : Nat) (hi : i < p.ns.length) (h0 : 0 ≤ lvl (distL p.ns.length (upU p.cs up) r) i) :
    (risF p (distL p.ns.length (upU p.cs up) r) up p.cs.length).getD i false = !decide ((i : Int) = r) := by
  have hV := valid_of hv
  have hU := upU_in (n := p.ns.length) (up := up) hV.cab
  have hin : inN p.ns.length (i : Int) := ⟨by omega, by omega⟩
  have hlen : (distL p.ns.length (upU p.cs up) r).length = p.ns.length := distL_length
  rw [Bool.eq_iff_iff, risF_iff hV.cab hlen hV.self i _ (Nat.le_refl _)]
  simp only [Bool.not_eq_true', decide_eq_false_iff_not]
  have AB : ∀ a b, aboveB (distL p.ns.length (upU p.cs up) r) a b = true ↔ _ := aboveB_iff (distL p.ns.length (upU p.cs up) r)
  have hz : lvl (distL p.ns.length (upU p.cs up) r) i = 0 ↔ (i : Int) = r := by rw [lvl_dist hin]; exact distX_zero hU hr i
  constructor
  · rintro ⟨j, hj, _, h⟩ e
    have hcm : (p.cs.getD j default) ∈ p.cs := by rw [List.getD_eq_getElem?_getD, List.getElem?_eq_getElem hj]; exact List.getElem_mem _
    obtain ⟨ha, hb⟩ := hV.cab _ hcm
    have hs := hV.self _ hcm
    have hi0 := hz.2 e
    have za := distX_zero hU hr (p.cs.getD j default).a
    have zb := distX_zero hU hr (p.cs.getD j default).b
    rw [← lvl_dist ha] at za
    rw [← lvl_dist hb] at zb
    rcases h with ⟨h, h2⟩ | ⟨h, h2⟩
    · have := (AB _ _).1 h
      rw [h2] at this
      omega
    · have := (AB _ _).1 h
      rw [h2] at this
      omega
  · intro hne
    have hpos : 0 < distX p.ns.length (upU p.cs up) r i := by
      rw [lvl_dist hin] at h0 hz
      have : distX p.ns.length (upU p.cs up) r i ≠ 0 := fun h => hne (hz.1 h)
      omega
    obtain ⟨z, hzn, hd⟩ := distX_step hU hr hpos
    have hzin := (nbr_in hU hzn).1
    obtain ⟨c, hc, hab⟩ := hzn
    obtain ⟨j, hj, hu, rfl⟩ := upP_mem.1 hc
    refine ⟨j, hj, hu, ?_⟩
    unfold inN at hzin hin
    have hab' : aboveB (distL p.ns.length (upU p.cs up) r) z i = true := by
      rw [AB, hlen]
      rw [lvl_dist (n := p.ns.length) ⟨by omega, by omega⟩, lvl_dist (n := p.ns.length) (x := (i : Int)) ⟨by omega, by omega⟩]
      omega
    rcases hab with ⟨ha, hb⟩ | ⟨hb, ha⟩
    · right; rw [ha, hb]; exact ⟨hab', rfl⟩
    · left; rw [ha, hb]; exact ⟨hab', rfl⟩
end Go.Proofs.Ytggaonafmiklaaa
