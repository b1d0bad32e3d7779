/- Chapter 21: the laws CertificateCheck and CertificateExists; Chapter 21: the law CertificateExists; Chapter 21: the law CertificateParts. Conditions: none. -/
import Derived.Test.YteblljpbnpaplaaMH
namespace Go.Proofs.Yteblljpbnpaplaa
set_option linter.unusedSimpArgs false
set_option linter.unusedVariables false
open Go.RowKit
set_option maxRecDepth 20000

end Go.Proofs.Yteblljpbnpaplaa
namespace Go.Proofs.Yteblljpbnpaplaa
set_option linter.unusedSimpArgs false
set_option linter.unusedVariables false
open Go.RowKit
set_option maxRecDepth 20000

theorem vio_false {r : List Int} {d : Dp} : vioB r d = false ↔ inN r.length d.f ∧ inN r.length d.t ∧ lvl r d.f < lvl r d.t := by
  unfold vioB
  constructor
  · intro h
    have h1 : hasM r.length d.f = true := by cases e : hasM r.length d.f <;> rw [e] at h <;> simp at h ⊢
    have h2 : hasM r.length d.t = true := by cases e : hasM r.length d.t <;> rw [e, h1] at h <;> simp at h ⊢
    rw [h1, h2] at h
    have h3 := of_decide_eq_false (show decide (r.getD d.t.toNat 0 ≤ r.getD d.f.toNat 0) = false from h)
    refine ⟨hasM_iff.1 h1, hasM_iff.1 h2, ?_⟩
    unfold lvl; omega
  · rintro ⟨h1, h2, h3⟩
    rw [hasM_iff.2 h1, hasM_iff.2 h2]
    unfold lvl at h3
    exact decide_eq_false (by omega)
theorem chk_nil {l : List Dp} {r : List Int} : chkL l r = [] ↔ ∀ d, d ∈ l → inN r.length d.f ∧ inN r.length d.t ∧ lvl r d.f < lvl r d.t := by
  unfold chkL
  rw [List.filter_eq_nil_iff]
  constructor
  · intro h d hd
    have := h d hd
    rw [Bool.not_eq_true] at this
    exact vio_false.1 this
  · intro h d hd
    rw [Bool.not_eq_true]
    exact vio_false.2 (h d hd)
theorem few_true {l : List Dp} {n : Int} (h : fewE l n = true) : l.length ≤ 120 := by
  unfold fewE at h
  cases e : decide ((l.length : Int) ≤ 120)
  · rw [e] at h; simp at h
  · have := of_decide_eq_true e; omega
def chN (c : Int) : Int := 1 + c.tmod 60
theorem chN_in {c : Int} (h0 : 0 ≤ c) : 1 ≤ chN c ∧ chN c ≤ 60 := by
  unfold chN
  have h1 := Int.tmod_nonneg 60 h0
  have h2 := Int.tmod_lt_of_pos c (show (0 : Int) < 60 by decide)
  omega
end Go.Proofs.Yteblljpbnpaplaa
namespace Go.Proofs.Yteblljpbnpaplaa
set_option linter.unusedSimpArgs false
set_option linter.unusedVariables false
open Go.RowKit
set_option maxRecDepth 20000

end Go.Proofs.Yteblljpbnpaplaa
