/- Distances in a plan: the search by a queue keeps what it must. Conditions: none. -/
import Derived.Test.YtggaonafmiklaaaGD
namespace Go.Proofs.Ytggaonafmiklaaa
set_option linter.unusedSimpArgs false
set_option linter.unusedVariables false
open Go.RowKit

/-- The state of the search: levels, the queue's cells, where it begins, how often it moved. -/
structure HB where
  l : List Int
  xs : List Int
  off : Nat
  ver : Nat
def HB.q (b : HB) : List Int := b.xs.drop b.off
def lv (b : HB) (x : Int) : Int := b.l.getD x.toNat 0
def visit (b : HB) (u y : Int) : HB := bif decide (lv b y < 0) then ⟨b.l.set y.toNat (lv b u + 1), b.q ++ [y], 0, b.ver + 1⟩ else b

structure BInv (n : Nat) (U : List Cb) (r : Int) (b : HB) : Prop where
  len : b.l.length = n
  root : lv b r = 0
  low : ∀ x, inN n x → -1 ≤ lv b x
  ex : ∀ x, inN n x → 0 ≤ lv b x → W U r (lv b x).toNat x = true ∧ ∀ j, j < (lv b x).toNat → W U r j x = false
  qr : ∀ x, x ∈ b.q → inN n x ∧ 0 ≤ lv b x
  pw : b.q.Pairwise fun x y => lv b x ≤ lv b y ∧ lv b y ≤ lv b x + 1
  cl : ∀ x y, inN n x → 0 ≤ lv b x → x ∉ b.q → nbr U x y → 0 ≤ lv b y
/-- In the midst of a node's cables. -/
structure VInv (n : Nat) (U U' : List Cb) (r u : Int) (b : HB) : Prop where
  len : b.l.length = n
  root : lv b r = 0
  low : ∀ x, inN n x → -1 ≤ lv b x
  ex : ∀ x, inN n x → 0 ≤ lv b x → W U r (lv b x).toNat x = true ∧ ∀ j, j < (lv b x).toNat → W U r j x = false
  ur : inN n u ∧ 0 ≤ lv b u
  qr : ∀ x, x ∈ b.q → inN n x ∧ 0 ≤ lv b x
  pw : (u :: b.q).Pairwise fun x y => lv b x ≤ lv b y ∧ lv b y ≤ lv b x + 1
  cl : ∀ x y, inN n x → 0 ≤ lv b x → x ∉ b.q → x ≠ u → nbr U x y → 0 ≤ lv b y
  clu : ∀ y, nbr U' u y → 0 ≤ lv b y

def unl (l : List Int) : Nat := l.countP fun x => decide (x < 0)
def HB.mu (b : HB) : Nat := 2 * unl b.l + b.q.length

theorem lv_set {b : HB} {n : Nat} (hl : b.l.length = n) {y x : Int} (hy : inN n y) (hx : inN n x) (v : Int) (xs : List Int) (o w : Nat) : lv ⟨b.l.set y.toNat v, xs, o, w⟩ x = if x = y then v else lv b x := by
  unfold lv inN at *
  simp only [List.getD_eq_getElem?_getD]
  by_cases e : x = y
  · subst e; rw [if_pos rfl, List.getElem?_set_self (by omega)]; rfl
  · rw [if_neg e, List.getElem?_set_ne (by omega)]

section
variable {n : Nat} {U U' : List Cb} {r u : Int} {b : HB}

theorem VInv.near (hU : CabN n U) (hr : inN n r) (h : VInv n U U' r u b) : ∀ (k : Nat) (z : Int), (k : Int) ≤ lv b u → W U r k z = true → 0 ≤ lv b z := by
  intro k
  induction k with
  | zero => intro z _ hz; simp [W] at hz; subst hz; rw [h.root]; exact Int.le_refl _
  | succ k ih =>
    intro z hk hz
    rcases W_succ.1 hz with hw | ⟨y, hy, hw⟩
    · exact ih z (by omega) hw
    · have hly := ih y (by omega) hw
      have hyn := (nbr_in hU hy).1
      have hle : lv b y ≤ k := by
        by_cases e : k < (lv b y).toNat
        · rw [(h.ex y hyn hly).2 k e] at hw; exact absurd hw (by simp)
        · omega
      refine h.cl y z hyn hly (fun hq => ?_) (fun e => ?_) hy
      · have := (List.pairwise_cons.1 h.pw).1 y hq; omega
      · subst e; omega

theorem VInv.vis (hU : CabN n U) (hr : inN n r) (h : VInv n U U' r u b) {y : Int} (hy : nbr U u y) :
    VInv n U U' r u (visit b u y) ∧ 0 ≤ lv (visit b u y) y ∧ (∀ x, inN n x → 0 ≤ lv b x → 0 ≤ lv (visit b u y) x) := by
  unfold visit
  have hyn := (nbr_in hU hy).2
  by_cases hl : lv b y < 0
  · have hd : decide (lv b y < 0) = true := decide_eq_true hl
    rw [hd, cond_true]
    have hset := fun x hx => lv_set h.len (y := y) (x := x) hyn hx (lv b u + 1) (b.q ++ [y]) 0 (b.ver + 1)
    generalize hb : (⟨b.l.set y.toNat (lv b u + 1), b.q ++ [y], 0, b.ver + 1⟩ : HB) = b' at hset ⊢
    have hlen : b'.l.length = n := by rw [← hb]; simp [h.len]
    have hq : b'.q = b.q ++ [y] := by rw [← hb]; rfl
    have hold : ∀ x, inN n x → 0 ≤ lv b x → lv b' x = lv b x := fun x hx h0 => by
      rw [hset x hx, if_neg]; intro e; subst e; omega
    have hyv : lv b' y = lv b u + 1 := by rw [hset y hyn, if_pos rfl]
    have hru : r ≠ y := fun e => by have := h.root; rw [e] at this; omega
    have huy : lv b' u = lv b u := hold u h.ur.1 h.ur.2
    have hnew : W U r (lv b u + 1).toNat y = true ∧ ∀ j, j < (lv b u + 1).toNat → W U r j y = false := by
      have h0 := h.ur.2
      have e : (lv b u + 1).toNat = (lv b u).toNat + 1 := by omega
      rw [e]
      refine ⟨W_succ.2 (.inr ⟨u, hy, (h.ex u h.ur.1 h.ur.2).1⟩), fun j hj => ?_⟩
      cases hq : W U r j y with
      | false => rfl
      | true => have := h.near hU hr j y (by omega) hq; omega
    have hlab : ∀ x, inN n x → 0 ≤ lv b' x → x ≠ y → 0 ≤ lv b x ∧ lv b' x = lv b x := fun x hx h0 e => by
      rw [hset x hx, if_neg e] at h0; exact ⟨h0, by rw [hset x hx, if_neg e]⟩
    refine ⟨⟨hlen, ?_, ?_, ?_, ⟨h.ur.1, by rw [huy]; exact h.ur.2⟩, ?_, ?_, ?_, ?_⟩, ?_, ?_⟩
    · rw [hold r hr (by rw [h.root]; exact Int.le_refl _)]; exact h.root
    · intro x hx
      by_cases e : x = y
      · subst e; rw [hyv]; have := h.ur.2; omega
      · rw [hset x hx, if_neg e]; exact h.low x hx
    · intro x hx h0
      by_cases e : x = y
      · subst e; rw [hyv]; exact hnew
      · obtain ⟨g1, g2⟩ := hlab x hx h0 e; rw [g2]; exact h.ex x hx g1
    · intro x hx
      rw [hq] at hx
      rcases List.mem_append.1 hx with hx | hx
      · have g := h.qr x hx; exact ⟨g.1, by rw [hold x g.1 g.2]; exact g.2⟩
      · simp only [List.mem_singleton] at hx; subst hx; exact ⟨hyn, by rw [hyv]; have := h.ur.2; omega⟩
    · rw [hq, ← List.cons_append, List.pairwise_append]
      obtain ⟨p1, p2⟩ := List.pairwise_cons.1 h.pw
      refine ⟨?_, by simp, ?_⟩
      · rw [List.pairwise_cons]
        refine ⟨fun x hx => ?_, ?_⟩
        · have g := h.qr x hx; rw [huy, hold x g.1 g.2]; exact p1 x hx
        · refine List.Pairwise.imp_of_mem ?_ p2
          intro x z hx hz hp
          have g := h.qr x hx; have g' := h.qr z hz
          rw [hold x g.1 g.2, hold z g'.1 g'.2]; exact hp
      · intro x hx z hz
        simp only [List.mem_singleton] at hz; subst hz
        rw [hyv]
        rcases List.mem_cons.1 hx with rfl | hx
        · rw [huy]; omega
        · have g := h.qr x hx; rw [hold x g.1 g.2]; have := p1 x hx; omega
    · intro x z hx h0 hxq hxu hn
      have hzn := (nbr_in hU hn).2
      rw [hq] at hxq
      have e : x ≠ y := fun e => hxq (by rw [e]; simp)
      obtain ⟨g1, g2⟩ := hlab x hx h0 e
      have := h.cl x z hx g1 (fun hm => hxq (List.mem_append_left _ hm)) hxu hn
      rw [hold z hzn this]; exact this
    · intro z hz
      by_cases e : z = y
      · subst e; rw [hyv]; have := h.ur.2; omega
      · have hz0 := h.clu z hz
        by_cases hzn : inN n z
        · rw [hold z hzn hz0]; exact hz0
        · have : lv b' z = lv b z := by
            rw [← hb]; unfold lv
            simp only [List.getD_eq_getElem?_getD]
            rw [List.getElem?_set_ne]
            unfold inN at hzn hyn
            intro e2
            have : z < 0 := by omega
            have : z.toNat = 0 := by omega
            have hy0 : y = 0 := by omega
            subst hy0
            have : lv b z = lv b 0 := by unfold lv; rw [show z.toNat = (0 : Int).toNat by omega]
            omega
          rw [this]; exact hz0
    · rw [hyv]; have := h.ur.2; omega
    · intro x hx h0; rw [hold x hx h0]; exact h0
  · have hd : decide (lv b y < 0) = false := decide_eq_false hl
    rw [hd, cond_false]
    exact ⟨h, by omega, fun _ _ h => h⟩
end
end Go.Proofs.Ytggaonafmiklaaa
