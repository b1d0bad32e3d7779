/- Distances in a plan: the search by a queue ends with the distances. Conditions: none. -/
import Derived.Test.YtggaonafmiklaaaGE
namespace Go.Proofs.Ytggaonafmiklaaa
set_option linter.unusedSimpArgs false
set_option linter.unusedVariables false
open Go.RowKit

def stepC (b : HB) (u : Int) (c : Cb) (on : Bool) : HB :=
  bif bif on then decide (c.b = u) else false then visit (bif bif on then decide (c.a = u) else false then visit b u c.b else b) u c.a else (bif bif on then decide (c.a = u) else false then visit b u c.b else b)
def foldC (cs : List Cb) (up : List Bool) (u : Int) (b : HB) : Nat → HB
  | 0 => b
  | i + 1 => stepC (foldC cs up u b i) u (cs.getD i default) (up.getD i false)
/-- The cables that are up, of the first ones. -/
def upP (cs : List Cb) (up : List Bool) (i : Nat) : List Cb := ((List.range i).filter fun j => up.getD j false).map fun j => cs.getD j default
def upU (cs : List Cb) (up : List Bool) : List Cb := upP cs up cs.length
theorem upP_succ (cs : List Cb) (up : List Bool) (i : Nat) : upP cs up (i + 1) = upP cs up i ++ (bif up.getD i false then [cs.getD i default] else []) := by
  unfold upP
  rw [List.range_succ, List.filter_append, List.map_append]
  congr 1
  cases h : up.getD i false <;> simp [h, List.getD_eq_getElem?_getD] <;> simp_all [List.getD_eq_getElem?_getD]
theorem upP_mem {cs : List Cb} {up : List Bool} {i : Nat} {c : Cb} : c ∈ upP cs up i ↔ ∃ j, j < i ∧ up.getD j false = true ∧ cs.getD j default = c := by
  unfold upP
  simp only [List.mem_map, List.mem_filter, List.mem_range]
  constructor
  · rintro ⟨j, ⟨h1, h2⟩, h3⟩; exact ⟨j, h1, h2, h3⟩
  · rintro ⟨j, h1, h2, h3⟩; exact ⟨j, ⟨h1, h2⟩, h3⟩
theorem upU_in {n : Nat} {cs : List Cb} {up : List Bool} (hc : ∀ c, c ∈ cs → inN n c.a ∧ inN n c.b) : CabN n (upU cs up) := by
  intro c hm
  obtain ⟨j, h1, _, h3⟩ := upP_mem.1 hm
  rw [List.getD_eq_getElem?_getD, List.getElem?_eq_getElem h1] at h3
  rw [← h3]; exact hc _ (List.getElem_mem h1)

theorem unl_set : ∀ {l : List Int} {i : Nat} {v : Int}, i < l.length → l.getD i 0 < 0 → 0 ≤ v → unl (l.set i v) + 1 = unl l
  | [], _, _, h, _, _ => by simp at h
  | x :: r, 0, v, _, h, hv => by
    simp only [List.getD_cons_zero] at h
    simp [unl, h, show ¬ v < 0 by omega]
  | x :: r, i + 1, v, h, hx, hv => by
    have := unl_set (l := r) (i := i) (v := v) (by simpa using h) (by simpa using hx) hv
    simp only [unl, List.set_cons_succ, List.countP_cons] at this ⊢
    omega

section
variable {n : Nat} {U U' : List Cb} {r u : Int} {b : HB} {cs : List Cb} {up : List Bool}

theorem visit_mu (h : VInv n U U' r u b) {y : Int} (hy : inN n y) : (visit b u y).mu ≤ b.mu := by
  unfold visit
  by_cases hl : lv b y < 0
  · rw [decide_eq_true hl, cond_true]
    have := unl_set (l := b.l) (i := y.toNat) (v := lv b u + 1) (by have := h.len; unfold inN at hy; omega) hl (by have := h.ur.2; omega)
    simp only [HB.mu, HB.q, List.drop_zero, List.length_append, List.length_cons, List.length_nil] at this ⊢
    omega
  · rw [decide_eq_false hl, cond_false]; exact Nat.le_refl _

theorem VInv.more {U'' : List Cb} (h : VInv n U U' r u b) (hc : ∀ y, nbr U'' u y → 0 ≤ lv b y) : VInv n U U'' r u b := ⟨h.len, h.root, h.low, h.ex, h.ur, h.qr, h.pw, h.cl, hc⟩

theorem VInv.step (hU : CabN n U) (hr : inN n r) (h : VInv n U U' r u b) {c : Cb} {on : Bool} (hc : on = true → c ∈ U) :
    VInv n U (U' ++ (bif on then [c] else [])) r u (stepC b u c on) ∧ (stepC b u c on).mu ≤ b.mu := by
  cases on with
  | false => simp only [stepC, cond_false, List.append_nil]; exact ⟨h, Nat.le_refl _⟩
  | true =>
    have hm := hc rfl
    obtain ⟨ha, hb⟩ := hU c hm
    simp only [stepC, cond_true]
    have h1 : VInv n U U' r u (bif decide (c.a = u) then visit b u c.b else b) ∧ (c.a = u → 0 ≤ lv (bif decide (c.a = u) then visit b u c.b else b) c.b) ∧ (bif decide (c.a = u) then visit b u c.b else b).mu ≤ b.mu := by
      by_cases e : c.a = u
      · rw [decide_eq_true e, cond_true]
        obtain ⟨g1, g2, _⟩ := h.vis hU hr (y := c.b) ⟨c, hm, .inl ⟨e, rfl⟩⟩
        exact ⟨g1, fun _ => g2, visit_mu h hb⟩
      · rw [decide_eq_false e, cond_false]; exact ⟨h, fun x => absurd x e, Nat.le_refl _⟩
    generalize (bif decide (c.a = u) then visit b u c.b else b) = b1 at h1 ⊢
    obtain ⟨i1, i2, i3⟩ := h1
    have h2 : VInv n U U' r u (bif decide (c.b = u) then visit b1 u c.a else b1) ∧ (c.a = u → 0 ≤ lv (bif decide (c.b = u) then visit b1 u c.a else b1) c.b) ∧ (c.b = u → 0 ≤ lv (bif decide (c.b = u) then visit b1 u c.a else b1) c.a) ∧ (bif decide (c.b = u) then visit b1 u c.a else b1).mu ≤ b1.mu := by
      by_cases e : c.b = u
      · rw [decide_eq_true e, cond_true]
        obtain ⟨g1, g2, g3⟩ := i1.vis hU hr (y := c.a) ⟨c, hm, .inr ⟨e, rfl⟩⟩
        exact ⟨g1, fun x => g3 _ hb (i2 x), fun _ => g2, visit_mu i1 ha⟩
      · rw [decide_eq_false e, cond_false]; exact ⟨i1, i2, fun x => absurd x e, Nat.le_refl _⟩
    obtain ⟨j1, j2, j3, j4⟩ := h2
    refine ⟨j1.more ?_, by omega⟩
    rintro y ⟨d, hd, hd2⟩
    rcases List.mem_append.1 hd with hd | hd
    · exact j1.clu y ⟨d, hd, hd2⟩
    · simp only [List.mem_singleton] at hd; subst hd
      rcases hd2 with ⟨e1, e2⟩ | ⟨e1, e2⟩
      · rw [← e2]; exact j2 e1
      · rw [← e2]; exact j3 e1

def pop (b : HB) : HB := ⟨b.l, b.xs, b.off + 1, b.ver⟩
theorem BInv.popd (h : BInv n U r b) {rest : List Int} (hq : b.q = u :: rest) : VInv n U [] r u (pop b) ∧ (pop b).mu + 1 = b.mu := by
  have hq2 : (pop b).q = rest := by
    show b.xs.drop (b.off + 1) = rest
    have : (b.xs.drop b.off).drop 1 = rest := by
      rw [show b.xs.drop b.off = u :: rest from hq]; rfl
    rw [List.drop_drop] at this; exact this
  refine ⟨⟨h.len, h.root, h.low, h.ex, h.qr u (by rw [hq]; simp), fun x hx => h.qr x (by rw [hq]; rw [hq2] at hx; simp [hx]), ?_, ?_, ?_⟩, ?_⟩
  · rw [hq2, ← hq]; exact h.pw
  · intro x y hx h0 hxq hxu hn
    refine h.cl x y hx h0 (fun hm => ?_) hn
    rw [hq] at hm; rw [hq2] at hxq
    rcases List.mem_cons.1 hm with e | e
    · exact hxu e
    · exact hxq e
  · rintro y ⟨c, hc, _⟩; simp at hc
  · simp only [HB.mu, hq2, hq, List.length_cons]
    show 2 * unl b.l + rest.length + 1 = _; omega

theorem VInv.fold (hU : CabN n (upU cs up)) (hr : inN n r) (h : VInv n (upU cs up) [] r u b) : ∀ i, i ≤ cs.length → VInv n (upU cs up) (upP cs up i) r u (foldC cs up u b i) ∧ (foldC cs up u b i).mu ≤ b.mu := by
  intro i
  induction i with
  | zero => intro _; exact ⟨h, Nat.le_refl _⟩
  | succ i ih =>
    intro hi
    obtain ⟨g1, g2⟩ := ih (by omega)
    rw [upP_succ]
    obtain ⟨a1, a2⟩ := g1.step hU hr (c := cs.getD i default) (on := up.getD i false) (fun ho => upP_mem.2 ⟨i, by omega, ho, rfl⟩)
    exact ⟨a1, Nat.le_trans a2 g2⟩
theorem VInv.done (h : VInv n U U r u b) : BInv n U r b := by
  refine ⟨h.len, h.root, h.low, h.ex, h.qr, (List.pairwise_cons.1 h.pw).2, ?_⟩
  intro x y hx h0 hq hn
  by_cases e : x = u
  · subst e; exact h.clu y hn
  · exact h.cl x y hx h0 hq e hn

theorem BInv.start (hr : inN n r) (l : List Int) (hl : l.length = n) (hv : ∀ x, inN n x → l.getD x.toNat 0 = if x = r then 0 else -1) (w : Nat) : BInv n U r ⟨l, [r], 0, w⟩ := by
  have hlv : ∀ x, inN n x → lv ⟨l, [r], 0, w⟩ x = if x = r then 0 else -1 := hv
  have hlr : lv ⟨l, [r], 0, w⟩ r = 0 := by rw [hlv r hr, if_pos rfl]
  have only : ∀ x, inN n x → 0 ≤ lv ⟨l, [r], 0, w⟩ x → x = r := fun x hx h0 => by
    rw [hlv x hx] at h0; split at h0
    · assumption
    · omega
  refine ⟨hl, hlr, ?_, ?_, ?_, ?_, ?_⟩
  · intro x hx; rw [hlv x hx]; split <;> omega
  · intro x hx h0; have := only x hx h0; subst this
    rw [hlr]; exact ⟨by simp [W], fun j hj => by simp at hj⟩
  · intro x hx; simp only [HB.q, List.drop_zero, List.mem_singleton] at hx; subst hx; exact ⟨hr, by rw [hlr]; exact Int.le_refl _⟩
  · simp [HB.q]
  · intro x y hx h0 hq hn
    have := only x hx h0; subst this
    exact absurd (by simp [HB.q]) hq
theorem getD_len {l l' : List Int} (hl : l.length = l'.length) (h : ∀ i, i < l.length → l.getD i 0 = l'.getD i 0) : l = l' := by
  apply List.ext_getElem hl
  intro i h1 h2
  have := h i h1
  simpa [List.getD_eq_getElem?_getD, h1, h2] using this
theorem distL_length : (distL n U r).length = n := by simp [distL]
theorem distL_getD {i : Nat} (hi : i < n) : (distL n U r).getD i 0 = distX n U r i := by
  simp [distL, List.getD_eq_getElem?_getD, hi]
theorem BInv.final (hU : CabN n U) (hr : inN n r) (h : BInv n U r b) (hq : b.q = []) : b.l = distL n U r := by
  have near : ∀ (k : Nat) (z : Int), inN n z → W U r k z = true → 0 ≤ lv b z := by
    intro k
    induction k with
    | zero => intro z _ hz; simp [W] at hz; subst hz; rw [h.root]; exact Int.le_refl _
    | succ k ih =>
      intro z hz hw
      rcases W_succ.1 hw with hw | ⟨y, hy, hw⟩
      · exact ih z hz hw
      · have hyn := (nbr_in hU hy).1
        exact h.cl y z hyn (ih y hyn hw) (by rw [hq]; simp) hy
  apply getD_len (by rw [h.len, distL_length])
  intro i hi
  rw [h.len] at hi
  rw [distL_getD hi]
  have hin : inN n (i : Int) := by unfold inN; omega
  have hlv : b.l.getD i 0 = lv b i := by simp [lv]
  rw [hlv]
  by_cases h0 : 0 ≤ lv b i
  · obtain ⟨g1, g2⟩ := h.ex i hin h0
    rw [distX_of hU hr g1 g2]; omega
  · have : ∀ k, W U r k i = false := fun k => by
      cases hq : W U r k i with
      | false => rfl
      | true => exact absurd (near k i hin hq) h0
    rw [distX_none this]
    have := h.low i hin; omega
end
end Go.Proofs.Ytggaonafmiklaaa
